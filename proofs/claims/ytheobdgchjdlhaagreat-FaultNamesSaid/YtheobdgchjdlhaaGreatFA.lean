/- What the pieces of functions come to: printed by program. -/
import Derived.Test.YtheobdgchjdlhaaGreatYTryzP
import Derived.Test.YtheobdgchjdlhaaGreatYFun
namespace Go.Y
open Go.Proofs
set_option maxRecDepth 100000
set_option maxHeartbeats 0
theorem f3_0 (x0 : Int) (h : Heap) (K : Out → Nat → List V → Heap → Prop) : (codeP Tryz.Y (Tryz.Y.loc 3) 100 ((flat (bodyOf Tryz.f3))) ⟨(V.i IntKind.i64 x0 :: List.replicate 20 .undef), [], h⟩ (VQ [2] K)) =
  (∃ (b : Bool),
  (PCon Tryz.Y (4 : Nat) [] fun (v : V) => v = V.b b) ∧
    If (!b) (K Out.ret 21 [V.b false] h)
      (If (leI (1 : Int) x0)
        (If (leI x0 (4 : Int))
          (((0 : Int) ≤ IntKind.i64.wrap (x0 - (1 : Int)) ∧ IntKind.i64.wrap (x0 - (1 : Int)) < (↑(4 : Nat) : Int)) ∧
            ∃ (s : List UInt8),
              takeX 1
                    (List.drop ((IntKind.i64.wrap (x0 - (1 : Int))).toNat * (1 : Nat))
                    (splice
                    (splice
                    (splice
                    (splice (List.replicate (4 : Nat) [V.s []]).flatten
                    (((0 : Nat),
                    Operand.const
                    (Value.string
                    {
                    data :=
                    #[(100 : UInt8), (101 : UInt8), (97 : UInt8), (100 : UInt8), (108 : UInt8),
                    (111 : UInt8), (99 : UInt8), (107 : UInt8)] })).fst *
                    (1 : Nat))
                    (ev
                    (((((((((((((((V.i IntKind.i64 x0 :: List.replicate (20 : Nat) V.undef).set (2 : Nat)
                    (ev
                    (V.i IntKind.i64 x0 ::
                    List.replicate (20 : Nat)
                    V.undef)
                    (Operand.const
                    (Value.bool false)))).set
                    (4 : Nat) (V.b b)).set
                    (5 : Nat) (V.b !b)).set
                    (5 : Nat) (V.b false)).set
                    (3 : Nat)
                    (ev
                    (((((V.i IntKind.i64 x0 ::
                    List.replicate (20 : Nat)
                    V.undef).set
                    (2 : Nat)
                    (ev
                    (V.i IntKind.i64 x0 ::
                    List.replicate (20 : Nat)
                    V.undef)
                    (Operand.const
                    (Value.bool false)))).set
                    (4 : Nat) (V.b b)).set
                    (5 : Nat) (V.b !b)).set
                    (5 : Nat) (V.b false))
                    (Operand.const
                    (Value.string
                    {
                    data :=
                    #[(110 : UInt8), (111 : UInt8),
                    (110 : UInt8),
                    (101 : UInt8)] })))).set
                    (6 : Nat)
                    (ev
                    ((((((V.i IntKind.i64 x0 ::
                    List.replicate (20 : Nat)
                    V.undef).set
                    (2 : Nat)
                    (ev
                    (V.i IntKind.i64 x0 ::
                    List.replicate (20 : Nat)
                    V.undef)
                    (Operand.const
                    (Value.bool false)))).set
                    (4 : Nat) (V.b b)).set
                    (5 : Nat) (V.b !b)).set
                    (5 : Nat) (V.b false)).set
                    (3 : Nat)
                    (ev
                    (((((V.i IntKind.i64 x0 ::
                    List.replicate (20 : Nat)
                    V.undef).set
                    (2 : Nat)
                    (ev
                    (V.i IntKind.i64 x0 ::
                    List.replicate (20 : Nat)
                    V.undef)
                    (Operand.const
                    (Value.bool false)))).set
                    (4 : Nat) (V.b b)).set
                    (5 : Nat) (V.b !b)).set
                    (5 : Nat) (V.b false))
                    (Operand.const
                    (Value.string
                    {
                    data :=
                    #[(110 : UInt8), (111 : UInt8),
                    (110 : UInt8), (101 : UInt8)] }))))
                    (Operand.tmp (0 : Nat)))).set
                    (7 : Nat) (V.b (leI (1 : Int) x0))).set
                    (8 : Nat)
                    (ev
                    ((((((((V.i IntKind.i64 x0 ::
                    List.replicate (20 : Nat)
                    V.undef).set
                    (2 : Nat)
                    (ev
                    (V.i IntKind.i64 x0 ::
                    List.replicate (20 : Nat)
                    V.undef)
                    (Operand.const
                    (Value.bool false)))).set
                    (4 : Nat) (V.b b)).set
                    (5 : Nat) (V.b !b)).set
                    (5 : Nat) (V.b false)).set
                    (3 : Nat)
                    (ev
                    (((((V.i IntKind.i64 x0 ::
                    List.replicate (20 : Nat)
                    V.undef).set
                    (2 : Nat)
                    (ev
                    (V.i IntKind.i64 x0 ::
                    List.replicate (20 : Nat)
                    V.undef)
                    (Operand.const
                    (Value.bool false)))).set
                    (4 : Nat) (V.b b)).set
                    (5 : Nat) (V.b !b)).set
                    (5 : Nat) (V.b false))
                    (Operand.const
                    (Value.string
                    {
                    data :=
                    #[(110 : UInt8), (111 : UInt8),
                    (110 : UInt8),
                    (101 : UInt8)] })))).set
                    (6 : Nat)
                    (ev
                    ((((((V.i IntKind.i64 x0 ::
                    List.replicate (20 : Nat)
                    V.undef).set
                    (2 : Nat)
                    (ev
                    (V.i IntKind.i64 x0 ::
                    List.replicate (20 : Nat)
                    V.undef)
                    (Operand.const
                    (Value.bool false)))).set
                    (4 : Nat) (V.b b)).set
                    (5 : Nat) (V.b !b)).set
                    (5 : Nat) (V.b false)).set
                    (3 : Nat)
                    (ev
                    (((((V.i IntKind.i64 x0 ::
                    List.replicate (20 : Nat)
                    V.undef).set
                    (2 : Nat)
                    (ev
                    (V.i IntKind.i64 x0 ::
                    List.replicate (20 : Nat)
                    V.undef)
                    (Operand.const
                    (Value.bool false)))).set
                    (4 : Nat) (V.b b)).set
                    (5 : Nat) (V.b !b)).set
                    (5 : Nat) (V.b false))
                    (Operand.const
                    (Value.string
                    {
                    data :=
                    #[(110 : UInt8), (111 : UInt8),
                    (110 : UInt8), (101 : UInt8)] }))))
                    (Operand.tmp (0 : Nat)))).set
                    (7 : Nat) (V.b (leI (1 : Int) x0)))
                    (Operand.tmp (7 : Nat)))).set
                    (8 : Nat) (V.b true)).set
                    (9 : Nat)
                    (ev
                    ((((((((((V.i IntKind.i64 x0 ::
                    List.replicate (20 : Nat)
                    V.undef).set
                    (2 : Nat)
                    (ev
                    (V.i IntKind.i64 x0 ::
                    List.replicate (20 : Nat)
                    V.undef)
                    (Operand.const
                    (Value.bool false)))).set
                    (4 : Nat) (V.b b)).set
                    (5 : Nat) (V.b !b)).set
                    (5 : Nat) (V.b false)).set
                    (3 : Nat)
                    (ev
                    (((((V.i IntKind.i64 x0 ::
                    List.replicate (20 : Nat)
                    V.undef).set
                    (2 : Nat)
                    (ev
                    (V.i IntKind.i64 x0 ::
                    List.replicate (20 : Nat)
                    V.undef)
                    (Operand.const
                    (Value.bool false)))).set
                    (4 : Nat) (V.b b)).set
                    (5 : Nat) (V.b !b)).set
                    (5 : Nat) (V.b false))
                    (Operand.const
                    (Value.string
                    {
                    data :=
                    #[(110 : UInt8), (111 : UInt8),
                    (110 : UInt8),
                    (101 : UInt8)] })))).set
                    (6 : Nat)
                    (ev
                    ((((((V.i IntKind.i64 x0 ::
                    List.replicate (20 : Nat)
                    V.undef).set
                    (2 : Nat)
                    (ev
                    (V.i IntKind.i64 x0 ::
                    List.replicate (20 : Nat)
                    V.undef)
                    (Operand.const
                    (Value.bool false)))).set
                    (4 : Nat) (V.b b)).set
                    (5 : Nat) (V.b !b)).set
                    (5 : Nat) (V.b false)).set
                    (3 : Nat)
                    (ev
                    (((((V.i IntKind.i64 x0 ::
                    List.replicate (20 : Nat)
                    V.undef).set
                    (2 : Nat)
                    (ev
                    (V.i IntKind.i64 x0 ::
                    List.replicate (20 : Nat)
                    V.undef)
                    (Operand.const
                    (Value.bool false)))).set
                    (4 : Nat) (V.b b)).set
                    (5 : Nat) (V.b !b)).set
                    (5 : Nat) (V.b false))
                    (Operand.const
                    (Value.string
                    {
                    data :=
                    #[(110 : UInt8), (111 : UInt8),
                    (110 : UInt8), (101 : UInt8)] }))))
                    (Operand.tmp (0 : Nat)))).set
                    (7 : Nat) (V.b (leI (1 : Int) x0))).set
                    (8 : Nat)
                    (ev
                    ((((((((V.i IntKind.i64 x0 ::
                    List.replicate (20 : Nat)
                    V.undef).set
                    (2 : Nat)
                    (ev
                    (V.i IntKind.i64 x0 ::
                    List.replicate (20 : Nat)
                    V.undef)
                    (Operand.const
                    (Value.bool false)))).set
                    (4 : Nat) (V.b b)).set
                    (5 : Nat) (V.b !b)).set
                    (5 : Nat) (V.b false)).set
                    (3 : Nat)
                    (ev
                    (((((V.i IntKind.i64 x0 ::
                    List.replicate (20 : Nat)
                    V.undef).set
                    (2 : Nat)
                    (ev
                    (V.i IntKind.i64 x0 ::
                    List.replicate (20 : Nat)
                    V.undef)
                    (Operand.const
                    (Value.bool false)))).set
                    (4 : Nat) (V.b b)).set
                    (5 : Nat) (V.b !b)).set
                    (5 : Nat) (V.b false))
                    (Operand.const
                    (Value.string
                    {
                    data :=
                    #[(110 : UInt8), (111 : UInt8),
                    (110 : UInt8),
                    (101 : UInt8)] })))).set
                    (6 : Nat)
                    (ev
                    ((((((V.i IntKind.i64 x0 ::
                    List.replicate (20 : Nat)
                    V.undef).set
                    (2 : Nat)
                    (ev
                    (V.i IntKind.i64 x0 ::
                    List.replicate (20 : Nat)
                    V.undef)
                    (Operand.const
                    (Value.bool false)))).set
                    (4 : Nat) (V.b b)).set
                    (5 : Nat) (V.b !b)).set
                    (5 : Nat) (V.b false)).set
                    (3 : Nat)
                    (ev
                    (((((V.i IntKind.i64 x0 ::
                    List.replicate (20 : Nat)
                    V.undef).set
                    (2 : Nat)
                    (ev
                    (V.i IntKind.i64 x0 ::
                    List.replicate (20 : Nat)
                    V.undef)
                    (Operand.const
                    (Value.bool false)))).set
                    (4 : Nat) (V.b b)).set
                    (5 : Nat) (V.b !b)).set
                    (5 : Nat) (V.b false))
                    (Operand.const
                    (Value.string
                    {
                    data :=
                    #[(110 : UInt8), (111 : UInt8),
                    (110 : UInt8), (101 : UInt8)] }))))
                    (Operand.tmp (0 : Nat)))).set
                    (7 : Nat) (V.b (leI (1 : Int) x0)))
                    (Operand.tmp (7 : Nat)))).set
                    (8 : Nat) (V.b true))
                    (Operand.tmp (0 : Nat)))).set
                    (8 : Nat) (V.b true)).set
                    (10 : Nat) (V.b (leI x0 (4 : Int)))).set
                    (11 : Nat)
                    (if true = true then
                    ev
                    (((((((((((((V.i IntKind.i64 x0 :: List.replicate (20 : Nat) V.undef).set
                    (2 : Nat)
                    (ev
                    (V.i IntKind.i64 x0 ::
                    List.replicate (20 : Nat)
                    V.undef)
                    (Operand.const
                    (Value.bool false)))).set
                    (4 : Nat) (V.b b)).set
                    (5 : Nat) (V.b !b)).set
                    (5 : Nat) (V.b false)).set
                    (3 : Nat)
                    (ev
                    (((((V.i IntKind.i64 x0 ::
                    List.replicate (20 : Nat)
                    V.undef).set
                    (2 : Nat)
                    (ev
                    (V.i IntKind.i64 x0 ::
                    List.replicate (20 : Nat)
                    V.undef)
                    (Operand.const
                    (Value.bool false)))).set
                    (4 : Nat) (V.b b)).set
                    (5 : Nat) (V.b !b)).set
                    (5 : Nat) (V.b false))
                    (Operand.const
                    (Value.string
                    {
                    data :=
                    #[(110 : UInt8), (111 : UInt8),
                    (110 : UInt8),
                    (101 : UInt8)] })))).set
                    (6 : Nat)
                    (ev
                    ((((((V.i IntKind.i64 x0 ::
                    List.replicate (20 : Nat)
                    V.undef).set
                    (2 : Nat)
                    (ev
                    (V.i IntKind.i64 x0 ::
                    List.replicate (20 : Nat)
                    V.undef)
                    (Operand.const
                    (Value.bool false)))).set
                    (4 : Nat) (V.b b)).set
                    (5 : Nat) (V.b !b)).set
                    (5 : Nat) (V.b false)).set
                    (3 : Nat)
                    (ev
                    (((((V.i IntKind.i64 x0 ::
                    List.replicate (20 : Nat)
                    V.undef).set
                    (2 : Nat)
                    (ev
                    (V.i IntKind.i64 x0 ::
                    List.replicate (20 : Nat)
                    V.undef)
                    (Operand.const
                    (Value.bool false)))).set
                    (4 : Nat) (V.b b)).set
                    (5 : Nat) (V.b !b)).set
                    (5 : Nat) (V.b false))
                    (Operand.const
                    (Value.string
                    {
                    data :=
                    #[(110 : UInt8), (111 : UInt8),
                    (110 : UInt8),
                    (101 : UInt8)] }))))
                    (Operand.tmp (0 : Nat)))).set
                    (7 : Nat) (V.b (leI (1 : Int) x0))).set
                    (8 : Nat)
                    (ev
                    ((((((((V.i IntKind.i64 x0 ::
                    List.replicate (20 : Nat)
                    V.undef).set
                    (2 : Nat)
                    (ev
                    (V.i IntKind.i64 x0 ::
                    List.replicate (20 : Nat)
                    V.undef)
                    (Operand.const
                    (Value.bool false)))).set
                    (4 : Nat) (V.b b)).set
                    (5 : Nat) (V.b !b)).set
                    (5 : Nat) (V.b false)).set
                    (3 : Nat)
                    (ev
                    (((((V.i IntKind.i64 x0 ::
                    List.replicate (20 : Nat)
                    V.undef).set
                    (2 : Nat)
                    (ev
                    (V.i IntKind.i64 x0 ::
                    List.replicate (20 : Nat)
                    V.undef)
                    (Operand.const
                    (Value.bool false)))).set
                    (4 : Nat) (V.b b)).set
                    (5 : Nat) (V.b !b)).set
                    (5 : Nat) (V.b false))
                    (Operand.const
                    (Value.string
                    {
                    data :=
                    #[(110 : UInt8), (111 : UInt8),
                    (110 : UInt8),
                    (101 : UInt8)] })))).set
                    (6 : Nat)
                    (ev
                    ((((((V.i IntKind.i64 x0 ::
                    List.replicate (20 : Nat)
                    V.undef).set
                    (2 : Nat)
                    (ev
                    (V.i IntKind.i64 x0 ::
                    List.replicate (20 : Nat)
                    V.undef)
                    (Operand.const
                    (Value.bool false)))).set
                    (4 : Nat) (V.b b)).set
                    (5 : Nat) (V.b !b)).set
                    (5 : Nat) (V.b false)).set
                    (3 : Nat)
                    (ev
                    (((((V.i IntKind.i64 x0 ::
                    List.replicate (20 : Nat)
                    V.undef).set
                    (2 : Nat)
                    (ev
                    (V.i IntKind.i64 x0 ::
                    List.replicate (20 : Nat)
                    V.undef)
                    (Operand.const
                    (Value.bool false)))).set
                    (4 : Nat) (V.b b)).set
                    (5 : Nat) (V.b !b)).set
                    (5 : Nat) (V.b false))
                    (Operand.const
                    (Value.string
                    {
                    data :=
                    #[(110 : UInt8), (111 : UInt8),
                    (110 : UInt8),
                    (101 : UInt8)] }))))
                    (Operand.tmp (0 : Nat)))).set
                    (7 : Nat) (V.b (leI (1 : Int) x0)))
                    (Operand.tmp (7 : Nat)))).set
                    (8 : Nat) (V.b true)).set
                    (9 : Nat)
                    (ev
                    ((((((((((V.i IntKind.i64 x0 ::
                    List.replicate (20 : Nat)
                    V.undef).set
                    (2 : Nat)
                    (ev
                    (V.i IntKind.i64 x0 ::
                    List.replicate (20 : Nat)
                    V.undef)
                    (Operand.const
                    (Value.bool false)))).set
                    (4 : Nat) (V.b b)).set
                    (5 : Nat) (V.b !b)).set
                    (5 : Nat) (V.b false)).set
                    (3 : Nat)
                    (ev
                    (((((V.i IntKind.i64 x0 ::
                    List.replicate (20 : Nat)
                    V.undef).set
                    (2 : Nat)
                    (ev
                    (V.i IntKind.i64 x0 ::
                    List.replicate (20 : Nat)
                    V.undef)
                    (Operand.const
                    (Value.bool false)))).set
                    (4 : Nat) (V.b b)).set
                    (5 : Nat) (V.b !b)).set
                    (5 : Nat) (V.b false))
                    (Operand.const
                    (Value.string
                    {
                    data :=
                    #[(110 : UInt8), (111 : UInt8),
                    (110 : UInt8),
                    (101 : UInt8)] })))).set
                    (6 : Nat)
                    (ev
                    ((((((V.i IntKind.i64 x0 ::
                    List.replicate (20 : Nat)
                    V.undef).set
                    (2 : Nat)
                    (ev
                    (V.i IntKind.i64 x0 ::
                    List.replicate (20 : Nat)
                    V.undef)
                    (Operand.const
                    (Value.bool false)))).set
                    (4 : Nat) (V.b b)).set
                    (5 : Nat) (V.b !b)).set
                    (5 : Nat) (V.b false)).set
                    (3 : Nat)
                    (ev
                    (((((V.i IntKind.i64 x0 ::
                    List.replicate (20 : Nat)
                    V.undef).set
                    (2 : Nat)
                    (ev
                    (V.i IntKind.i64 x0 ::
                    List.replicate (20 : Nat)
                    V.undef)
                    (Operand.const
                    (Value.bool false)))).set
                    (4 : Nat) (V.b b)).set
                    (5 : Nat) (V.b !b)).set
                    (5 : Nat) (V.b false))
                    (Operand.const
                    (Value.string
                    {
                    data :=
                    #[(110 : UInt8), (111 : UInt8),
                    (110 : UInt8),
                    (101 : UInt8)] }))))
                    (Operand.tmp (0 : Nat)))).set
                    (7 : Nat) (V.b (leI (1 : Int) x0))).set
                    (8 : Nat)
                    (ev
                    ((((((((V.i IntKind.i64 x0 ::
                    List.replicate (20 : Nat)
                    V.undef).set
                    (2 : Nat)
                    (ev
                    (V.i IntKind.i64 x0 ::
                    List.replicate (20 : Nat)
                    V.undef)
                    (Operand.const
                    (Value.bool false)))).set
                    (4 : Nat) (V.b b)).set
                    (5 : Nat) (V.b !b)).set
                    (5 : Nat) (V.b false)).set
                    (3 : Nat)
                    (ev
                    (((((V.i IntKind.i64 x0 ::
                    List.replicate (20 : Nat)
                    V.undef).set
                    (2 : Nat)
                    (ev
                    (V.i IntKind.i64 x0 ::
                    List.replicate (20 : Nat)
                    V.undef)
                    (Operand.const
                    (Value.bool false)))).set
                    (4 : Nat) (V.b b)).set
                    (5 : Nat) (V.b !b)).set
                    (5 : Nat) (V.b false))
                    (Operand.const
                    (Value.string
                    {
                    data :=
                    #[(110 : UInt8), (111 : UInt8),
                    (110 : UInt8),
                    (101 : UInt8)] })))).set
                    (6 : Nat)
                    (ev
                    ((((((V.i IntKind.i64 x0 ::
                    List.replicate (20 : Nat)
                    V.undef).set
                    (2 : Nat)
                    (ev
                    (V.i IntKind.i64 x0 ::
                    List.replicate (20 : Nat)
                    V.undef)
                    (Operand.const
                    (Value.bool false)))).set
                    (4 : Nat) (V.b b)).set
                    (5 : Nat) (V.b !b)).set
                    (5 : Nat) (V.b false)).set
                    (3 : Nat)
                    (ev
                    (((((V.i IntKind.i64 x0 ::
                    List.replicate (20 : Nat)
                    V.undef).set
                    (2 : Nat)
                    (ev
                    (V.i IntKind.i64 x0 ::
                    List.replicate (20 : Nat)
                    V.undef)
                    (Operand.const
                    (Value.bool false)))).set
                    (4 : Nat) (V.b b)).set
                    (5 : Nat) (V.b !b)).set
                    (5 : Nat) (V.b false))
                    (Operand.const
                    (Value.string
                    {
                    data :=
                    #[(110 : UInt8), (111 : UInt8),
                    (110 : UInt8),
                    (101 : UInt8)] }))))
                    (Operand.tmp (0 : Nat)))).set
                    (7 : Nat) (V.b (leI (1 : Int) x0)))
                    (Operand.tmp (7 : Nat)))).set
                    (8 : Nat) (V.b true))
                    (Operand.tmp (0 : Nat)))).set
                    (8 : Nat) (V.b true)).set
                    (10 : Nat) (V.b (leI x0 (4 : Int))))
                    (Operand.tmp (10 : Nat))
                    else
                    ev
                    (((((((((((((V.i IntKind.i64 x0 :: List.replicate (20 : Nat) V.undef).set
                    (2 : Nat)
                    (ev
                    (V.i IntKind.i64 x0 ::
                    List.replicate (20 : Nat)
                    V.undef)
                    (Operand.const
                    (Value.bool false)))).set
                    (4 : Nat) (V.b b)).set
                    (5 : Nat) (V.b !b)).set
                    (5 : Nat) (V.b false)).set
                    (3 : Nat)
                    (ev
                    (((((V.i IntKind.i64 x0 ::
                    List.replicate (20 : Nat)
                    V.undef).set
                    (2 : Nat)
                    (ev
                    (V.i IntKind.i64 x0 ::
                    List.replicate (20 : Nat)
                    V.undef)
                    (Operand.const
                    (Value.bool false)))).set
                    (4 : Nat) (V.b b)).set
                    (5 : Nat) (V.b !b)).set
                    (5 : Nat) (V.b false))
                    (Operand.const
                    (Value.string
                    {
                    data :=
                    #[(110 : UInt8), (111 : UInt8),
                    (110 : UInt8),
                    (101 : UInt8)] })))).set
                    (6 : Nat)
                    (ev
                    ((((((V.i IntKind.i64 x0 ::
                    List.replicate (20 : Nat)
                    V.undef).set
                    (2 : Nat)
                    (ev
                    (V.i IntKind.i64 x0 ::
                    List.replicate (20 : Nat)
                    V.undef)
                    (Operand.const
                    (Value.bool false)))).set
                    (4 : Nat) (V.b b)).set
                    (5 : Nat) (V.b !b)).set
                    (5 : Nat) (V.b false)).set
                    (3 : Nat)
                    (ev
                    (((((V.i IntKind.i64 x0 ::
                    List.replicate (20 : Nat)
                    V.undef).set
                    (2 : Nat)
                    (ev
                    (V.i IntKind.i64 x0 ::
                    List.replicate (20 : Nat)
                    V.undef)
                    (Operand.const
                    (Value.bool false)))).set
                    (4 : Nat) (V.b b)).set
                    (5 : Nat) (V.b !b)).set
                    (5 : Nat) (V.b false))
                    (Operand.const
                    (Value.string
                    {
                    data :=
                    #[(110 : UInt8), (111 : UInt8),
                    (110 : UInt8),
                    (101 : UInt8)] }))))
                    (Operand.tmp (0 : Nat)))).set
                    (7 : Nat) (V.b (leI (1 : Int) x0))).set
                    (8 : Nat)
                    (ev
                    ((((((((V.i IntKind.i64 x0 ::
                    List.replicate (20 : Nat)
                    V.undef).set
                    (2 : Nat)
                    (ev
                    (V.i IntKind.i64 x0 ::
                    List.replicate (20 : Nat)
                    V.undef)
                    (Operand.const
                    (Value.bool false)))).set
                    (4 : Nat) (V.b b)).set
                    (5 : Nat) (V.b !b)).set
                    (5 : Nat) (V.b false)).set
                    (3 : Nat)
                    (ev
                    (((((V.i IntKind.i64 x0 ::
                    List.replicate (20 : Nat)
                    V.undef).set
                    (2 : Nat)
                    (ev
                    (V.i IntKind.i64 x0 ::
                    List.replicate (20 : Nat)
                    V.undef)
                    (Operand.const
                    (Value.bool false)))).set
                    (4 : Nat) (V.b b)).set
                    (5 : Nat) (V.b !b)).set
                    (5 : Nat) (V.b false))
                    (Operand.const
                    (Value.string
                    {
                    data :=
                    #[(110 : UInt8), (111 : UInt8),
                    (110 : UInt8),
                    (101 : UInt8)] })))).set
                    (6 : Nat)
                    (ev
                    ((((((V.i IntKind.i64 x0 ::
                    List.replicate (20 : Nat)
                    V.undef).set
                    (2 : Nat)
                    (ev
                    (V.i IntKind.i64 x0 ::
                    List.replicate (20 : Nat)
                    V.undef)
                    (Operand.const
                    (Value.bool false)))).set
                    (4 : Nat) (V.b b)).set
                    (5 : Nat) (V.b !b)).set
                    (5 : Nat) (V.b false)).set
                    (3 : Nat)
                    (ev
                    (((((V.i IntKind.i64 x0 ::
                    List.replicate (20 : Nat)
                    V.undef).set
                    (2 : Nat)
                    (ev
                    (V.i IntKind.i64 x0 ::
                    List.replicate (20 : Nat)
                    V.undef)
                    (Operand.const
                    (Value.bool false)))).set
                    (4 : Nat) (V.b b)).set
                    (5 : Nat) (V.b !b)).set
                    (5 : Nat) (V.b false))
                    (Operand.const
                    (Value.string
                    {
                    data :=
                    #[(110 : UInt8), (111 : UInt8),
                    (110 : UInt8),
                    (101 : UInt8)] }))))
                    (Operand.tmp (0 : Nat)))).set
                    (7 : Nat) (V.b (leI (1 : Int) x0)))
                    (Operand.tmp (7 : Nat)))).set
                    (8 : Nat) (V.b true)).set
                    (9 : Nat)
                    (ev
                    ((((((((((V.i IntKind.i64 x0 ::
                    List.replicate (20 : Nat)
                    V.undef).set
                    (2 : Nat)
                    (ev
                    (V.i IntKind.i64 x0 ::
                    List.replicate (20 : Nat)
                    V.undef)
                    (Operand.const
                    (Value.bool false)))).set
                    (4 : Nat) (V.b b)).set
                    (5 : Nat) (V.b !b)).set
                    (5 : Nat) (V.b false)).set
                    (3 : Nat)
                    (ev
                    (((((V.i IntKind.i64 x0 ::
                    List.replicate (20 : Nat)
                    V.undef).set
                    (2 : Nat)
                    (ev
                    (V.i IntKind.i64 x0 ::
                    List.replicate (20 : Nat)
                    V.undef)
                    (Operand.const
                    (Value.bool false)))).set
                    (4 : Nat) (V.b b)).set
                    (5 : Nat) (V.b !b)).set
                    (5 : Nat) (V.b false))
                    (Operand.const
                    (Value.string
                    {
                    data :=
                    #[(110 : UInt8), (111 : UInt8),
                    (110 : UInt8),
                    (101 : UInt8)] })))).set
                    (6 : Nat)
                    (ev
                    ((((((V.i IntKind.i64 x0 ::
                    List.replicate (20 : Nat)
                    V.undef).set
                    (2 : Nat)
                    (ev
                    (V.i IntKind.i64 x0 ::
                    List.replicate (20 : Nat)
                    V.undef)
                    (Operand.const
                    (Value.bool false)))).set
                    (4 : Nat) (V.b b)).set
                    (5 : Nat) (V.b !b)).set
                    (5 : Nat) (V.b false)).set
                    (3 : Nat)
                    (ev
                    (((((V.i IntKind.i64 x0 ::
                    List.replicate (20 : Nat)
                    V.undef).set
                    (2 : Nat)
                    (ev
                    (V.i IntKind.i64 x0 ::
                    List.replicate (20 : Nat)
                    V.undef)
                    (Operand.const
                    (Value.bool false)))).set
                    (4 : Nat) (V.b b)).set
                    (5 : Nat) (V.b !b)).set
                    (5 : Nat) (V.b false))
                    (Operand.const
                    (Value.string
                    {
                    data :=
                    #[(110 : UInt8), (111 : UInt8),
                    (110 : UInt8),
                    (101 : UInt8)] }))))
                    (Operand.tmp (0 : Nat)))).set
                    (7 : Nat) (V.b (leI (1 : Int) x0))).set
                    (8 : Nat)
                    (ev
                    ((((((((V.i IntKind.i64 x0 ::
                    List.replicate (20 : Nat)
                    V.undef).set
                    (2 : Nat)
                    (ev
                    (V.i IntKind.i64 x0 ::
                    List.replicate (20 : Nat)
                    V.undef)
                    (Operand.const
                    (Value.bool false)))).set
                    (4 : Nat) (V.b b)).set
                    (5 : Nat) (V.b !b)).set
                    (5 : Nat) (V.b false)).set
                    (3 : Nat)
                    (ev
                    (((((V.i IntKind.i64 x0 ::
                    List.replicate (20 : Nat)
                    V.undef).set
                    (2 : Nat)
                    (ev
                    (V.i IntKind.i64 x0 ::
                    List.replicate (20 : Nat)
                    V.undef)
                    (Operand.const
                    (Value.bool false)))).set
                    (4 : Nat) (V.b b)).set
                    (5 : Nat) (V.b !b)).set
                    (5 : Nat) (V.b false))
                    (Operand.const
                    (Value.string
                    {
                    data :=
                    #[(110 : UInt8), (111 : UInt8),
                    (110 : UInt8),
                    (101 : UInt8)] })))).set
                    (6 : Nat)
                    (ev
                    ((((((V.i IntKind.i64 x0 ::
                    List.replicate (20 : Nat)
                    V.undef).set
                    (2 : Nat)
                    (ev
                    (V.i IntKind.i64 x0 ::
                    List.replicate (20 : Nat)
                    V.undef)
                    (Operand.const
                    (Value.bool false)))).set
                    (4 : Nat) (V.b b)).set
                    (5 : Nat) (V.b !b)).set
                    (5 : Nat) (V.b false)).set
                    (3 : Nat)
                    (ev
                    (((((V.i IntKind.i64 x0 ::
                    List.replicate (20 : Nat)
                    V.undef).set
                    (2 : Nat)
                    (ev
                    (V.i IntKind.i64 x0 ::
                    List.replicate (20 : Nat)
                    V.undef)
                    (Operand.const
                    (Value.bool false)))).set
                    (4 : Nat) (V.b b)).set
                    (5 : Nat) (V.b !b)).set
                    (5 : Nat) (V.b false))
                    (Operand.const
                    (Value.string
                    {
                    data :=
                    #[(110 : UInt8), (111 : UInt8),
                    (110 : UInt8),
                    (101 : UInt8)] }))))
                    (Operand.tmp (0 : Nat)))).set
                    (7 : Nat) (V.b (leI (1 : Int) x0)))
                    (Operand.tmp (7 : Nat)))).set
                    (8 : Nat) (V.b true))
                    (Operand.tmp (0 : Nat)))).set
                    (8 : Nat) (V.b true)).set
                    (10 : Nat) (V.b (leI x0 (4 : Int))))
                    (Operand.const (Value.bool false)))).set
                    (11 : Nat) (V.b true))
                    ((0 : Nat),
                    Operand.const
                    (Value.string
                    {
                    data :=
                    #[(100 : UInt8), (101 : UInt8), (97 : UInt8), (100 : UInt8),
                    (108 : UInt8), (111 : UInt8), (99 : UInt8),
                    (107 : UInt8)] })).snd).cells)
                    (((1 : Nat),
                    Operand.const
                    (Value.string
                    {
                    data :=
                    #[(111 : UInt8), (117 : UInt8), (116 : UInt8), (112 : UInt8), (117 : UInt8),
                    (116 : UInt8)] })).fst *
                    (1 : Nat))
                    (ev
                    (((((((((((((((V.i IntKind.i64 x0 :: List.replicate (20 : Nat) V.undef).set (2 : Nat)
                    (ev
                    (V.i IntKind.i64 x0 ::
                    List.replicate (20 : Nat)
                    V.undef)
                    (Operand.const
                    (Value.bool false)))).set
                    (4 : Nat) (V.b b)).set
                    (5 : Nat) (V.b !b)).set
                    (5 : Nat) (V.b false)).set
                    (3 : Nat)
                    (ev
                    (((((V.i IntKind.i64 x0 ::
                    List.replicate (20 : Nat)
                    V.undef).set
                    (2 : Nat)
                    (ev
                    (V.i IntKind.i64 x0 ::
                    List.replicate (20 : Nat)
                    V.undef)
                    (Operand.const
                    (Value.bool false)))).set
                    (4 : Nat) (V.b b)).set
                    (5 : Nat) (V.b !b)).set
                    (5 : Nat) (V.b false))
                    (Operand.const
                    (Value.string
                    {
                    data :=
                    #[(110 : UInt8), (111 : UInt8),
                    (110 : UInt8),
                    (101 : UInt8)] })))).set
                    (6 : Nat)
                    (ev
                    ((((((V.i IntKind.i64 x0 ::
                    List.replicate (20 : Nat)
                    V.undef).set
                    (2 : Nat)
                    (ev
                    (V.i IntKind.i64 x0 ::
                    List.replicate (20 : Nat)
                    V.undef)
                    (Operand.const
                    (Value.bool false)))).set
                    (4 : Nat) (V.b b)).set
                    (5 : Nat) (V.b !b)).set
                    (5 : Nat) (V.b false)).set
                    (3 : Nat)
                    (ev
                    (((((V.i IntKind.i64 x0 ::
                    List.replicate (20 : Nat)
                    V.undef).set
                    (2 : Nat)
                    (ev
                    (V.i IntKind.i64 x0 ::
                    List.replicate (20 : Nat)
                    V.undef)
                    (Operand.const
                    (Value.bool false)))).set
                    (4 : Nat) (V.b b)).set
                    (5 : Nat) (V.b !b)).set
                    (5 : Nat) (V.b false))
                    (Operand.const
                    (Value.string
                    {
                    data :=
                    #[(110 : UInt8), (111 : UInt8),
                    (110 : UInt8), (101 : UInt8)] }))))
                    (Operand.tmp (0 : Nat)))).set
                    (7 : Nat) (V.b (leI (1 : Int) x0))).set
                    (8 : Nat)
                    (ev
                    ((((((((V.i IntKind.i64 x0 ::
                    List.replicate (20 : Nat)
                    V.undef).set
                    (2 : Nat)
                    (ev
                    (V.i IntKind.i64 x0 ::
                    List.replicate (20 : Nat)
                    V.undef)
                    (Operand.const
                    (Value.bool false)))).set
                    (4 : Nat) (V.b b)).set
                    (5 : Nat) (V.b !b)).set
                    (5 : Nat) (V.b false)).set
                    (3 : Nat)
                    (ev
                    (((((V.i IntKind.i64 x0 ::
                    List.replicate (20 : Nat)
                    V.undef).set
                    (2 : Nat)
                    (ev
                    (V.i IntKind.i64 x0 ::
                    List.replicate (20 : Nat)
                    V.undef)
                    (Operand.const
                    (Value.bool false)))).set
                    (4 : Nat) (V.b b)).set
                    (5 : Nat) (V.b !b)).set
                    (5 : Nat) (V.b false))
                    (Operand.const
                    (Value.string
                    {
                    data :=
                    #[(110 : UInt8), (111 : UInt8),
                    (110 : UInt8),
                    (101 : UInt8)] })))).set
                    (6 : Nat)
                    (ev
                    ((((((V.i IntKind.i64 x0 ::
                    List.replicate (20 : Nat)
                    V.undef).set
                    (2 : Nat)
                    (ev
                    (V.i IntKind.i64 x0 ::
                    List.replicate (20 : Nat)
                    V.undef)
                    (Operand.const
                    (Value.bool false)))).set
                    (4 : Nat) (V.b b)).set
                    (5 : Nat) (V.b !b)).set
                    (5 : Nat) (V.b false)).set
                    (3 : Nat)
                    (ev
                    (((((V.i IntKind.i64 x0 ::
                    List.replicate (20 : Nat)
                    V.undef).set
                    (2 : Nat)
                    (ev
                    (V.i IntKind.i64 x0 ::
                    List.replicate (20 : Nat)
                    V.undef)
                    (Operand.const
                    (Value.bool false)))).set
                    (4 : Nat) (V.b b)).set
                    (5 : Nat) (V.b !b)).set
                    (5 : Nat) (V.b false))
                    (Operand.const
                    (Value.string
                    {
                    data :=
                    #[(110 : UInt8), (111 : UInt8),
                    (110 : UInt8), (101 : UInt8)] }))))
                    (Operand.tmp (0 : Nat)))).set
                    (7 : Nat) (V.b (leI (1 : Int) x0)))
                    (Operand.tmp (7 : Nat)))).set
                    (8 : Nat) (V.b true)).set
                    (9 : Nat)
                    (ev
                    ((((((((((V.i IntKind.i64 x0 ::
                    List.replicate (20 : Nat)
                    V.undef).set
                    (2 : Nat)
                    (ev
                    (V.i IntKind.i64 x0 ::
                    List.replicate (20 : Nat)
                    V.undef)
                    (Operand.const
                    (Value.bool false)))).set
                    (4 : Nat) (V.b b)).set
                    (5 : Nat) (V.b !b)).set
                    (5 : Nat) (V.b false)).set
                    (3 : Nat)
                    (ev
                    (((((V.i IntKind.i64 x0 ::
                    List.replicate (20 : Nat)
                    V.undef).set
                    (2 : Nat)
                    (ev
                    (V.i IntKind.i64 x0 ::
                    List.replicate (20 : Nat)
                    V.undef)
                    (Operand.const
                    (Value.bool false)))).set
                    (4 : Nat) (V.b b)).set
                    (5 : Nat) (V.b !b)).set
                    (5 : Nat) (V.b false))
                    (Operand.const
                    (Value.string
                    {
                    data :=
                    #[(110 : UInt8), (111 : UInt8),
                    (110 : UInt8),
                    (101 : UInt8)] })))).set
                    (6 : Nat)
                    (ev
                    ((((((V.i IntKind.i64 x0 ::
                    List.replicate (20 : Nat)
                    V.undef).set
                    (2 : Nat)
                    (ev
                    (V.i IntKind.i64 x0 ::
                    List.replicate (20 : Nat)
                    V.undef)
                    (Operand.const
                    (Value.bool false)))).set
                    (4 : Nat) (V.b b)).set
                    (5 : Nat) (V.b !b)).set
                    (5 : Nat) (V.b false)).set
                    (3 : Nat)
                    (ev
                    (((((V.i IntKind.i64 x0 ::
                    List.replicate (20 : Nat)
                    V.undef).set
                    (2 : Nat)
                    (ev
                    (V.i IntKind.i64 x0 ::
                    List.replicate (20 : Nat)
                    V.undef)
                    (Operand.const
                    (Value.bool false)))).set
                    (4 : Nat) (V.b b)).set
                    (5 : Nat) (V.b !b)).set
                    (5 : Nat) (V.b false))
                    (Operand.const
                    (Value.string
                    {
                    data :=
                    #[(110 : UInt8), (111 : UInt8),
                    (110 : UInt8), (101 : UInt8)] }))))
                    (Operand.tmp (0 : Nat)))).set
                    (7 : Nat) (V.b (leI (1 : Int) x0))).set
                    (8 : Nat)
                    (ev
                    ((((((((V.i IntKind.i64 x0 ::
                    List.replicate (20 : Nat)
                    V.undef).set
                    (2 : Nat)
                    (ev
                    (V.i IntKind.i64 x0 ::
                    List.replicate (20 : Nat)
                    V.undef)
                    (Operand.const
                    (Value.bool false)))).set
                    (4 : Nat) (V.b b)).set
                    (5 : Nat) (V.b !b)).set
                    (5 : Nat) (V.b false)).set
                    (3 : Nat)
                    (ev
                    (((((V.i IntKind.i64 x0 ::
                    List.replicate (20 : Nat)
                    V.undef).set
                    (2 : Nat)
                    (ev
                    (V.i IntKind.i64 x0 ::
                    List.replicate (20 : Nat)
                    V.undef)
                    (Operand.const
                    (Value.bool false)))).set
                    (4 : Nat) (V.b b)).set
                    (5 : Nat) (V.b !b)).set
                    (5 : Nat) (V.b false))
                    (Operand.const
                    (Value.string
                    {
                    data :=
                    #[(110 : UInt8), (111 : UInt8),
                    (110 : UInt8),
                    (101 : UInt8)] })))).set
                    (6 : Nat)
                    (ev
                    ((((((V.i IntKind.i64 x0 ::
                    List.replicate (20 : Nat)
                    V.undef).set
                    (2 : Nat)
                    (ev
                    (V.i IntKind.i64 x0 ::
                    List.replicate (20 : Nat)
                    V.undef)
                    (Operand.const
                    (Value.bool false)))).set
                    (4 : Nat) (V.b b)).set
                    (5 : Nat) (V.b !b)).set
                    (5 : Nat) (V.b false)).set
                    (3 : Nat)
                    (ev
                    (((((V.i IntKind.i64 x0 ::
                    List.replicate (20 : Nat)
                    V.undef).set
                    (2 : Nat)
                    (ev
                    (V.i IntKind.i64 x0 ::
                    List.replicate (20 : Nat)
                    V.undef)
                    (Operand.const
                    (Value.bool false)))).set
                    (4 : Nat) (V.b b)).set
                    (5 : Nat) (V.b !b)).set
                    (5 : Nat) (V.b false))
                    (Operand.const
                    (Value.string
                    {
                    data :=
                    #[(110 : UInt8), (111 : UInt8),
                    (110 : UInt8), (101 : UInt8)] }))))
                    (Operand.tmp (0 : Nat)))).set
                    (7 : Nat) (V.b (leI (1 : Int) x0)))
                    (Operand.tmp (7 : Nat)))).set
                    (8 : Nat) (V.b true))
                    (Operand.tmp (0 : Nat)))).set
                    (8 : Nat) (V.b true)).set
                    (10 : Nat) (V.b (leI x0 (4 : Int)))).set
                    (11 : Nat)
                    (if true = true then
                    ev
                    (((((((((((((V.i IntKind.i64 x0 :: List.replicate (20 : Nat) V.undef).set
                    (2 : Nat)
                    (ev
                    (V.i IntKind.i64 x0 ::
                    List.replicate (20 : Nat)
                    V.undef)
                    (Operand.const
                    (Value.bool false)))).set
                    (4 : Nat) (V.b b)).set
                    (5 : Nat) (V.b !b)).set
                    (5 : Nat) (V.b false)).set
                    (3 : Nat)
                    (ev
                    (((((V.i IntKind.i64 x0 ::
                    List.replicate (20 : Nat)
                    V.undef).set
                    (2 : Nat)
                    (ev
                    (V.i IntKind.i64 x0 ::
                    List.replicate (20 : Nat)
                    V.undef)
                    (Operand.const
                    (Value.bool false)))).set
                    (4 : Nat) (V.b b)).set
                    (5 : Nat) (V.b !b)).set
                    (5 : Nat) (V.b false))
                    (Operand.const
                    (Value.string
                    {
                    data :=
                    #[(110 : UInt8), (111 : UInt8),
                    (110 : UInt8),
                    (101 : UInt8)] })))).set
                    (6 : Nat)
                    (ev
                    ((((((V.i IntKind.i64 x0 ::
                    List.replicate (20 : Nat)
                    V.undef).set
                    (2 : Nat)
                    (ev
                    (V.i IntKind.i64 x0 ::
                    List.replicate (20 : Nat)
                    V.undef)
                    (Operand.const
                    (Value.bool false)))).set
                    (4 : Nat) (V.b b)).set
                    (5 : Nat) (V.b !b)).set
                    (5 : Nat) (V.b false)).set
                    (3 : Nat)
                    (ev
                    (((((V.i IntKind.i64 x0 ::
                    List.replicate (20 : Nat)
                    V.undef).set
                    (2 : Nat)
                    (ev
                    (V.i IntKind.i64 x0 ::
                    List.replicate (20 : Nat)
                    V.undef)
                    (Operand.const
                    (Value.bool false)))).set
                    (4 : Nat) (V.b b)).set
                    (5 : Nat) (V.b !b)).set
                    (5 : Nat) (V.b false))
                    (Operand.const
                    (Value.string
                    {
                    data :=
                    #[(110 : UInt8), (111 : UInt8),
                    (110 : UInt8), (101 : UInt8)] }))))
                    (Operand.tmp (0 : Nat)))).set
                    (7 : Nat) (V.b (leI (1 : Int) x0))).set
                    (8 : Nat)
                    (ev
                    ((((((((V.i IntKind.i64 x0 ::
                    List.replicate (20 : Nat)
                    V.undef).set
                    (2 : Nat)
                    (ev
                    (V.i IntKind.i64 x0 ::
                    List.replicate (20 : Nat)
                    V.undef)
                    (Operand.const
                    (Value.bool false)))).set
                    (4 : Nat) (V.b b)).set
                    (5 : Nat) (V.b !b)).set
                    (5 : Nat) (V.b false)).set
                    (3 : Nat)
                    (ev
                    (((((V.i IntKind.i64 x0 ::
                    List.replicate (20 : Nat)
                    V.undef).set
                    (2 : Nat)
                    (ev
                    (V.i IntKind.i64 x0 ::
                    List.replicate (20 : Nat)
                    V.undef)
                    (Operand.const
                    (Value.bool false)))).set
                    (4 : Nat) (V.b b)).set
                    (5 : Nat) (V.b !b)).set
                    (5 : Nat) (V.b false))
                    (Operand.const
                    (Value.string
                    {
                    data :=
                    #[(110 : UInt8), (111 : UInt8),
                    (110 : UInt8),
                    (101 : UInt8)] })))).set
                    (6 : Nat)
                    (ev
                    ((((((V.i IntKind.i64 x0 ::
                    List.replicate (20 : Nat)
                    V.undef).set
                    (2 : Nat)
                    (ev
                    (V.i IntKind.i64 x0 ::
                    List.replicate (20 : Nat)
                    V.undef)
                    (Operand.const
                    (Value.bool false)))).set
                    (4 : Nat) (V.b b)).set
                    (5 : Nat) (V.b !b)).set
                    (5 : Nat) (V.b false)).set
                    (3 : Nat)
                    (ev
                    (((((V.i IntKind.i64 x0 ::
                    List.replicate (20 : Nat)
                    V.undef).set
                    (2 : Nat)
                    (ev
                    (V.i IntKind.i64 x0 ::
                    List.replicate (20 : Nat)
                    V.undef)
                    (Operand.const
                    (Value.bool false)))).set
                    (4 : Nat) (V.b b)).set
                    (5 : Nat) (V.b !b)).set
                    (5 : Nat) (V.b false))
                    (Operand.const
                    (Value.string
                    {
                    data :=
                    #[(110 : UInt8), (111 : UInt8),
                    (110 : UInt8), (101 : UInt8)] }))))
                    (Operand.tmp (0 : Nat)))).set
                    (7 : Nat) (V.b (leI (1 : Int) x0)))
                    (Operand.tmp (7 : Nat)))).set
                    (8 : Nat) (V.b true)).set
                    (9 : Nat)
                    (ev
                    ((((((((((V.i IntKind.i64 x0 ::
                    List.replicate (20 : Nat)
                    V.undef).set
                    (2 : Nat)
                    (ev
                    (V.i IntKind.i64 x0 ::
                    List.replicate (20 : Nat)
                    V.undef)
                    (Operand.const
                    (Value.bool false)))).set
                    (4 : Nat) (V.b b)).set
                    (5 : Nat) (V.b !b)).set
                    (5 : Nat) (V.b false)).set
                    (3 : Nat)
                    (ev
                    (((((V.i IntKind.i64 x0 ::
                    List.replicate (20 : Nat)
                    V.undef).set
                    (2 : Nat)
                    (ev
                    (V.i IntKind.i64 x0 ::
                    List.replicate (20 : Nat)
                    V.undef)
                    (Operand.const
                    (Value.bool false)))).set
                    (4 : Nat) (V.b b)).set
                    (5 : Nat) (V.b !b)).set
                    (5 : Nat) (V.b false))
                    (Operand.const
                    (Value.string
                    {
                    data :=
                    #[(110 : UInt8), (111 : UInt8),
                    (110 : UInt8),
                    (101 : UInt8)] })))).set
                    (6 : Nat)
                    (ev
                    ((((((V.i IntKind.i64 x0 ::
                    List.replicate (20 : Nat)
                    V.undef).set
                    (2 : Nat)
                    (ev
                    (V.i IntKind.i64 x0 ::
                    List.replicate (20 : Nat)
                    V.undef)
                    (Operand.const
                    (Value.bool false)))).set
                    (4 : Nat) (V.b b)).set
                    (5 : Nat) (V.b !b)).set
                    (5 : Nat) (V.b false)).set
                    (3 : Nat)
                    (ev
                    (((((V.i IntKind.i64 x0 ::
                    List.replicate (20 : Nat)
                    V.undef).set
                    (2 : Nat)
                    (ev
                    (V.i IntKind.i64 x0 ::
                    List.replicate (20 : Nat)
                    V.undef)
                    (Operand.const
                    (Value.bool false)))).set
                    (4 : Nat) (V.b b)).set
                    (5 : Nat) (V.b !b)).set
                    (5 : Nat) (V.b false))
                    (Operand.const
                    (Value.string
                    {
                    data :=
                    #[(110 : UInt8), (111 : UInt8),
                    (110 : UInt8), (101 : UInt8)] }))))
                    (Operand.tmp (0 : Nat)))).set
                    (7 : Nat) (V.b (leI (1 : Int) x0))).set
                    (8 : Nat)
                    (ev
                    ((((((((V.i IntKind.i64 x0 ::
                    List.replicate (20 : Nat)
                    V.undef).set
                    (2 : Nat)
                    (ev
                    (V.i IntKind.i64 x0 ::
                    List.replicate (20 : Nat)
                    V.undef)
                    (Operand.const
                    (Value.bool false)))).set
                    (4 : Nat) (V.b b)).set
                    (5 : Nat) (V.b !b)).set
                    (5 : Nat) (V.b false)).set
                    (3 : Nat)
                    (ev
                    (((((V.i IntKind.i64 x0 ::
                    List.replicate (20 : Nat)
                    V.undef).set
                    (2 : Nat)
                    (ev
                    (V.i IntKind.i64 x0 ::
                    List.replicate (20 : Nat)
                    V.undef)
                    (Operand.const
                    (Value.bool false)))).set
                    (4 : Nat) (V.b b)).set
                    (5 : Nat) (V.b !b)).set
                    (5 : Nat) (V.b false))
                    (Operand.const
                    (Value.string
                    {
                    data :=
                    #[(110 : UInt8), (111 : UInt8),
                    (110 : UInt8),
                    (101 : UInt8)] })))).set
                    (6 : Nat)
                    (ev
                    ((((((V.i IntKind.i64 x0 ::
                    List.replicate (20 : Nat)
                    V.undef).set
                    (2 : Nat)
                    (ev
                    (V.i IntKind.i64 x0 ::
                    List.replicate (20 : Nat)
                    V.undef)
                    (Operand.const
                    (Value.bool false)))).set
                    (4 : Nat) (V.b b)).set
                    (5 : Nat) (V.b !b)).set
                    (5 : Nat) (V.b false)).set
                    (3 : Nat)
                    (ev
                    (((((V.i IntKind.i64 x0 ::
                    List.replicate (20 : Nat)
                    V.undef).set
                    (2 : Nat)
                    (ev
                    (V.i IntKind.i64 x0 ::
                    List.replicate (20 : Nat)
                    V.undef)
                    (Operand.const
                    (Value.bool false)))).set
                    (4 : Nat) (V.b b)).set
                    (5 : Nat) (V.b !b)).set
                    (5 : Nat) (V.b false))
                    (Operand.const
                    (Value.string
                    {
                    data :=
                    #[(110 : UInt8), (111 : UInt8),
                    (110 : UInt8), (101 : UInt8)] }))))
                    (Operand.tmp (0 : Nat)))).set
                    (7 : Nat) (V.b (leI (1 : Int) x0)))
                    (Operand.tmp (7 : Nat)))).set
                    (8 : Nat) (V.b true))
                    (Operand.tmp (0 : Nat)))).set
                    (8 : Nat) (V.b true)).set
                    (10 : Nat) (V.b (leI x0 (4 : Int))))
                    (Operand.tmp (10 : Nat))
                    else
                    ev
                    (((((((((((((V.i IntKind.i64 x0 :: List.replicate (20 : Nat) V.undef).set
                    (2 : Nat)
                    (ev
                    (V.i IntKind.i64 x0 ::
                    List.replicate (20 : Nat)
                    V.undef)
                    (Operand.const
                    (Value.bool false)))).set
                    (4 : Nat) (V.b b)).set
                    (5 : Nat) (V.b !b)).set
                    (5 : Nat) (V.b false)).set
                    (3 : Nat)
                    (ev
                    (((((V.i IntKind.i64 x0 ::
                    List.replicate (20 : Nat)
                    V.undef).set
                    (2 : Nat)
                    (ev
                    (V.i IntKind.i64 x0 ::
                    List.replicate (20 : Nat)
                    V.undef)
                    (Operand.const
                    (Value.bool false)))).set
                    (4 : Nat) (V.b b)).set
                    (5 : Nat) (V.b !b)).set
                    (5 : Nat) (V.b false))
                    (Operand.const
                    (Value.string
                    {
                    data :=
                    #[(110 : UInt8), (111 : UInt8),
                    (110 : UInt8),
                    (101 : UInt8)] })))).set
                    (6 : Nat)
                    (ev
                    ((((((V.i IntKind.i64 x0 ::
                    List.replicate (20 : Nat)
                    V.undef).set
                    (2 : Nat)
                    (ev
                    (V.i IntKind.i64 x0 ::
                    List.replicate (20 : Nat)
                    V.undef)
                    (Operand.const
                    (Value.bool false)))).set
                    (4 : Nat) (V.b b)).set
                    (5 : Nat) (V.b !b)).set
                    (5 : Nat) (V.b false)).set
                    (3 : Nat)
                    (ev
                    (((((V.i IntKind.i64 x0 ::
                    List.replicate (20 : Nat)
                    V.undef).set
                    (2 : Nat)
                    (ev
                    (V.i IntKind.i64 x0 ::
                    List.replicate (20 : Nat)
                    V.undef)
                    (Operand.const
                    (Value.bool false)))).set
                    (4 : Nat) (V.b b)).set
                    (5 : Nat) (V.b !b)).set
                    (5 : Nat) (V.b false))
                    (Operand.const
                    (Value.string
                    {
                    data :=
                    #[(110 : UInt8), (111 : UInt8),
                    (110 : UInt8), (101 : UInt8)] }))))
                    (Operand.tmp (0 : Nat)))).set
                    (7 : Nat) (V.b (leI (1 : Int) x0))).set
                    (8 : Nat)
                    (ev
                    ((((((((V.i IntKind.i64 x0 ::
                    List.replicate (20 : Nat)
                    V.undef).set
                    (2 : Nat)
                    (ev
                    (V.i IntKind.i64 x0 ::
                    List.replicate (20 : Nat)
                    V.undef)
                    (Operand.const
                    (Value.bool false)))).set
                    (4 : Nat) (V.b b)).set
                    (5 : Nat) (V.b !b)).set
                    (5 : Nat) (V.b false)).set
                    (3 : Nat)
                    (ev
                    (((((V.i IntKind.i64 x0 ::
                    List.replicate (20 : Nat)
                    V.undef).set
                    (2 : Nat)
                    (ev
                    (V.i IntKind.i64 x0 ::
                    List.replicate (20 : Nat)
                    V.undef)
                    (Operand.const
                    (Value.bool false)))).set
                    (4 : Nat) (V.b b)).set
                    (5 : Nat) (V.b !b)).set
                    (5 : Nat) (V.b false))
                    (Operand.const
                    (Value.string
                    {
                    data :=
                    #[(110 : UInt8), (111 : UInt8),
                    (110 : UInt8),
                    (101 : UInt8)] })))).set
                    (6 : Nat)
                    (ev
                    ((((((V.i IntKind.i64 x0 ::
                    List.replicate (20 : Nat)
                    V.undef).set
                    (2 : Nat)
                    (ev
                    (V.i IntKind.i64 x0 ::
                    List.replicate (20 : Nat)
                    V.undef)
                    (Operand.const
                    (Value.bool false)))).set
                    (4 : Nat) (V.b b)).set
                    (5 : Nat) (V.b !b)).set
                    (5 : Nat) (V.b false)).set
                    (3 : Nat)
                    (ev
                    (((((V.i IntKind.i64 x0 ::
                    List.replicate (20 : Nat)
                    V.undef).set
                    (2 : Nat)
                    (ev
                    (V.i IntKind.i64 x0 ::
                    List.replicate (20 : Nat)
                    V.undef)
                    (Operand.const
                    (Value.bool false)))).set
                    (4 : Nat) (V.b b)).set
                    (5 : Nat) (V.b !b)).set
                    (5 : Nat) (V.b false))
                    (Operand.const
                    (Value.string
                    {
                    data :=
                    #[(110 : UInt8), (111 : UInt8),
                    (110 : UInt8), (101 : UInt8)] }))))
                    (Operand.tmp (0 : Nat)))).set
                    (7 : Nat) (V.b (leI (1 : Int) x0)))
                    (Operand.tmp (7 : Nat)))).set
                    (8 : Nat) (V.b true)).set
                    (9 : Nat)
                    (ev
                    ((((((((((V.i IntKind.i64 x0 ::
                    List.replicate (20 : Nat)
                    V.undef).set
                    (2 : Nat)
                    (ev
                    (V.i IntKind.i64 x0 ::
                    List.replicate (20 : Nat)
                    V.undef)
                    (Operand.const
                    (Value.bool false)))).set
                    (4 : Nat) (V.b b)).set
                    (5 : Nat) (V.b !b)).set
                    (5 : Nat) (V.b false)).set
                    (3 : Nat)
                    (ev
                    (((((V.i IntKind.i64 x0 ::
                    List.replicate (20 : Nat)
                    V.undef).set
                    (2 : Nat)
                    (ev
                    (V.i IntKind.i64 x0 ::
                    List.replicate (20 : Nat)
                    V.undef)
                    (Operand.const
                    (Value.bool false)))).set
                    (4 : Nat) (V.b b)).set
                    (5 : Nat) (V.b !b)).set
                    (5 : Nat) (V.b false))
                    (Operand.const
                    (Value.string
                    {
                    data :=
                    #[(110 : UInt8), (111 : UInt8),
                    (110 : UInt8),
                    (101 : UInt8)] })))).set
                    (6 : Nat)
                    (ev
                    ((((((V.i IntKind.i64 x0 ::
                    List.replicate (20 : Nat)
                    V.undef).set
                    (2 : Nat)
                    (ev
                    (V.i IntKind.i64 x0 ::
                    List.replicate (20 : Nat)
                    V.undef)
                    (Operand.const
                    (Value.bool false)))).set
                    (4 : Nat) (V.b b)).set
                    (5 : Nat) (V.b !b)).set
                    (5 : Nat) (V.b false)).set
                    (3 : Nat)
                    (ev
                    (((((V.i IntKind.i64 x0 ::
                    List.replicate (20 : Nat)
                    V.undef).set
                    (2 : Nat)
                    (ev
                    (V.i IntKind.i64 x0 ::
                    List.replicate (20 : Nat)
                    V.undef)
                    (Operand.const
                    (Value.bool false)))).set
                    (4 : Nat) (V.b b)).set
                    (5 : Nat) (V.b !b)).set
                    (5 : Nat) (V.b false))
                    (Operand.const
                    (Value.string
                    {
                    data :=
                    #[(110 : UInt8), (111 : UInt8),
                    (110 : UInt8), (101 : UInt8)] }))))
                    (Operand.tmp (0 : Nat)))).set
                    (7 : Nat) (V.b (leI (1 : Int) x0))).set
                    (8 : Nat)
                    (ev
                    ((((((((V.i IntKind.i64 x0 ::
                    List.replicate (20 : Nat)
                    V.undef).set
                    (2 : Nat)
                    (ev
                    (V.i IntKind.i64 x0 ::
                    List.replicate (20 : Nat)
                    V.undef)
                    (Operand.const
                    (Value.bool false)))).set
                    (4 : Nat) (V.b b)).set
                    (5 : Nat) (V.b !b)).set
                    (5 : Nat) (V.b false)).set
                    (3 : Nat)
                    (ev
                    (((((V.i IntKind.i64 x0 ::
                    List.replicate (20 : Nat)
                    V.undef).set
                    (2 : Nat)
                    (ev
                    (V.i IntKind.i64 x0 ::
                    List.replicate (20 : Nat)
                    V.undef)
                    (Operand.const
                    (Value.bool false)))).set
                    (4 : Nat) (V.b b)).set
                    (5 : Nat) (V.b !b)).set
                    (5 : Nat) (V.b false))
                    (Operand.const
                    (Value.string
                    {
                    data :=
                    #[(110 : UInt8), (111 : UInt8),
                    (110 : UInt8),
                    (101 : UInt8)] })))).set
                    (6 : Nat)
                    (ev
                    ((((((V.i IntKind.i64 x0 ::
                    List.replicate (20 : Nat)
                    V.undef).set
                    (2 : Nat)
                    (ev
                    (V.i IntKind.i64 x0 ::
                    List.replicate (20 : Nat)
                    V.undef)
                    (Operand.const
                    (Value.bool false)))).set
                    (4 : Nat) (V.b b)).set
                    (5 : Nat) (V.b !b)).set
                    (5 : Nat) (V.b false)).set
                    (3 : Nat)
                    (ev
                    (((((V.i IntKind.i64 x0 ::
                    List.replicate (20 : Nat)
                    V.undef).set
                    (2 : Nat)
                    (ev
                    (V.i IntKind.i64 x0 ::
                    List.replicate (20 : Nat)
                    V.undef)
                    (Operand.const
                    (Value.bool false)))).set
                    (4 : Nat) (V.b b)).set
                    (5 : Nat) (V.b !b)).set
                    (5 : Nat) (V.b false))
                    (Operand.const
                    (Value.string
                    {
                    data :=
                    #[(110 : UInt8), (111 : UInt8),
                    (110 : UInt8), (101 : UInt8)] }))))
                    (Operand.tmp (0 : Nat)))).set
                    (7 : Nat) (V.b (leI (1 : Int) x0)))
                    (Operand.tmp (7 : Nat)))).set
                    (8 : Nat) (V.b true))
                    (Operand.tmp (0 : Nat)))).set
                    (8 : Nat) (V.b true)).set
                    (10 : Nat) (V.b (leI x0 (4 : Int))))
                    (Operand.const (Value.bool false)))).set
                    (11 : Nat) (V.b true))
                    ((1 : Nat),
                    Operand.const
                    (Value.string
                    {
                    data :=
                    #[(111 : UInt8), (117 : UInt8), (116 : UInt8), (112 : UInt8), (117 : UInt8),
                    (116 : UInt8)] })).snd).cells)
                    (((2 : Nat),
                    Operand.const
                    (Value.string { data := #[(101 : UInt8), (111 : UInt8), (102 : UInt8)] })).fst *
                    (1 : Nat))
                    (ev
                    (((((((((((((((V.i IntKind.i64 x0 :: List.replicate (20 : Nat) V.undef).set (2 : Nat)
                    (ev
                    (V.i IntKind.i64 x0 ::
                    List.replicate (20 : Nat)
                    V.undef)
                    (Operand.const
                    (Value.bool false)))).set
                    (4 : Nat) (V.b b)).set
                    (5 : Nat) (V.b !b)).set
                    (5 : Nat) (V.b false)).set
                    (3 : Nat)
                    (ev
                    (((((V.i IntKind.i64 x0 ::
                    List.replicate (20 : Nat)
                    V.undef).set
                    (2 : Nat)
                    (ev
                    (V.i IntKind.i64 x0 ::
                    List.replicate (20 : Nat)
                    V.undef)
                    (Operand.const
                    (Value.bool false)))).set
                    (4 : Nat) (V.b b)).set
                    (5 : Nat) (V.b !b)).set
                    (5 : Nat) (V.b false))
                    (Operand.const
                    (Value.string
                    {
                    data :=
                    #[(110 : UInt8), (111 : UInt8),
                    (110 : UInt8), (101 : UInt8)] })))).set
                    (6 : Nat)
                    (ev
                    ((((((V.i IntKind.i64 x0 ::
                    List.replicate (20 : Nat)
                    V.undef).set
                    (2 : Nat)
                    (ev
                    (V.i IntKind.i64 x0 ::
                    List.replicate (20 : Nat)
                    V.undef)
                    (Operand.const
                    (Value.bool false)))).set
                    (4 : Nat) (V.b b)).set
                    (5 : Nat) (V.b !b)).set
                    (5 : Nat) (V.b false)).set
                    (3 : Nat)
                    (ev
                    (((((V.i IntKind.i64 x0 ::
                    List.replicate (20 : Nat)
                    V.undef).set
                    (2 : Nat)
                    (ev
                    (V.i IntKind.i64 x0 ::
                    List.replicate (20 : Nat)
                    V.undef)
                    (Operand.const
                    (Value.bool false)))).set
                    (4 : Nat) (V.b b)).set
                    (5 : Nat) (V.b !b)).set
                    (5 : Nat) (V.b false))
                    (Operand.const
                    (Value.string
                    {
                    data :=
                    #[(110 : UInt8), (111 : UInt8),
                    (110 : UInt8), (101 : UInt8)] }))))
                    (Operand.tmp (0 : Nat)))).set
                    (7 : Nat) (V.b (leI (1 : Int) x0))).set
                    (8 : Nat)
                    (ev
                    ((((((((V.i IntKind.i64 x0 ::
                    List.replicate (20 : Nat)
                    V.undef).set
                    (2 : Nat)
                    (ev
                    (V.i IntKind.i64 x0 ::
                    List.replicate (20 : Nat)
                    V.undef)
                    (Operand.const
                    (Value.bool false)))).set
                    (4 : Nat) (V.b b)).set
                    (5 : Nat) (V.b !b)).set
                    (5 : Nat) (V.b false)).set
                    (3 : Nat)
                    (ev
                    (((((V.i IntKind.i64 x0 ::
                    List.replicate (20 : Nat)
                    V.undef).set
                    (2 : Nat)
                    (ev
                    (V.i IntKind.i64 x0 ::
                    List.replicate (20 : Nat)
                    V.undef)
                    (Operand.const
                    (Value.bool false)))).set
                    (4 : Nat) (V.b b)).set
                    (5 : Nat) (V.b !b)).set
                    (5 : Nat) (V.b false))
                    (Operand.const
                    (Value.string
                    {
                    data :=
                    #[(110 : UInt8), (111 : UInt8),
                    (110 : UInt8), (101 : UInt8)] })))).set
                    (6 : Nat)
                    (ev
                    ((((((V.i IntKind.i64 x0 ::
                    List.replicate (20 : Nat)
                    V.undef).set
                    (2 : Nat)
                    (ev
                    (V.i IntKind.i64 x0 ::
                    List.replicate (20 : Nat)
                    V.undef)
                    (Operand.const
                    (Value.bool false)))).set
                    (4 : Nat) (V.b b)).set
                    (5 : Nat) (V.b !b)).set
                    (5 : Nat) (V.b false)).set
                    (3 : Nat)
                    (ev
                    (((((V.i IntKind.i64 x0 ::
                    List.replicate (20 : Nat)
                    V.undef).set
                    (2 : Nat)
                    (ev
                    (V.i IntKind.i64 x0 ::
                    List.replicate (20 : Nat)
                    V.undef)
                    (Operand.const
                    (Value.bool false)))).set
                    (4 : Nat) (V.b b)).set
                    (5 : Nat) (V.b !b)).set
                    (5 : Nat) (V.b false))
                    (Operand.const
                    (Value.string
                    {
                    data :=
                    #[(110 : UInt8), (111 : UInt8),
                    (110 : UInt8), (101 : UInt8)] }))))
                    (Operand.tmp (0 : Nat)))).set
                    (7 : Nat) (V.b (leI (1 : Int) x0)))
                    (Operand.tmp (7 : Nat)))).set
                    (8 : Nat) (V.b true)).set
                    (9 : Nat)
                    (ev
                    ((((((((((V.i IntKind.i64 x0 :: List.replicate (20 : Nat) V.undef).set
                    (2 : Nat)
                    (ev
                    (V.i IntKind.i64 x0 ::
                    List.replicate (20 : Nat)
                    V.undef)
                    (Operand.const
                    (Value.bool false)))).set
                    (4 : Nat) (V.b b)).set
                    (5 : Nat) (V.b !b)).set
                    (5 : Nat) (V.b false)).set
                    (3 : Nat)
                    (ev
                    (((((V.i IntKind.i64 x0 ::
                    List.replicate (20 : Nat)
                    V.undef).set
                    (2 : Nat)
                    (ev
                    (V.i IntKind.i64 x0 ::
                    List.replicate (20 : Nat)
                    V.undef)
                    (Operand.const
                    (Value.bool false)))).set
                    (4 : Nat) (V.b b)).set
                    (5 : Nat) (V.b !b)).set
                    (5 : Nat) (V.b false))
                    (Operand.const
                    (Value.string
                    {
                    data :=
                    #[(110 : UInt8), (111 : UInt8),
                    (110 : UInt8), (101 : UInt8)] })))).set
                    (6 : Nat)
                    (ev
                    ((((((V.i IntKind.i64 x0 ::
                    List.replicate (20 : Nat)
                    V.undef).set
                    (2 : Nat)
                    (ev
                    (V.i IntKind.i64 x0 ::
                    List.replicate (20 : Nat)
                    V.undef)
                    (Operand.const
                    (Value.bool false)))).set
                    (4 : Nat) (V.b b)).set
                    (5 : Nat) (V.b !b)).set
                    (5 : Nat) (V.b false)).set
                    (3 : Nat)
                    (ev
                    (((((V.i IntKind.i64 x0 ::
                    List.replicate (20 : Nat)
                    V.undef).set
                    (2 : Nat)
                    (ev
                    (V.i IntKind.i64 x0 ::
                    List.replicate (20 : Nat)
                    V.undef)
                    (Operand.const
                    (Value.bool false)))).set
                    (4 : Nat) (V.b b)).set
                    (5 : Nat) (V.b !b)).set
                    (5 : Nat) (V.b false))
                    (Operand.const
                    (Value.string
                    {
                    data :=
                    #[(110 : UInt8), (111 : UInt8),
                    (110 : UInt8), (101 : UInt8)] }))))
                    (Operand.tmp (0 : Nat)))).set
                    (7 : Nat) (V.b (leI (1 : Int) x0))).set
                    (8 : Nat)
                    (ev
                    ((((((((V.i IntKind.i64 x0 ::
                    List.replicate (20 : Nat)
                    V.undef).set
                    (2 : Nat)
                    (ev
                    (V.i IntKind.i64 x0 ::
                    List.replicate (20 : Nat)
                    V.undef)
                    (Operand.const
                    (Value.bool false)))).set
                    (4 : Nat) (V.b b)).set
                    (5 : Nat) (V.b !b)).set
                    (5 : Nat) (V.b false)).set
                    (3 : Nat)
                    (ev
                    (((((V.i IntKind.i64 x0 ::
                    List.replicate (20 : Nat)
                    V.undef).set
                    (2 : Nat)
                    (ev
                    (V.i IntKind.i64 x0 ::
                    List.replicate (20 : Nat)
                    V.undef)
                    (Operand.const
                    (Value.bool false)))).set
                    (4 : Nat) (V.b b)).set
                    (5 : Nat) (V.b !b)).set
                    (5 : Nat) (V.b false))
                    (Operand.const
                    (Value.string
                    {
                    data :=
                    #[(110 : UInt8), (111 : UInt8),
                    (110 : UInt8), (101 : UInt8)] })))).set
                    (6 : Nat)
                    (ev
                    ((((((V.i IntKind.i64 x0 ::
                    List.replicate (20 : Nat)
                    V.undef).set
                    (2 : Nat)
                    (ev
                    (V.i IntKind.i64 x0 ::
                    List.replicate (20 : Nat)
                    V.undef)
                    (Operand.const
                    (Value.bool false)))).set
                    (4 : Nat) (V.b b)).set
                    (5 : Nat) (V.b !b)).set
                    (5 : Nat) (V.b false)).set
                    (3 : Nat)
                    (ev
                    (((((V.i IntKind.i64 x0 ::
                    List.replicate (20 : Nat)
                    V.undef).set
                    (2 : Nat)
                    (ev
                    (V.i IntKind.i64 x0 ::
                    List.replicate (20 : Nat)
                    V.undef)
                    (Operand.const
                    (Value.bool false)))).set
                    (4 : Nat) (V.b b)).set
                    (5 : Nat) (V.b !b)).set
                    (5 : Nat) (V.b false))
                    (Operand.const
                    (Value.string
                    {
                    data :=
                    #[(110 : UInt8), (111 : UInt8),
                    (110 : UInt8), (101 : UInt8)] }))))
                    (Operand.tmp (0 : Nat)))).set
                    (7 : Nat) (V.b (leI (1 : Int) x0)))
                    (Operand.tmp (7 : Nat)))).set
                    (8 : Nat) (V.b true))
                    (Operand.tmp (0 : Nat)))).set
                    (8 : Nat) (V.b true)).set
                    (10 : Nat) (V.b (leI x0 (4 : Int)))).set
                    (11 : Nat)
                    (if true = true then
                    ev
                    (((((((((((((V.i IntKind.i64 x0 :: List.replicate (20 : Nat) V.undef).set
                    (2 : Nat)
                    (ev
                    (V.i IntKind.i64 x0 ::
                    List.replicate (20 : Nat)
                    V.undef)
                    (Operand.const
                    (Value.bool false)))).set
                    (4 : Nat) (V.b b)).set
                    (5 : Nat) (V.b !b)).set
                    (5 : Nat) (V.b false)).set
                    (3 : Nat)
                    (ev
                    (((((V.i IntKind.i64 x0 ::
                    List.replicate (20 : Nat)
                    V.undef).set
                    (2 : Nat)
                    (ev
                    (V.i IntKind.i64 x0 ::
                    List.replicate (20 : Nat)
                    V.undef)
                    (Operand.const
                    (Value.bool false)))).set
                    (4 : Nat) (V.b b)).set
                    (5 : Nat) (V.b !b)).set
                    (5 : Nat) (V.b false))
                    (Operand.const
                    (Value.string
                    {
                    data :=
                    #[(110 : UInt8), (111 : UInt8),
                    (110 : UInt8),
                    (101 : UInt8)] })))).set
                    (6 : Nat)
                    (ev
                    ((((((V.i IntKind.i64 x0 ::
                    List.replicate (20 : Nat)
                    V.undef).set
                    (2 : Nat)
                    (ev
                    (V.i IntKind.i64 x0 ::
                    List.replicate (20 : Nat)
                    V.undef)
                    (Operand.const
                    (Value.bool false)))).set
                    (4 : Nat) (V.b b)).set
                    (5 : Nat) (V.b !b)).set
                    (5 : Nat) (V.b false)).set
                    (3 : Nat)
                    (ev
                    (((((V.i IntKind.i64 x0 ::
                    List.replicate (20 : Nat)
                    V.undef).set
                    (2 : Nat)
                    (ev
                    (V.i IntKind.i64 x0 ::
                    List.replicate (20 : Nat)
                    V.undef)
                    (Operand.const
                    (Value.bool false)))).set
                    (4 : Nat) (V.b b)).set
                    (5 : Nat) (V.b !b)).set
                    (5 : Nat) (V.b false))
                    (Operand.const
                    (Value.string
                    {
                    data :=
                    #[(110 : UInt8), (111 : UInt8),
                    (110 : UInt8), (101 : UInt8)] }))))
                    (Operand.tmp (0 : Nat)))).set
                    (7 : Nat) (V.b (leI (1 : Int) x0))).set
                    (8 : Nat)
                    (ev
                    ((((((((V.i IntKind.i64 x0 ::
                    List.replicate (20 : Nat)
                    V.undef).set
                    (2 : Nat)
                    (ev
                    (V.i IntKind.i64 x0 ::
                    List.replicate (20 : Nat)
                    V.undef)
                    (Operand.const
                    (Value.bool false)))).set
                    (4 : Nat) (V.b b)).set
                    (5 : Nat) (V.b !b)).set
                    (5 : Nat) (V.b false)).set
                    (3 : Nat)
                    (ev
                    (((((V.i IntKind.i64 x0 ::
                    List.replicate (20 : Nat)
                    V.undef).set
                    (2 : Nat)
                    (ev
                    (V.i IntKind.i64 x0 ::
                    List.replicate (20 : Nat)
                    V.undef)
                    (Operand.const
                    (Value.bool false)))).set
                    (4 : Nat) (V.b b)).set
                    (5 : Nat) (V.b !b)).set
                    (5 : Nat) (V.b false))
                    (Operand.const
                    (Value.string
                    {
                    data :=
                    #[(110 : UInt8), (111 : UInt8),
                    (110 : UInt8),
                    (101 : UInt8)] })))).set
                    (6 : Nat)
                    (ev
                    ((((((V.i IntKind.i64 x0 ::
                    List.replicate (20 : Nat)
                    V.undef).set
                    (2 : Nat)
                    (ev
                    (V.i IntKind.i64 x0 ::
                    List.replicate (20 : Nat)
                    V.undef)
                    (Operand.const
                    (Value.bool false)))).set
                    (4 : Nat) (V.b b)).set
                    (5 : Nat) (V.b !b)).set
                    (5 : Nat) (V.b false)).set
                    (3 : Nat)
                    (ev
                    (((((V.i IntKind.i64 x0 ::
                    List.replicate (20 : Nat)
                    V.undef).set
                    (2 : Nat)
                    (ev
                    (V.i IntKind.i64 x0 ::
                    List.replicate (20 : Nat)
                    V.undef)
                    (Operand.const
                    (Value.bool false)))).set
                    (4 : Nat) (V.b b)).set
                    (5 : Nat) (V.b !b)).set
                    (5 : Nat) (V.b false))
                    (Operand.const
                    (Value.string
                    {
                    data :=
                    #[(110 : UInt8), (111 : UInt8),
                    (110 : UInt8), (101 : UInt8)] }))))
                    (Operand.tmp (0 : Nat)))).set
                    (7 : Nat) (V.b (leI (1 : Int) x0)))
                    (Operand.tmp (7 : Nat)))).set
                    (8 : Nat) (V.b true)).set
                    (9 : Nat)
                    (ev
                    ((((((((((V.i IntKind.i64 x0 ::
                    List.replicate (20 : Nat)
                    V.undef).set
                    (2 : Nat)
                    (ev
                    (V.i IntKind.i64 x0 ::
                    List.replicate (20 : Nat)
                    V.undef)
                    (Operand.const
                    (Value.bool false)))).set
                    (4 : Nat) (V.b b)).set
                    (5 : Nat) (V.b !b)).set
                    (5 : Nat) (V.b false)).set
                    (3 : Nat)
                    (ev
                    (((((V.i IntKind.i64 x0 ::
                    List.replicate (20 : Nat)
                    V.undef).set
                    (2 : Nat)
                    (ev
                    (V.i IntKind.i64 x0 ::
                    List.replicate (20 : Nat)
                    V.undef)
                    (Operand.const
                    (Value.bool false)))).set
                    (4 : Nat) (V.b b)).set
                    (5 : Nat) (V.b !b)).set
                    (5 : Nat) (V.b false))
                    (Operand.const
                    (Value.string
                    {
                    data :=
                    #[(110 : UInt8), (111 : UInt8),
                    (110 : UInt8),
                    (101 : UInt8)] })))).set
                    (6 : Nat)
                    (ev
                    ((((((V.i IntKind.i64 x0 ::
                    List.replicate (20 : Nat)
                    V.undef).set
                    (2 : Nat)
                    (ev
                    (V.i IntKind.i64 x0 ::
                    List.replicate (20 : Nat)
                    V.undef)
                    (Operand.const
                    (Value.bool false)))).set
                    (4 : Nat) (V.b b)).set
                    (5 : Nat) (V.b !b)).set
                    (5 : Nat) (V.b false)).set
                    (3 : Nat)
                    (ev
                    (((((V.i IntKind.i64 x0 ::
                    List.replicate (20 : Nat)
                    V.undef).set
                    (2 : Nat)
                    (ev
                    (V.i IntKind.i64 x0 ::
                    List.replicate (20 : Nat)
                    V.undef)
                    (Operand.const
                    (Value.bool false)))).set
                    (4 : Nat) (V.b b)).set
                    (5 : Nat) (V.b !b)).set
                    (5 : Nat) (V.b false))
                    (Operand.const
                    (Value.string
                    {
                    data :=
                    #[(110 : UInt8), (111 : UInt8),
                    (110 : UInt8), (101 : UInt8)] }))))
                    (Operand.tmp (0 : Nat)))).set
                    (7 : Nat) (V.b (leI (1 : Int) x0))).set
                    (8 : Nat)
                    (ev
                    ((((((((V.i IntKind.i64 x0 ::
                    List.replicate (20 : Nat)
                    V.undef).set
                    (2 : Nat)
                    (ev
                    (V.i IntKind.i64 x0 ::
                    List.replicate (20 : Nat)
                    V.undef)
                    (Operand.const
                    (Value.bool false)))).set
                    (4 : Nat) (V.b b)).set
                    (5 : Nat) (V.b !b)).set
                    (5 : Nat) (V.b false)).set
                    (3 : Nat)
                    (ev
                    (((((V.i IntKind.i64 x0 ::
                    List.replicate (20 : Nat)
                    V.undef).set
                    (2 : Nat)
                    (ev
                    (V.i IntKind.i64 x0 ::
                    List.replicate (20 : Nat)
                    V.undef)
                    (Operand.const
                    (Value.bool false)))).set
                    (4 : Nat) (V.b b)).set
                    (5 : Nat) (V.b !b)).set
                    (5 : Nat) (V.b false))
                    (Operand.const
                    (Value.string
                    {
                    data :=
                    #[(110 : UInt8), (111 : UInt8),
                    (110 : UInt8),
                    (101 : UInt8)] })))).set
                    (6 : Nat)
                    (ev
                    ((((((V.i IntKind.i64 x0 ::
                    List.replicate (20 : Nat)
                    V.undef).set
                    (2 : Nat)
                    (ev
                    (V.i IntKind.i64 x0 ::
                    List.replicate (20 : Nat)
                    V.undef)
                    (Operand.const
                    (Value.bool false)))).set
                    (4 : Nat) (V.b b)).set
                    (5 : Nat) (V.b !b)).set
                    (5 : Nat) (V.b false)).set
                    (3 : Nat)
                    (ev
                    (((((V.i IntKind.i64 x0 ::
                    List.replicate (20 : Nat)
                    V.undef).set
                    (2 : Nat)
                    (ev
                    (V.i IntKind.i64 x0 ::
                    List.replicate (20 : Nat)
                    V.undef)
                    (Operand.const
                    (Value.bool false)))).set
                    (4 : Nat) (V.b b)).set
                    (5 : Nat) (V.b !b)).set
                    (5 : Nat) (V.b false))
                    (Operand.const
                    (Value.string
                    {
                    data :=
                    #[(110 : UInt8), (111 : UInt8),
                    (110 : UInt8), (101 : UInt8)] }))))
                    (Operand.tmp (0 : Nat)))).set
                    (7 : Nat) (V.b (leI (1 : Int) x0)))
                    (Operand.tmp (7 : Nat)))).set
                    (8 : Nat) (V.b true))
                    (Operand.tmp (0 : Nat)))).set
                    (8 : Nat) (V.b true)).set
                    (10 : Nat) (V.b (leI x0 (4 : Int))))
                    (Operand.tmp (10 : Nat))
                    else
                    ev
                    (((((((((((((V.i IntKind.i64 x0 :: List.replicate (20 : Nat) V.undef).set
                    (2 : Nat)
                    (ev
                    (V.i IntKind.i64 x0 ::
                    List.replicate (20 : Nat)
                    V.undef)
                    (Operand.const
                    (Value.bool false)))).set
                    (4 : Nat) (V.b b)).set
                    (5 : Nat) (V.b !b)).set
                    (5 : Nat) (V.b false)).set
                    (3 : Nat)
                    (ev
                    (((((V.i IntKind.i64 x0 ::
                    List.replicate (20 : Nat)
                    V.undef).set
                    (2 : Nat)
                    (ev
                    (V.i IntKind.i64 x0 ::
                    List.replicate (20 : Nat)
                    V.undef)
                    (Operand.const
                    (Value.bool false)))).set
                    (4 : Nat) (V.b b)).set
                    (5 : Nat) (V.b !b)).set
                    (5 : Nat) (V.b false))
                    (Operand.const
                    (Value.string
                    {
                    data :=
                    #[(110 : UInt8), (111 : UInt8),
                    (110 : UInt8),
                    (101 : UInt8)] })))).set
                    (6 : Nat)
                    (ev
                    ((((((V.i IntKind.i64 x0 ::
                    List.replicate (20 : Nat)
                    V.undef).set
                    (2 : Nat)
                    (ev
                    (V.i IntKind.i64 x0 ::
                    List.replicate (20 : Nat)
                    V.undef)
                    (Operand.const
                    (Value.bool false)))).set
                    (4 : Nat) (V.b b)).set
                    (5 : Nat) (V.b !b)).set
                    (5 : Nat) (V.b false)).set
                    (3 : Nat)
                    (ev
                    (((((V.i IntKind.i64 x0 ::
                    List.replicate (20 : Nat)
                    V.undef).set
                    (2 : Nat)
                    (ev
                    (V.i IntKind.i64 x0 ::
                    List.replicate (20 : Nat)
                    V.undef)
                    (Operand.const
                    (Value.bool false)))).set
                    (4 : Nat) (V.b b)).set
                    (5 : Nat) (V.b !b)).set
                    (5 : Nat) (V.b false))
                    (Operand.const
                    (Value.string
                    {
                    data :=
                    #[(110 : UInt8), (111 : UInt8),
                    (110 : UInt8), (101 : UInt8)] }))))
                    (Operand.tmp (0 : Nat)))).set
                    (7 : Nat) (V.b (leI (1 : Int) x0))).set
                    (8 : Nat)
                    (ev
                    ((((((((V.i IntKind.i64 x0 ::
                    List.replicate (20 : Nat)
                    V.undef).set
                    (2 : Nat)
                    (ev
                    (V.i IntKind.i64 x0 ::
                    List.replicate (20 : Nat)
                    V.undef)
                    (Operand.const
                    (Value.bool false)))).set
                    (4 : Nat) (V.b b)).set
                    (5 : Nat) (V.b !b)).set
                    (5 : Nat) (V.b false)).set
                    (3 : Nat)
                    (ev
                    (((((V.i IntKind.i64 x0 ::
                    List.replicate (20 : Nat)
                    V.undef).set
                    (2 : Nat)
                    (ev
                    (V.i IntKind.i64 x0 ::
                    List.replicate (20 : Nat)
                    V.undef)
                    (Operand.const
                    (Value.bool false)))).set
                    (4 : Nat) (V.b b)).set
                    (5 : Nat) (V.b !b)).set
                    (5 : Nat) (V.b false))
                    (Operand.const
                    (Value.string
                    {
                    data :=
                    #[(110 : UInt8), (111 : UInt8),
                    (110 : UInt8),
                    (101 : UInt8)] })))).set
                    (6 : Nat)
                    (ev
                    ((((((V.i IntKind.i64 x0 ::
                    List.replicate (20 : Nat)
                    V.undef).set
                    (2 : Nat)
                    (ev
                    (V.i IntKind.i64 x0 ::
                    List.replicate (20 : Nat)
                    V.undef)
                    (Operand.const
                    (Value.bool false)))).set
                    (4 : Nat) (V.b b)).set
                    (5 : Nat) (V.b !b)).set
                    (5 : Nat) (V.b false)).set
                    (3 : Nat)
                    (ev
                    (((((V.i IntKind.i64 x0 ::
                    List.replicate (20 : Nat)
                    V.undef).set
                    (2 : Nat)
                    (ev
                    (V.i IntKind.i64 x0 ::
                    List.replicate (20 : Nat)
                    V.undef)
                    (Operand.const
                    (Value.bool false)))).set
                    (4 : Nat) (V.b b)).set
                    (5 : Nat) (V.b !b)).set
                    (5 : Nat) (V.b false))
                    (Operand.const
                    (Value.string
                    {
                    data :=
                    #[(110 : UInt8), (111 : UInt8),
                    (110 : UInt8), (101 : UInt8)] }))))
                    (Operand.tmp (0 : Nat)))).set
                    (7 : Nat) (V.b (leI (1 : Int) x0)))
                    (Operand.tmp (7 : Nat)))).set
                    (8 : Nat) (V.b true)).set
                    (9 : Nat)
                    (ev
                    ((((((((((V.i IntKind.i64 x0 ::
                    List.replicate (20 : Nat)
                    V.undef).set
                    (2 : Nat)
                    (ev
                    (V.i IntKind.i64 x0 ::
                    List.replicate (20 : Nat)
                    V.undef)
                    (Operand.const
                    (Value.bool false)))).set
                    (4 : Nat) (V.b b)).set
                    (5 : Nat) (V.b !b)).set
                    (5 : Nat) (V.b false)).set
                    (3 : Nat)
                    (ev
                    (((((V.i IntKind.i64 x0 ::
                    List.replicate (20 : Nat)
                    V.undef).set
                    (2 : Nat)
                    (ev
                    (V.i IntKind.i64 x0 ::
                    List.replicate (20 : Nat)
                    V.undef)
                    (Operand.const
                    (Value.bool false)))).set
                    (4 : Nat) (V.b b)).set
                    (5 : Nat) (V.b !b)).set
                    (5 : Nat) (V.b false))
                    (Operand.const
                    (Value.string
                    {
                    data :=
                    #[(110 : UInt8), (111 : UInt8),
                    (110 : UInt8),
                    (101 : UInt8)] })))).set
                    (6 : Nat)
                    (ev
                    ((((((V.i IntKind.i64 x0 ::
                    List.replicate (20 : Nat)
                    V.undef).set
                    (2 : Nat)
                    (ev
                    (V.i IntKind.i64 x0 ::
                    List.replicate (20 : Nat)
                    V.undef)
                    (Operand.const
                    (Value.bool false)))).set
                    (4 : Nat) (V.b b)).set
                    (5 : Nat) (V.b !b)).set
                    (5 : Nat) (V.b false)).set
                    (3 : Nat)
                    (ev
                    (((((V.i IntKind.i64 x0 ::
                    List.replicate (20 : Nat)
                    V.undef).set
                    (2 : Nat)
                    (ev
                    (V.i IntKind.i64 x0 ::
                    List.replicate (20 : Nat)
                    V.undef)
                    (Operand.const
                    (Value.bool false)))).set
                    (4 : Nat) (V.b b)).set
                    (5 : Nat) (V.b !b)).set
                    (5 : Nat) (V.b false))
                    (Operand.const
                    (Value.string
                    {
                    data :=
                    #[(110 : UInt8), (111 : UInt8),
                    (110 : UInt8), (101 : UInt8)] }))))
                    (Operand.tmp (0 : Nat)))).set
                    (7 : Nat) (V.b (leI (1 : Int) x0))).set
                    (8 : Nat)
                    (ev
                    ((((((((V.i IntKind.i64 x0 ::
                    List.replicate (20 : Nat)
                    V.undef).set
                    (2 : Nat)
                    (ev
                    (V.i IntKind.i64 x0 ::
                    List.replicate (20 : Nat)
                    V.undef)
                    (Operand.const
                    (Value.bool false)))).set
                    (4 : Nat) (V.b b)).set
                    (5 : Nat) (V.b !b)).set
                    (5 : Nat) (V.b false)).set
                    (3 : Nat)
                    (ev
                    (((((V.i IntKind.i64 x0 ::
                    List.replicate (20 : Nat)
                    V.undef).set
                    (2 : Nat)
                    (ev
                    (V.i IntKind.i64 x0 ::
                    List.replicate (20 : Nat)
                    V.undef)
                    (Operand.const
                    (Value.bool false)))).set
                    (4 : Nat) (V.b b)).set
                    (5 : Nat) (V.b !b)).set
                    (5 : Nat) (V.b false))
                    (Operand.const
                    (Value.string
                    {
                    data :=
                    #[(110 : UInt8), (111 : UInt8),
                    (110 : UInt8),
                    (101 : UInt8)] })))).set
                    (6 : Nat)
                    (ev
                    ((((((V.i IntKind.i64 x0 ::
                    List.replicate (20 : Nat)
                    V.undef).set
                    (2 : Nat)
                    (ev
                    (V.i IntKind.i64 x0 ::
                    List.replicate (20 : Nat)
                    V.undef)
                    (Operand.const
                    (Value.bool false)))).set
                    (4 : Nat) (V.b b)).set
                    (5 : Nat) (V.b !b)).set
                    (5 : Nat) (V.b false)).set
                    (3 : Nat)
                    (ev
                    (((((V.i IntKind.i64 x0 ::
                    List.replicate (20 : Nat)
                    V.undef).set
                    (2 : Nat)
                    (ev
                    (V.i IntKind.i64 x0 ::
                    List.replicate (20 : Nat)
                    V.undef)
                    (Operand.const
                    (Value.bool false)))).set
                    (4 : Nat) (V.b b)).set
                    (5 : Nat) (V.b !b)).set
                    (5 : Nat) (V.b false))
                    (Operand.const
                    (Value.string
                    {
                    data :=
                    #[(110 : UInt8), (111 : UInt8),
                    (110 : UInt8), (101 : UInt8)] }))))
                    (Operand.tmp (0 : Nat)))).set
                    (7 : Nat) (V.b (leI (1 : Int) x0)))
                    (Operand.tmp (7 : Nat)))).set
                    (8 : Nat) (V.b true))
                    (Operand.tmp (0 : Nat)))).set
                    (8 : Nat) (V.b true)).set
                    (10 : Nat) (V.b (leI x0 (4 : Int))))
                    (Operand.const (Value.bool false)))).set
                    (11 : Nat) (V.b true))
                    ((2 : Nat),
                    Operand.const
                    (Value.string
                    { data := #[(101 : UInt8), (111 : UInt8), (102 : UInt8)] })).snd).cells)
                    (((3 : Nat),
                    Operand.const
                    (Value.string
                    {
                    data :=
                    #[(101 : UInt8), (114 : UInt8), (114 : UInt8), (111 : UInt8),
                    (114 : UInt8)] })).fst *
                    (1 : Nat))
                    (ev
                    (((((((((((((((V.i IntKind.i64 x0 :: List.replicate (20 : Nat) V.undef).set (2 : Nat)
                    (ev
                    (V.i IntKind.i64 x0 ::
                    List.replicate (20 : Nat) V.undef)
                    (Operand.const
                    (Value.bool false)))).set
                    (4 : Nat) (V.b b)).set
                    (5 : Nat) (V.b !b)).set
                    (5 : Nat) (V.b false)).set
                    (3 : Nat)
                    (ev
                    (((((V.i IntKind.i64 x0 ::
                    List.replicate (20 : Nat)
                    V.undef).set
                    (2 : Nat)
                    (ev
                    (V.i IntKind.i64 x0 ::
                    List.replicate (20 : Nat) V.undef)
                    (Operand.const
                    (Value.bool false)))).set
                    (4 : Nat) (V.b b)).set
                    (5 : Nat) (V.b !b)).set
                    (5 : Nat) (V.b false))
                    (Operand.const
                    (Value.string
                    {
                    data :=
                    #[(110 : UInt8), (111 : UInt8),
                    (110 : UInt8), (101 : UInt8)] })))).set
                    (6 : Nat)
                    (ev
                    ((((((V.i IntKind.i64 x0 ::
                    List.replicate (20 : Nat)
                    V.undef).set
                    (2 : Nat)
                    (ev
                    (V.i IntKind.i64 x0 ::
                    List.replicate (20 : Nat) V.undef)
                    (Operand.const
                    (Value.bool false)))).set
                    (4 : Nat) (V.b b)).set
                    (5 : Nat) (V.b !b)).set
                    (5 : Nat) (V.b false)).set
                    (3 : Nat)
                    (ev
                    (((((V.i IntKind.i64 x0 ::
                    List.replicate (20 : Nat)
                    V.undef).set
                    (2 : Nat)
                    (ev
                    (V.i IntKind.i64 x0 ::
                    List.replicate (20 : Nat) V.undef)
                    (Operand.const
                    (Value.bool false)))).set
                    (4 : Nat) (V.b b)).set
                    (5 : Nat) (V.b !b)).set
                    (5 : Nat) (V.b false))
                    (Operand.const
                    (Value.string
                    {
                    data :=
                    #[(110 : UInt8), (111 : UInt8),
                    (110 : UInt8), (101 : UInt8)] }))))
                    (Operand.tmp (0 : Nat)))).set
                    (7 : Nat) (V.b (leI (1 : Int) x0))).set
                    (8 : Nat)
                    (ev
                    ((((((((V.i IntKind.i64 x0 ::
                    List.replicate (20 : Nat)
                    V.undef).set
                    (2 : Nat)
                    (ev
                    (V.i IntKind.i64 x0 ::
                    List.replicate (20 : Nat) V.undef)
                    (Operand.const
                    (Value.bool false)))).set
                    (4 : Nat) (V.b b)).set
                    (5 : Nat) (V.b !b)).set
                    (5 : Nat) (V.b false)).set
                    (3 : Nat)
                    (ev
                    (((((V.i IntKind.i64 x0 ::
                    List.replicate (20 : Nat)
                    V.undef).set
                    (2 : Nat)
                    (ev
                    (V.i IntKind.i64 x0 ::
                    List.replicate (20 : Nat) V.undef)
                    (Operand.const
                    (Value.bool false)))).set
                    (4 : Nat) (V.b b)).set
                    (5 : Nat) (V.b !b)).set
                    (5 : Nat) (V.b false))
                    (Operand.const
                    (Value.string
                    {
                    data :=
                    #[(110 : UInt8), (111 : UInt8),
                    (110 : UInt8), (101 : UInt8)] })))).set
                    (6 : Nat)
                    (ev
                    ((((((V.i IntKind.i64 x0 ::
                    List.replicate (20 : Nat)
                    V.undef).set
                    (2 : Nat)
                    (ev
                    (V.i IntKind.i64 x0 ::
                    List.replicate (20 : Nat) V.undef)
                    (Operand.const
                    (Value.bool false)))).set
                    (4 : Nat) (V.b b)).set
                    (5 : Nat) (V.b !b)).set
                    (5 : Nat) (V.b false)).set
                    (3 : Nat)
                    (ev
                    (((((V.i IntKind.i64 x0 ::
                    List.replicate (20 : Nat)
                    V.undef).set
                    (2 : Nat)
                    (ev
                    (V.i IntKind.i64 x0 ::
                    List.replicate (20 : Nat) V.undef)
                    (Operand.const
                    (Value.bool false)))).set
                    (4 : Nat) (V.b b)).set
                    (5 : Nat) (V.b !b)).set
                    (5 : Nat) (V.b false))
                    (Operand.const
                    (Value.string
                    {
                    data :=
                    #[(110 : UInt8), (111 : UInt8),
                    (110 : UInt8), (101 : UInt8)] }))))
                    (Operand.tmp (0 : Nat)))).set
                    (7 : Nat) (V.b (leI (1 : Int) x0)))
                    (Operand.tmp (7 : Nat)))).set
                    (8 : Nat) (V.b true)).set
                    (9 : Nat)
                    (ev
                    ((((((((((V.i IntKind.i64 x0 :: List.replicate (20 : Nat) V.undef).set
                    (2 : Nat)
                    (ev
                    (V.i IntKind.i64 x0 ::
                    List.replicate (20 : Nat) V.undef)
                    (Operand.const
                    (Value.bool false)))).set
                    (4 : Nat) (V.b b)).set
                    (5 : Nat) (V.b !b)).set
                    (5 : Nat) (V.b false)).set
                    (3 : Nat)
                    (ev
                    (((((V.i IntKind.i64 x0 ::
                    List.replicate (20 : Nat)
                    V.undef).set
                    (2 : Nat)
                    (ev
                    (V.i IntKind.i64 x0 ::
                    List.replicate (20 : Nat) V.undef)
                    (Operand.const
                    (Value.bool false)))).set
                    (4 : Nat) (V.b b)).set
                    (5 : Nat) (V.b !b)).set
                    (5 : Nat) (V.b false))
                    (Operand.const
                    (Value.string
                    {
                    data :=
                    #[(110 : UInt8), (111 : UInt8),
                    (110 : UInt8), (101 : UInt8)] })))).set
                    (6 : Nat)
                    (ev
                    ((((((V.i IntKind.i64 x0 ::
                    List.replicate (20 : Nat)
                    V.undef).set
                    (2 : Nat)
                    (ev
                    (V.i IntKind.i64 x0 ::
                    List.replicate (20 : Nat) V.undef)
                    (Operand.const
                    (Value.bool false)))).set
                    (4 : Nat) (V.b b)).set
                    (5 : Nat) (V.b !b)).set
                    (5 : Nat) (V.b false)).set
                    (3 : Nat)
                    (ev
                    (((((V.i IntKind.i64 x0 ::
                    List.replicate (20 : Nat)
                    V.undef).set
                    (2 : Nat)
                    (ev
                    (V.i IntKind.i64 x0 ::
                    List.replicate (20 : Nat) V.undef)
                    (Operand.const
                    (Value.bool false)))).set
                    (4 : Nat) (V.b b)).set
                    (5 : Nat) (V.b !b)).set
                    (5 : Nat) (V.b false))
                    (Operand.const
                    (Value.string
                    {
                    data :=
                    #[(110 : UInt8), (111 : UInt8),
                    (110 : UInt8), (101 : UInt8)] }))))
                    (Operand.tmp (0 : Nat)))).set
                    (7 : Nat) (V.b (leI (1 : Int) x0))).set
                    (8 : Nat)
                    (ev
                    ((((((((V.i IntKind.i64 x0 ::
                    List.replicate (20 : Nat)
                    V.undef).set
                    (2 : Nat)
                    (ev
                    (V.i IntKind.i64 x0 ::
                    List.replicate (20 : Nat) V.undef)
                    (Operand.const
                    (Value.bool false)))).set
                    (4 : Nat) (V.b b)).set
                    (5 : Nat) (V.b !b)).set
                    (5 : Nat) (V.b false)).set
                    (3 : Nat)
                    (ev
                    (((((V.i IntKind.i64 x0 ::
                    List.replicate (20 : Nat)
                    V.undef).set
                    (2 : Nat)
                    (ev
                    (V.i IntKind.i64 x0 ::
                    List.replicate (20 : Nat) V.undef)
                    (Operand.const
                    (Value.bool false)))).set
                    (4 : Nat) (V.b b)).set
                    (5 : Nat) (V.b !b)).set
                    (5 : Nat) (V.b false))
                    (Operand.const
                    (Value.string
                    {
                    data :=
                    #[(110 : UInt8), (111 : UInt8),
                    (110 : UInt8), (101 : UInt8)] })))).set
                    (6 : Nat)
                    (ev
                    ((((((V.i IntKind.i64 x0 ::
                    List.replicate (20 : Nat)
                    V.undef).set
                    (2 : Nat)
                    (ev
                    (V.i IntKind.i64 x0 ::
                    List.replicate (20 : Nat) V.undef)
                    (Operand.const
                    (Value.bool false)))).set
                    (4 : Nat) (V.b b)).set
                    (5 : Nat) (V.b !b)).set
                    (5 : Nat) (V.b false)).set
                    (3 : Nat)
                    (ev
                    (((((V.i IntKind.i64 x0 ::
                    List.replicate (20 : Nat)
                    V.undef).set
                    (2 : Nat)
                    (ev
                    (V.i IntKind.i64 x0 ::
                    List.replicate (20 : Nat) V.undef)
                    (Operand.const
                    (Value.bool false)))).set
                    (4 : Nat) (V.b b)).set
                    (5 : Nat) (V.b !b)).set
                    (5 : Nat) (V.b false))
                    (Operand.const
                    (Value.string
                    {
                    data :=
                    #[(110 : UInt8), (111 : UInt8),
                    (110 : UInt8), (101 : UInt8)] }))))
                    (Operand.tmp (0 : Nat)))).set
                    (7 : Nat) (V.b (leI (1 : Int) x0)))
                    (Operand.tmp (7 : Nat)))).set
                    (8 : Nat) (V.b true))
                    (Operand.tmp (0 : Nat)))).set
                    (8 : Nat) (V.b true)).set
                    (10 : Nat) (V.b (leI x0 (4 : Int)))).set
                    (11 : Nat)
                    (if true = true then
                    ev
                    (((((((((((((V.i IntKind.i64 x0 :: List.replicate (20 : Nat) V.undef).set
                    (2 : Nat)
                    (ev
                    (V.i IntKind.i64 x0 ::
                    List.replicate (20 : Nat)
                    V.undef)
                    (Operand.const
                    (Value.bool false)))).set
                    (4 : Nat) (V.b b)).set
                    (5 : Nat) (V.b !b)).set
                    (5 : Nat) (V.b false)).set
                    (3 : Nat)
                    (ev
                    (((((V.i IntKind.i64 x0 ::
                    List.replicate (20 : Nat)
                    V.undef).set
                    (2 : Nat)
                    (ev
                    (V.i IntKind.i64 x0 ::
                    List.replicate (20 : Nat)
                    V.undef)
                    (Operand.const
                    (Value.bool false)))).set
                    (4 : Nat) (V.b b)).set
                    (5 : Nat) (V.b !b)).set
                    (5 : Nat) (V.b false))
                    (Operand.const
                    (Value.string
                    {
                    data :=
                    #[(110 : UInt8), (111 : UInt8),
                    (110 : UInt8), (101 : UInt8)] })))).set
                    (6 : Nat)
                    (ev
                    ((((((V.i IntKind.i64 x0 ::
                    List.replicate (20 : Nat)
                    V.undef).set
                    (2 : Nat)
                    (ev
                    (V.i IntKind.i64 x0 ::
                    List.replicate (20 : Nat)
                    V.undef)
                    (Operand.const
                    (Value.bool false)))).set
                    (4 : Nat) (V.b b)).set
                    (5 : Nat) (V.b !b)).set
                    (5 : Nat) (V.b false)).set
                    (3 : Nat)
                    (ev
                    (((((V.i IntKind.i64 x0 ::
                    List.replicate (20 : Nat)
                    V.undef).set
                    (2 : Nat)
                    (ev
                    (V.i IntKind.i64 x0 ::
                    List.replicate (20 : Nat)
                    V.undef)
                    (Operand.const
                    (Value.bool false)))).set
                    (4 : Nat) (V.b b)).set
                    (5 : Nat) (V.b !b)).set
                    (5 : Nat) (V.b false))
                    (Operand.const
                    (Value.string
                    {
                    data :=
                    #[(110 : UInt8), (111 : UInt8),
                    (110 : UInt8), (101 : UInt8)] }))))
                    (Operand.tmp (0 : Nat)))).set
                    (7 : Nat) (V.b (leI (1 : Int) x0))).set
                    (8 : Nat)
                    (ev
                    ((((((((V.i IntKind.i64 x0 ::
                    List.replicate (20 : Nat)
                    V.undef).set
                    (2 : Nat)
                    (ev
                    (V.i IntKind.i64 x0 ::
                    List.replicate (20 : Nat)
                    V.undef)
                    (Operand.const
                    (Value.bool false)))).set
                    (4 : Nat) (V.b b)).set
                    (5 : Nat) (V.b !b)).set
                    (5 : Nat) (V.b false)).set
                    (3 : Nat)
                    (ev
                    (((((V.i IntKind.i64 x0 ::
                    List.replicate (20 : Nat)
                    V.undef).set
                    (2 : Nat)
                    (ev
                    (V.i IntKind.i64 x0 ::
                    List.replicate (20 : Nat)
                    V.undef)
                    (Operand.const
                    (Value.bool false)))).set
                    (4 : Nat) (V.b b)).set
                    (5 : Nat) (V.b !b)).set
                    (5 : Nat) (V.b false))
                    (Operand.const
                    (Value.string
                    {
                    data :=
                    #[(110 : UInt8), (111 : UInt8),
                    (110 : UInt8), (101 : UInt8)] })))).set
                    (6 : Nat)
                    (ev
                    ((((((V.i IntKind.i64 x0 ::
                    List.replicate (20 : Nat)
                    V.undef).set
                    (2 : Nat)
                    (ev
                    (V.i IntKind.i64 x0 ::
                    List.replicate (20 : Nat)
                    V.undef)
                    (Operand.const
                    (Value.bool false)))).set
                    (4 : Nat) (V.b b)).set
                    (5 : Nat) (V.b !b)).set
                    (5 : Nat) (V.b false)).set
                    (3 : Nat)
                    (ev
                    (((((V.i IntKind.i64 x0 ::
                    List.replicate (20 : Nat)
                    V.undef).set
                    (2 : Nat)
                    (ev
                    (V.i IntKind.i64 x0 ::
                    List.replicate (20 : Nat)
                    V.undef)
                    (Operand.const
                    (Value.bool false)))).set
                    (4 : Nat) (V.b b)).set
                    (5 : Nat) (V.b !b)).set
                    (5 : Nat) (V.b false))
                    (Operand.const
                    (Value.string
                    {
                    data :=
                    #[(110 : UInt8), (111 : UInt8),
                    (110 : UInt8), (101 : UInt8)] }))))
                    (Operand.tmp (0 : Nat)))).set
                    (7 : Nat) (V.b (leI (1 : Int) x0)))
                    (Operand.tmp (7 : Nat)))).set
                    (8 : Nat) (V.b true)).set
                    (9 : Nat)
                    (ev
                    ((((((((((V.i IntKind.i64 x0 :: List.replicate (20 : Nat) V.undef).set
                    (2 : Nat)
                    (ev
                    (V.i IntKind.i64 x0 ::
                    List.replicate (20 : Nat)
                    V.undef)
                    (Operand.const
                    (Value.bool false)))).set
                    (4 : Nat) (V.b b)).set
                    (5 : Nat) (V.b !b)).set
                    (5 : Nat) (V.b false)).set
                    (3 : Nat)
                    (ev
                    (((((V.i IntKind.i64 x0 ::
                    List.replicate (20 : Nat)
                    V.undef).set
                    (2 : Nat)
                    (ev
                    (V.i IntKind.i64 x0 ::
                    List.replicate (20 : Nat)
                    V.undef)
                    (Operand.const
                    (Value.bool false)))).set
                    (4 : Nat) (V.b b)).set
                    (5 : Nat) (V.b !b)).set
                    (5 : Nat) (V.b false))
                    (Operand.const
                    (Value.string
                    {
                    data :=
                    #[(110 : UInt8), (111 : UInt8),
                    (110 : UInt8), (101 : UInt8)] })))).set
                    (6 : Nat)
                    (ev
                    ((((((V.i IntKind.i64 x0 ::
                    List.replicate (20 : Nat)
                    V.undef).set
                    (2 : Nat)
                    (ev
                    (V.i IntKind.i64 x0 ::
                    List.replicate (20 : Nat)
                    V.undef)
                    (Operand.const
                    (Value.bool false)))).set
                    (4 : Nat) (V.b b)).set
                    (5 : Nat) (V.b !b)).set
                    (5 : Nat) (V.b false)).set
                    (3 : Nat)
                    (ev
                    (((((V.i IntKind.i64 x0 ::
                    List.replicate (20 : Nat)
                    V.undef).set
                    (2 : Nat)
                    (ev
                    (V.i IntKind.i64 x0 ::
                    List.replicate (20 : Nat)
                    V.undef)
                    (Operand.const
                    (Value.bool false)))).set
                    (4 : Nat) (V.b b)).set
                    (5 : Nat) (V.b !b)).set
                    (5 : Nat) (V.b false))
                    (Operand.const
                    (Value.string
                    {
                    data :=
                    #[(110 : UInt8), (111 : UInt8),
                    (110 : UInt8), (101 : UInt8)] }))))
                    (Operand.tmp (0 : Nat)))).set
                    (7 : Nat) (V.b (leI (1 : Int) x0))).set
                    (8 : Nat)
                    (ev
                    ((((((((V.i IntKind.i64 x0 ::
                    List.replicate (20 : Nat)
                    V.undef).set
                    (2 : Nat)
                    (ev
                    (V.i IntKind.i64 x0 ::
                    List.replicate (20 : Nat)
                    V.undef)
                    (Operand.const
                    (Value.bool false)))).set
                    (4 : Nat) (V.b b)).set
                    (5 : Nat) (V.b !b)).set
                    (5 : Nat) (V.b false)).set
                    (3 : Nat)
                    (ev
                    (((((V.i IntKind.i64 x0 ::
                    List.replicate (20 : Nat)
                    V.undef).set
                    (2 : Nat)
                    (ev
                    (V.i IntKind.i64 x0 ::
                    List.replicate (20 : Nat)
                    V.undef)
                    (Operand.const
                    (Value.bool false)))).set
                    (4 : Nat) (V.b b)).set
                    (5 : Nat) (V.b !b)).set
                    (5 : Nat) (V.b false))
                    (Operand.const
                    (Value.string
                    {
                    data :=
                    #[(110 : UInt8), (111 : UInt8),
                    (110 : UInt8), (101 : UInt8)] })))).set
                    (6 : Nat)
                    (ev
                    ((((((V.i IntKind.i64 x0 ::
                    List.replicate (20 : Nat)
                    V.undef).set
                    (2 : Nat)
                    (ev
                    (V.i IntKind.i64 x0 ::
                    List.replicate (20 : Nat)
                    V.undef)
                    (Operand.const
                    (Value.bool false)))).set
                    (4 : Nat) (V.b b)).set
                    (5 : Nat) (V.b !b)).set
                    (5 : Nat) (V.b false)).set
                    (3 : Nat)
                    (ev
                    (((((V.i IntKind.i64 x0 ::
                    List.replicate (20 : Nat)
                    V.undef).set
                    (2 : Nat)
                    (ev
                    (V.i IntKind.i64 x0 ::
                    List.replicate (20 : Nat)
                    V.undef)
                    (Operand.const
                    (Value.bool false)))).set
                    (4 : Nat) (V.b b)).set
                    (5 : Nat) (V.b !b)).set
                    (5 : Nat) (V.b false))
                    (Operand.const
                    (Value.string
                    {
                    data :=
                    #[(110 : UInt8), (111 : UInt8),
                    (110 : UInt8), (101 : UInt8)] }))))
                    (Operand.tmp (0 : Nat)))).set
                    (7 : Nat) (V.b (leI (1 : Int) x0)))
                    (Operand.tmp (7 : Nat)))).set
                    (8 : Nat) (V.b true))
                    (Operand.tmp (0 : Nat)))).set
                    (8 : Nat) (V.b true)).set
                    (10 : Nat) (V.b (leI x0 (4 : Int))))
                    (Operand.tmp (10 : Nat))
                    else
                    ev
                    (((((((((((((V.i IntKind.i64 x0 :: List.replicate (20 : Nat) V.undef).set
                    (2 : Nat)
                    (ev
                    (V.i IntKind.i64 x0 ::
                    List.replicate (20 : Nat)
                    V.undef)
                    (Operand.const
                    (Value.bool false)))).set
                    (4 : Nat) (V.b b)).set
                    (5 : Nat) (V.b !b)).set
                    (5 : Nat) (V.b false)).set
                    (3 : Nat)
                    (ev
                    (((((V.i IntKind.i64 x0 ::
                    List.replicate (20 : Nat)
                    V.undef).set
                    (2 : Nat)
                    (ev
                    (V.i IntKind.i64 x0 ::
                    List.replicate (20 : Nat)
                    V.undef)
                    (Operand.const
                    (Value.bool false)))).set
                    (4 : Nat) (V.b b)).set
                    (5 : Nat) (V.b !b)).set
                    (5 : Nat) (V.b false))
                    (Operand.const
                    (Value.string
                    {
                    data :=
                    #[(110 : UInt8), (111 : UInt8),
                    (110 : UInt8), (101 : UInt8)] })))).set
                    (6 : Nat)
                    (ev
                    ((((((V.i IntKind.i64 x0 ::
                    List.replicate (20 : Nat)
                    V.undef).set
                    (2 : Nat)
                    (ev
                    (V.i IntKind.i64 x0 ::
                    List.replicate (20 : Nat)
                    V.undef)
                    (Operand.const
                    (Value.bool false)))).set
                    (4 : Nat) (V.b b)).set
                    (5 : Nat) (V.b !b)).set
                    (5 : Nat) (V.b false)).set
                    (3 : Nat)
                    (ev
                    (((((V.i IntKind.i64 x0 ::
                    List.replicate (20 : Nat)
                    V.undef).set
                    (2 : Nat)
                    (ev
                    (V.i IntKind.i64 x0 ::
                    List.replicate (20 : Nat)
                    V.undef)
                    (Operand.const
                    (Value.bool false)))).set
                    (4 : Nat) (V.b b)).set
                    (5 : Nat) (V.b !b)).set
                    (5 : Nat) (V.b false))
                    (Operand.const
                    (Value.string
                    {
                    data :=
                    #[(110 : UInt8), (111 : UInt8),
                    (110 : UInt8), (101 : UInt8)] }))))
                    (Operand.tmp (0 : Nat)))).set
                    (7 : Nat) (V.b (leI (1 : Int) x0))).set
                    (8 : Nat)
                    (ev
                    ((((((((V.i IntKind.i64 x0 ::
                    List.replicate (20 : Nat)
                    V.undef).set
                    (2 : Nat)
                    (ev
                    (V.i IntKind.i64 x0 ::
                    List.replicate (20 : Nat)
                    V.undef)
                    (Operand.const
                    (Value.bool false)))).set
                    (4 : Nat) (V.b b)).set
                    (5 : Nat) (V.b !b)).set
                    (5 : Nat) (V.b false)).set
                    (3 : Nat)
                    (ev
                    (((((V.i IntKind.i64 x0 ::
                    List.replicate (20 : Nat)
                    V.undef).set
                    (2 : Nat)
                    (ev
                    (V.i IntKind.i64 x0 ::
                    List.replicate (20 : Nat)
                    V.undef)
                    (Operand.const
                    (Value.bool false)))).set
                    (4 : Nat) (V.b b)).set
                    (5 : Nat) (V.b !b)).set
                    (5 : Nat) (V.b false))
                    (Operand.const
                    (Value.string
                    {
                    data :=
                    #[(110 : UInt8), (111 : UInt8),
                    (110 : UInt8), (101 : UInt8)] })))).set
                    (6 : Nat)
                    (ev
                    ((((((V.i IntKind.i64 x0 ::
                    List.replicate (20 : Nat)
                    V.undef).set
                    (2 : Nat)
                    (ev
                    (V.i IntKind.i64 x0 ::
                    List.replicate (20 : Nat)
                    V.undef)
                    (Operand.const
                    (Value.bool false)))).set
                    (4 : Nat) (V.b b)).set
                    (5 : Nat) (V.b !b)).set
                    (5 : Nat) (V.b false)).set
                    (3 : Nat)
                    (ev
                    (((((V.i IntKind.i64 x0 ::
                    List.replicate (20 : Nat)
                    V.undef).set
                    (2 : Nat)
                    (ev
                    (V.i IntKind.i64 x0 ::
                    List.replicate (20 : Nat)
                    V.undef)
                    (Operand.const
                    (Value.bool false)))).set
                    (4 : Nat) (V.b b)).set
                    (5 : Nat) (V.b !b)).set
                    (5 : Nat) (V.b false))
                    (Operand.const
                    (Value.string
                    {
                    data :=
                    #[(110 : UInt8), (111 : UInt8),
                    (110 : UInt8), (101 : UInt8)] }))))
                    (Operand.tmp (0 : Nat)))).set
                    (7 : Nat) (V.b (leI (1 : Int) x0)))
                    (Operand.tmp (7 : Nat)))).set
                    (8 : Nat) (V.b true)).set
                    (9 : Nat)
                    (ev
                    ((((((((((V.i IntKind.i64 x0 :: List.replicate (20 : Nat) V.undef).set
                    (2 : Nat)
                    (ev
                    (V.i IntKind.i64 x0 ::
                    List.replicate (20 : Nat)
                    V.undef)
                    (Operand.const
                    (Value.bool false)))).set
                    (4 : Nat) (V.b b)).set
                    (5 : Nat) (V.b !b)).set
                    (5 : Nat) (V.b false)).set
                    (3 : Nat)
                    (ev
                    (((((V.i IntKind.i64 x0 ::
                    List.replicate (20 : Nat)
                    V.undef).set
                    (2 : Nat)
                    (ev
                    (V.i IntKind.i64 x0 ::
                    List.replicate (20 : Nat)
                    V.undef)
                    (Operand.const
                    (Value.bool false)))).set
                    (4 : Nat) (V.b b)).set
                    (5 : Nat) (V.b !b)).set
                    (5 : Nat) (V.b false))
                    (Operand.const
                    (Value.string
                    {
                    data :=
                    #[(110 : UInt8), (111 : UInt8),
                    (110 : UInt8), (101 : UInt8)] })))).set
                    (6 : Nat)
                    (ev
                    ((((((V.i IntKind.i64 x0 ::
                    List.replicate (20 : Nat)
                    V.undef).set
                    (2 : Nat)
                    (ev
                    (V.i IntKind.i64 x0 ::
                    List.replicate (20 : Nat)
                    V.undef)
                    (Operand.const
                    (Value.bool false)))).set
                    (4 : Nat) (V.b b)).set
                    (5 : Nat) (V.b !b)).set
                    (5 : Nat) (V.b false)).set
                    (3 : Nat)
                    (ev
                    (((((V.i IntKind.i64 x0 ::
                    List.replicate (20 : Nat)
                    V.undef).set
                    (2 : Nat)
                    (ev
                    (V.i IntKind.i64 x0 ::
                    List.replicate (20 : Nat)
                    V.undef)
                    (Operand.const
                    (Value.bool false)))).set
                    (4 : Nat) (V.b b)).set
                    (5 : Nat) (V.b !b)).set
                    (5 : Nat) (V.b false))
                    (Operand.const
                    (Value.string
                    {
                    data :=
                    #[(110 : UInt8), (111 : UInt8),
                    (110 : UInt8), (101 : UInt8)] }))))
                    (Operand.tmp (0 : Nat)))).set
                    (7 : Nat) (V.b (leI (1 : Int) x0))).set
                    (8 : Nat)
                    (ev
                    ((((((((V.i IntKind.i64 x0 ::
                    List.replicate (20 : Nat)
                    V.undef).set
                    (2 : Nat)
                    (ev
                    (V.i IntKind.i64 x0 ::
                    List.replicate (20 : Nat)
                    V.undef)
                    (Operand.const
                    (Value.bool false)))).set
                    (4 : Nat) (V.b b)).set
                    (5 : Nat) (V.b !b)).set
                    (5 : Nat) (V.b false)).set
                    (3 : Nat)
                    (ev
                    (((((V.i IntKind.i64 x0 ::
                    List.replicate (20 : Nat)
                    V.undef).set
                    (2 : Nat)
                    (ev
                    (V.i IntKind.i64 x0 ::
                    List.replicate (20 : Nat)
                    V.undef)
                    (Operand.const
                    (Value.bool false)))).set
                    (4 : Nat) (V.b b)).set
                    (5 : Nat) (V.b !b)).set
                    (5 : Nat) (V.b false))
                    (Operand.const
                    (Value.string
                    {
                    data :=
                    #[(110 : UInt8), (111 : UInt8),
                    (110 : UInt8), (101 : UInt8)] })))).set
                    (6 : Nat)
                    (ev
                    ((((((V.i IntKind.i64 x0 ::
                    List.replicate (20 : Nat)
                    V.undef).set
                    (2 : Nat)
                    (ev
                    (V.i IntKind.i64 x0 ::
                    List.replicate (20 : Nat)
                    V.undef)
                    (Operand.const
                    (Value.bool false)))).set
                    (4 : Nat) (V.b b)).set
                    (5 : Nat) (V.b !b)).set
                    (5 : Nat) (V.b false)).set
                    (3 : Nat)
                    (ev
                    (((((V.i IntKind.i64 x0 ::
                    List.replicate (20 : Nat)
                    V.undef).set
                    (2 : Nat)
                    (ev
                    (V.i IntKind.i64 x0 ::
                    List.replicate (20 : Nat)
                    V.undef)
                    (Operand.const
                    (Value.bool false)))).set
                    (4 : Nat) (V.b b)).set
                    (5 : Nat) (V.b !b)).set
                    (5 : Nat) (V.b false))
                    (Operand.const
                    (Value.string
                    {
                    data :=
                    #[(110 : UInt8), (111 : UInt8),
                    (110 : UInt8), (101 : UInt8)] }))))
                    (Operand.tmp (0 : Nat)))).set
                    (7 : Nat) (V.b (leI (1 : Int) x0)))
                    (Operand.tmp (7 : Nat)))).set
                    (8 : Nat) (V.b true))
                    (Operand.tmp (0 : Nat)))).set
                    (8 : Nat) (V.b true)).set
                    (10 : Nat) (V.b (leI x0 (4 : Int))))
                    (Operand.const (Value.bool false)))).set
                    (11 : Nat) (V.b true))
                    ((3 : Nat),
                    Operand.const
                    (Value.string
                    {
                    data :=
                    #[(101 : UInt8), (114 : UInt8), (114 : UInt8), (111 : UInt8),
                    (114 : UInt8)] })).snd).cells)) =
                  some [V.s s] ∧
                ∃ (s_1 : List UInt8),
                  (PCon Tryz.Y (5 : Nat) [V.i IntKind.i64 x0] fun (v : V) => v = V.s s_1) ∧
                    K Out.ret 21 [V.b (s_1 == s)] h)
          (∃ (s : List UInt8),
            (PCon Tryz.Y (5 : Nat) [V.i IntKind.i64 x0] fun (v : V) => v = V.s s) ∧
              K Out.ret 21 [V.b (s == #[(110 : UInt8), (111 : UInt8), (110 : UInt8), (101 : UInt8)].toList)]
                h))
        (∃ (s : List UInt8),
          (PCon Tryz.Y (5 : Nat) [V.i IntKind.i64 x0] fun (v : V) => v = V.s s) ∧
            K Out.ret 21 [V.b (s == #[(110 : UInt8), (111 : UInt8), (110 : UInt8), (101 : UInt8)].toList)] h))) := by kernel_rfl
theorem f5_0 (x0 : Int) (h : Heap) (K : Out → Nat → List V → Heap → Prop) : (codeP Tryz.Y (Tryz.Y.loc 5) 100 ((flat (bodyOf Tryz.f5))) ⟨(V.i IntKind.i64 x0 :: List.replicate 12 .undef), [], h⟩ (VQ [2] K)) =
  (∃ (b : Bool),
  (PCon Tryz.Y (11 : Nat)
      [V.ts [V.i IntKind.i64 (1 : Int), V.i IntKind.i64 (2 : Int), V.i IntKind.i64 (3 : Int), V.i IntKind.i64 (4 : Int)]
          4 (some 4),
        V.i IntKind.i64 x0]
      fun (v : V) => v = V.b b) ∧
    If (!b)
      (((0 : Int) ≤ (0 : Int) ∧ (0 : Int) < (↑(5 : Nat) : Int)) ∧
        ∃ (s : List UInt8),
          takeX 1
                [V.s #[(110 : UInt8), (111 : UInt8), (110 : UInt8), (101 : UInt8)].toList,
                  V.s
                    #[(100 : UInt8), (101 : UInt8), (97 : UInt8), (100 : UInt8), (108 : UInt8), (111 : UInt8),
                    (99 : UInt8), (107 : UInt8)].toList,
                  V.s
                    #[(111 : UInt8), (117 : UInt8), (116 : UInt8), (112 : UInt8), (117 : UInt8), (116 : UInt8)].toList,
                  V.s #[(101 : UInt8), (111 : UInt8), (102 : UInt8)].toList,
                  V.s #[(101 : UInt8), (114 : UInt8), (114 : UInt8), (111 : UInt8), (114 : UInt8)].toList] =
              some [V.s s] ∧
            K Out.ret 13 [V.s s] h)
      (((0 : Int) ≤ x0 ∧ x0 < (↑(5 : Nat) : Int)) ∧
        ∃ (s : List UInt8),
          takeX 1
                (List.drop (x0.toNat * (1 : Nat))
                  (splice
                    (splice
                    (splice
                    (splice
                    (splice (List.replicate (5 : Nat) [V.s []]).flatten
                    (((0 : Nat),
                    Operand.const
                    (Value.string
                    { data := #[(110 : UInt8), (111 : UInt8), (110 : UInt8), (101 : UInt8)] })).fst *
                    (1 : Nat))
                    (ev
                    ((V.i IntKind.i64 x0 :: List.replicate (12 : Nat) V.undef).set (2 : Nat)
                    (ev (V.i IntKind.i64 x0 :: List.replicate (12 : Nat) V.undef)
                    (Operand.const (Value.string { data := #[] }))))
                    ((0 : Nat),
                    Operand.const
                    (Value.string
                    {
                    data :=
                    #[(110 : UInt8), (111 : UInt8), (110 : UInt8),
                    (101 : UInt8)] })).snd).cells)
                    (((1 : Nat),
                    Operand.const
                    (Value.string
                    {
                    data :=
                    #[(100 : UInt8), (101 : UInt8), (97 : UInt8), (100 : UInt8), (108 : UInt8),
                    (111 : UInt8), (99 : UInt8), (107 : UInt8)] })).fst *
                    (1 : Nat))
                    (ev
                    ((V.i IntKind.i64 x0 :: List.replicate (12 : Nat) V.undef).set (2 : Nat)
                    (ev (V.i IntKind.i64 x0 :: List.replicate (12 : Nat) V.undef)
                    (Operand.const (Value.string { data := #[] }))))
                    ((1 : Nat),
                    Operand.const
                    (Value.string
                    {
                    data :=
                    #[(100 : UInt8), (101 : UInt8), (97 : UInt8), (100 : UInt8), (108 : UInt8),
                    (111 : UInt8), (99 : UInt8), (107 : UInt8)] })).snd).cells)
                    (((2 : Nat),
                    Operand.const
                    (Value.string
                    {
                    data :=
                    #[(111 : UInt8), (117 : UInt8), (116 : UInt8), (112 : UInt8), (117 : UInt8),
                    (116 : UInt8)] })).fst *
                    (1 : Nat))
                    (ev
                    ((V.i IntKind.i64 x0 :: List.replicate (12 : Nat) V.undef).set (2 : Nat)
                    (ev (V.i IntKind.i64 x0 :: List.replicate (12 : Nat) V.undef)
                    (Operand.const (Value.string { data := #[] }))))
                    ((2 : Nat),
                    Operand.const
                    (Value.string
                    {
                    data :=
                    #[(111 : UInt8), (117 : UInt8), (116 : UInt8), (112 : UInt8), (117 : UInt8),
                    (116 : UInt8)] })).snd).cells)
                    (((3 : Nat),
                    Operand.const
                    (Value.string { data := #[(101 : UInt8), (111 : UInt8), (102 : UInt8)] })).fst *
                    (1 : Nat))
                    (ev
                    ((V.i IntKind.i64 x0 :: List.replicate (12 : Nat) V.undef).set (2 : Nat)
                    (ev (V.i IntKind.i64 x0 :: List.replicate (12 : Nat) V.undef)
                    (Operand.const (Value.string { data := #[] }))))
                    ((3 : Nat),
                    Operand.const
                    (Value.string { data := #[(101 : UInt8), (111 : UInt8), (102 : UInt8)] })).snd).cells)
                    (((4 : Nat),
                    Operand.const
                    (Value.string
                    {
                    data :=
                    #[(101 : UInt8), (114 : UInt8), (114 : UInt8), (111 : UInt8), (114 : UInt8)] })).fst *
                    (1 : Nat))
                    (ev
                    ((V.i IntKind.i64 x0 :: List.replicate (12 : Nat) V.undef).set (2 : Nat)
                    (ev (V.i IntKind.i64 x0 :: List.replicate (12 : Nat) V.undef)
                    (Operand.const (Value.string { data := #[] }))))
                    ((4 : Nat),
                    Operand.const
                    (Value.string
                    {
                    data :=
                    #[(101 : UInt8), (114 : UInt8), (114 : UInt8), (111 : UInt8),
                    (114 : UInt8)] })).snd).cells)) =
              some [V.s s] ∧
            K Out.ret 13 [V.s s] h)) := by kernel_rfl
theorem f11_0 (cs0 : List V) (n0 : Nat) (x1 : Int) (h : Heap) (K : Out → Nat → List V → Heap → Prop) : (codeP Tryz.Y (Tryz.Y.loc 11) 100 ((flat (bodyOf Tryz.f11))) ⟨(V.ts cs0 n0 none :: V.i IntKind.i64 x1 :: List.replicate 7 .undef), [], h⟩ (VQ [4] K)) =
  (∃ (n : Int),
  (PCon Tryz.Y (33 : Nat) [V.ts cs0 n0 none, V.i IntKind.i64 x1] fun (v : V) => v = V.i IntKind.i64 n) ∧
    K Out.ret 9 [V.b (leI (0 : Int) n)] h) := by kernel_rfl
theorem f33_0 (cs0 : List V) (n0 : Nat) (x1 : Int) (h : Heap) (K : Out → Nat → List V → Heap → Prop) : (codeP Tryz.Y (Tryz.Y.loc 33) 100 (pre (flat (bodyOf Tryz.f33))) ⟨(V.ts cs0 n0 none :: V.i IntKind.i64 x1 :: List.replicate 17 .undef), [], h⟩ (VQ [0, 1, 7, 8] K)) =
  (K Out.normal 19 [V.ts cs0 n0 none, V.i IntKind.i64 x1, V.i IntKind.i64 (↑n0 : Int), V.i IntKind.i64 (0 : Int)]
  h) := by kernel_rfl
theorem f33_1 (cs0 : List V) (n0 : Nat) (x1 : Int) (x8 : Int) (h : Heap) (K : Out → Nat → List V → Heap → Prop) : (codeP Tryz.Y (Tryz.Y.loc 33) 100 ((flat (loopB (post (flat (bodyOf Tryz.f33)))))) ⟨mk 19 (([0, 1, 7, 8] : List Nat).zip [V.ts cs0 n0 none, V.i IntKind.i64 x1, V.i IntKind.i64 (↑n0 : Int), V.i IntKind.i64 x8]), [], h⟩ (VQ [0, 1, 4, 7, 8] K)) =
  (If (ltI x8 (↑n0 : Int))
  (((0 : Int) ≤ x8 ∧ x8 < (↑n0 : Int)) ∧
    ∃ (n : Int),
      takeX 1 (List.drop (x8.toNat * (1 : Nat)) cs0) = some [V.i IntKind.i64 n] ∧
        If (x1 == n)
          (K Out.ret 19
            [V.ts cs0 n0 none, V.i IntKind.i64 x1, V.i IntKind.i64 x8, V.i IntKind.i64 (↑n0 : Int), V.i IntKind.i64 x8]
            h)
          (K Out.normal 19
            [V.ts cs0 n0 none, V.i IntKind.i64 x1, V.undef, V.i IntKind.i64 (↑n0 : Int),
              V.i IntKind.i64 (IntKind.i64.wrap (x8 + (1 : Int)))]
            h))
  (K (Out.exit 0) 19
    [V.ts cs0 n0 none, V.i IntKind.i64 x1, V.undef, V.i IntKind.i64 (↑n0 : Int), V.i IntKind.i64 x8] h)) := by kernel_rfl
theorem f33_2  (h : Heap) (K : Out → Nat → List V → Heap → Prop) : (codeP Tryz.Y (Tryz.Y.loc 33) 100 (((post (flat (bodyOf Tryz.f33))).drop 1)) ⟨mk 19 (([] : List Nat).zip []), [], h⟩ (VQ [4] K)) =
  (K Out.ret 19 [V.i IntKind.i64 (-1 : Int)] h) := by kernel_rfl
end Go.Y
