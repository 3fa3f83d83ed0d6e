import Derived.Test.YtlgbeekhaoiggaaCodeO
set_option linter.all false
section
namespace Go.Proofs.Ytlgbeekhaoiggaa
open Go.AM
end Go.Proofs.Ytlgbeekhaoiggaa
end

section
namespace Go.Proofs.Ytlgbeekhaoiggaa
open Go.AM
theorem canon_0 {a : Int} (h : a ≠ -9223372036854775808) : canon (0, a) = (0, a) := (canon_mid (by unfold negC; omega) (by omega)).1
theorem cutT_mid {a : Int} (h : a ≠ -9223372036854775808) : cutT (0, a) = satT a := by unfold cutT; rw [canon_0 h]; simp
end Go.Proofs.Ytlgbeekhaoiggaa
end

section
namespace Go.Proofs.Ytlgbeekhaoiggaa
open Go.AM
theorem joinT_flat : ∀ (t : List UInt8) (ts : List (List UInt8)), joinT (t :: ts) = t ++ ts.flatMap (fun t => 59 :: t)
  | t, [] => by simp [joinT]
  | t, y :: r => by
    have := joinT_flat y r
    simp only [joinT, this, List.flatMap_cons, List.cons_append]
def partT (first : Bool) (ts : List (List UInt8)) : List UInt8 := if first then joinT ts else ts.flatMap fun t => 59 :: t
end Go.Proofs.Ytlgbeekhaoiggaa
end

section
namespace Go.Proofs.Ytlgbeekhaoiggaa
open Go.AM
set_option maxHeartbeats 4000000
variable {f : Nat} {h : Heap}
end Go.Proofs.Ytlgbeekhaoiggaa
end
