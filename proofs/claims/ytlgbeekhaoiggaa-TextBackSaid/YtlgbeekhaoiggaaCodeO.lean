import Derived.Test.YtlgbeekhaoiggaaCodeN
set_option linter.all false
section
namespace Go.Proofs.Ytlgbeekhaoiggaa
open Go.AM
set_option maxHeartbeats 4000000
variable {f : Nat} {h : Heap}
def elT (nums : Bool) (x : Sg) : List UInt8 := if nums then segT x else boundT x.s
theorem elT_len {nums : Bool} {x : Sg} (hx : okG x) : (elT nums x).length ≤ 70 := by
  unfold elT; split
  · exact segT_len hx
  · have := boundT_len hx.1; omega
end Go.Proofs.Ytlgbeekhaoiggaa
end

section
namespace Go.Proofs.Ytlgbeekhaoiggaa
open Go.AM
set_option maxHeartbeats 4000000
variable {f : Nat} {h : Heap}
end Go.Proofs.Ytlgbeekhaoiggaa
end
