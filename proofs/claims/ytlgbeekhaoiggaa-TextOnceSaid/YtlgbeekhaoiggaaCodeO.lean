import Derived.Test.YtlgbeekhaoiggaaCodeN
set_option linter.all false
section
namespace Go.Proofs.Ytlgbeekhaoiggaa
open Go.AM
set_option maxHeartbeats 4000000
variable {f : Nat} {h : Heap}
def elT (nums : Bool) (x : Sg) : List UInt8 := if nums then segT x else boundT x.s
end Go.Proofs.Ytlgbeekhaoiggaa
end

section
namespace Go.Proofs.Ytlgbeekhaoiggaa
open Go.AM
set_option maxHeartbeats 4000000
variable {f : Nat} {h : Heap}
end Go.Proofs.Ytlgbeekhaoiggaa
end
