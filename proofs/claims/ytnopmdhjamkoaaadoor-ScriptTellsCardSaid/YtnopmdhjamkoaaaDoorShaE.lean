/- The chapter's example, reckoned by the kernel. -/
import Derived.Test.YtnopmdhjamkoaaaDoorShaA
import Derived.KernelRfl
namespace Go.Proofs.YtnopmdhjamkoaaaDoor
set_option linter.unusedVariables false
/-- The signs of bytes. -/
def sgn (n : Nat) : UInt8 := if n < 10 then UInt8.ofNat (48 + n) else UInt8.ofNat (87 + n)
def hexL (l : List UInt8) : List UInt8 := l.flatMap fun b => [sgn (b.toNat / 16), sgn (b.toNat % 16)]
theorem sha_abc : hexL (sha [97, 98, 99]) = "ba7816bf8f01cfea414140de5dae2223b00361a396177a9cb410ff61f20015ad".toUTF8.data.toList := by kernel_rfl
end Go.Proofs.YtnopmdhjamkoaaaDoor
