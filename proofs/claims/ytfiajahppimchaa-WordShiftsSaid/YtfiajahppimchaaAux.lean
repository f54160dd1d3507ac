/- A small fact for the walk of WordShifts: what is cut to five bits is at most 31. -/
import Derived.Test.YtfiajahppimchaaProg
import Derived.WalkKit
namespace Go.Proofs.Ytfiajahppimchaa.Aux
theorem and31_le (a : Int) : Go.bits .and .i32 a 31 ≤ 32 := by
  show IntKind.i32.wrap ((BitVec.ofInt 32 a &&& BitVec.ofInt 32 31).toNat : Int) ≤ 32
  have h : (BitVec.ofInt 32 a &&& BitVec.ofInt 32 31).toNat ≤ 31 := by
    rw [BitVec.toNat_and]
    exact Nat.and_le_right
  rw [IntKind.wrap_i32]
  omega
end Go.Proofs.Ytfiajahppimchaa.Aux
