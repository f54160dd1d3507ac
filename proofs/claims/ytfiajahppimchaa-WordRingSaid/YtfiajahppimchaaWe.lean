/- What jacquardlaw01.does answers, told of bit vectors. -/
import Derived.Test.YtfiajahppimchaaPureWordAll
namespace Go.Proofs.Ytfiajahppimchaa.Wd
open Go.RowKit Go.Proofs.Ytfiajahppimchaa.Pr Go.Proofs.YtfiajahppimchaaW.PrintWords Go.Proofs.YtfiajahppimchaaW.PrintLast Go.Proofs.YtfiajahppimchaaW.PrintMore Go.Proofs.Ytfiajahppimchaa.Do Go.Proofs.Ytfiajahppimchaa.Pure

theorem does_of {op a b v : Int} (h : word_Do.f op a b = some (v, true)) : jacquardlaw01_does.f op a b = some v := by
  unfold jacquardlaw01_does.f; rw [h]; rfl
theorem does_add (x y : BitVec 32) : jacquardlaw01_does.f 2 x.toInt y.toInt = some (x + y).toInt := does_of (do_add x y)
theorem does_sub (x y : BitVec 32) : jacquardlaw01_does.f 3 x.toInt y.toInt = some (x - y).toInt := does_of (do_sub x y)
theorem does_mul (x y : BitVec 32) : jacquardlaw01_does.f 4 x.toInt y.toInt = some (x * y).toInt := does_of (do_mul x y)
theorem does_and (x y : BitVec 32) : jacquardlaw01_does.f 5 x.toInt y.toInt = some (x &&& y).toInt := does_of (do_and x y)
theorem does_or (x y : BitVec 32) : jacquardlaw01_does.f 6 x.toInt y.toInt = some (x ||| y).toInt := does_of (do_or x y)
theorem does_xor (x y : BitVec 32) : jacquardlaw01_does.f 7 x.toInt y.toInt = some (x ^^^ y).toInt := does_of (do_xor x y)
theorem does_shl (x y : BitVec 32) : jacquardlaw01_does.f 8 x.toInt y.toInt = some (x <<< (y.toNat % 32)).toInt := does_of (do_shl x y)
theorem does_shr (x y : BitVec 32) : jacquardlaw01_does.f 9 x.toInt y.toInt = some (x >>> (y.toNat % 32)).toInt := does_of (do_shr x y)
theorem does_sar (x y : BitVec 32) : jacquardlaw01_does.f 10 x.toInt y.toInt = some (x.sshiftRight (y.toNat % 32)).toInt := does_of (do_sar x y)
theorem does_eq (x y : BitVec 32) : jacquardlaw01_does.f 11 x.toInt y.toInt = some (if x = y then 1 else 0) := does_of (do_eq x y)
theorem does_lt (x y : BitVec 32) : jacquardlaw01_does.f 12 x.toInt y.toInt = some (if x.toInt < y.toInt then 1 else 0) := does_of (do_lt x y)
theorem does_ltu (x y : BitVec 32) : jacquardlaw01_does.f 13 x.toInt y.toInt = some (if x.toNat < y.toNat then 1 else 0) := does_of (do_ltu x y)
theorem one_int : (1 : Int) = (1#32).toInt := by decide
theorem zero_int : (0 : Int) = (0#32).toInt := by decide
theorem neg_int : (-1 : Int) = (-1#32).toInt := by decide
theorem min_int : (-2147483648 : Int) = (2147483648#32).toInt := by decide
end Go.Proofs.Ytfiajahppimchaa.Wd
