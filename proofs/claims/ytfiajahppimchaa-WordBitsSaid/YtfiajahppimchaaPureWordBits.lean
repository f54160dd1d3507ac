/- How the bits of two words go together: WordBits answers true at any two words. No condition. -/
import Derived.Test.YtfiajahppimchaaPrx2
import Derived.Test.YtfiajahppimchaaWe
namespace Go.Proofs.Ytfiajahppimchaa.Pure
open Go.RowKit Go.Proofs.Ytfiajahppimchaa.Pr Go.Proofs.YtfiajahppimchaaW.PrintWords Go.Proofs.YtfiajahppimchaaW.PrintLast Go.Proofs.YtfiajahppimchaaW.PrintMore Go.Proofs.Ytfiajahppimchaa.Do Go.Proofs.Ytfiajahppimchaa.Wd

theorem WordBits : jacquardlaw01_WordBits.Pure := by
  intro a b ha hb
  obtain ⟨x, rfl⟩ := wf_of a ha
  obtain ⟨y, rfl⟩ := wf_of b hb
  unfold jacquardlaw01_WordBits.f
  rw [shown_true]
  have hn : (x ^^^ (-1#32)) = ~~~x := by
    rw [show (-1#32) = BitVec.allOnes 32 from by decide, BitVec.xor_allOnes]
  have h1 : (x &&& ~~~x) = 0#32 := BitVec.and_not_self x
  have h2 : (x ||| ~~~x) = -1#32 := by rw [BitVec.or_not_self]; decide
  have h3 : (-1#32) - x = ~~~x := by
    rw [show (-1#32) = BitVec.allOnes 32 from by decide, BitVec.allOnes_sub_eq_not]
  have h4 : (x ^^^ y) ^^^ y = x := by rw [BitVec.xor_assoc, BitVec.xor_self, BitVec.xor_zero]
  simp only [neg_int, Option.bind_some, does_and, does_or, does_xor, hn, if_true, does_add, bv_and_or, does_sub, bv_or_sub_and, h1, h2, h3, h4]
  rw [if_pos zero_int.symm]
  simp only [one_int, does_shl, does_add, Option.bind_some]
  rw [show ((1#32).toNat % 32) = 1 from rfl, bv_xor_and]
  simp
end Go.Proofs.Ytfiajahppimchaa.Pure
