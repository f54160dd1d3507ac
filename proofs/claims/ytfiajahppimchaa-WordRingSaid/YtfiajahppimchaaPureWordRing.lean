/- Words with Add, Sub and Mul are a ring: WordRing answers true at any three words. No condition. -/
import Derived.Test.YtfiajahppimchaaPrx2
import Derived.Test.YtfiajahppimchaaWe
namespace Go.Proofs.Ytfiajahppimchaa.Pure
open Go.RowKit Go.Proofs.Ytfiajahppimchaa.Pr Go.Proofs.YtfiajahppimchaaW.PrintWords Go.Proofs.YtfiajahppimchaaW.PrintLast Go.Proofs.YtfiajahppimchaaW.PrintMore Go.Proofs.Ytfiajahppimchaa.Do Go.Proofs.Ytfiajahppimchaa.Wd

theorem WordRing : jacquardlaw01_WordRing.Pure := by
  intro a b c ha hb hc
  obtain ⟨x, rfl⟩ := wf_of a ha
  obtain ⟨y, rfl⟩ := wf_of b hb
  obtain ⟨z, rfl⟩ := wf_of c hc
  refine ⟨2, ?_⟩
  unfold jacquardlaw01_WordRing.f
  rw [shown_true]
  simp only [Option.bind_some, does_add, does_mul]
  rw [if_pos (by rw [BitVec.add_assoc])]
  simp only [jacquardlaw01_WordRing.j0, Option.bind_some, does_mul]
  rw [if_pos (by rw [BitVec.mul_assoc])]
  simp only [jacquardlaw01_WordRing.j1, Option.bind_some, does_add, does_mul, does_sub]
  have h1 : x + y - y = x := BitVec.add_sub_cancel x y
  have h2 : x - y + y = x := BitVec.sub_add_cancel x y
  have h3 : x - x = 0#32 := BitVec.sub_self x
  rw [h1]
  simp only [h2, h3, if_true]
  rw [if_pos zero_int.symm, one_int, does_mul, BitVec.mul_one]
  simp only [Option.bind_some, if_true]
  rw [zero_int, does_add, BitVec.add_zero, BitVec.add_comm x y, BitVec.mul_comm x y, BitVec.mul_add, BitVec.mul_comm y x]
  simp
end Go.Proofs.Ytfiajahppimchaa.Pure
