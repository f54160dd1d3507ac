/- The lower half of a wide product is the product, both halves are the product itself: WordWide answers true at any two words. No condition. -/
import Derived.Test.YtfiajahppimchaaPrx4
import Derived.Test.YtfiajahppimchaaWe
namespace Go.Proofs.Ytfiajahppimchaa.Pure
open Go.RowKit Go.Proofs.Ytfiajahppimchaa.Pr Go.Proofs.YtfiajahppimchaaW.PrintWords Go.Proofs.YtfiajahppimchaaW.PrintLast Go.Proofs.YtfiajahppimchaaW.PrintMore Go.Proofs.Ytfiajahppimchaa.Do Go.Proofs.Ytfiajahppimchaa.Wd

theorem mul_bounds (x y : BitVec 32) : -4611686018427387904 ≤ x.toInt * y.toInt ∧ x.toInt * y.toInt ≤ 4611686018427387904 := by
  have hx := toInt_bounds x
  have hy := toInt_bounds y
  have h := Int.natAbs_mul x.toInt y.toInt
  have h1 : x.toInt.natAbs ≤ 2147483648 := by omega
  have h2 : y.toInt.natAbs ≤ 2147483648 := by omega
  have h3 := Nat.mul_le_mul h1 h2
  omega
theorem wrap64_id {n : Int} (h0 : -4611686018427387904 ≤ n) (h1 : n ≤ 4611686018427387904) : wrap64 n = n := by unfold wrap64; omega
theorem WordWide : jacquardlaw01_WordWide.Pure := by
  intro a b ha hb
  obtain ⟨x, rfl⟩ := wf_of a ha
  obtain ⟨y, rfl⟩ := wf_of b hb
  unfold jacquardlaw01_WordWide.f
  rw [shown_true]
  have hm := mul_bounds x y
  have h2 : x.toInt * y.toInt = y.toInt * x.toInt := Int.mul_comm _ _
  have hw : word_Wide.f x.toInt y.toInt = some (wrap32 (x.toInt * y.toInt), wrap32 (x.toInt * y.toInt / 4294967296)) := by
    unfold word_Wide.f
    rw [wrap64_word, wrap64_word, wrap64_id hm.1 hm.2]
  have hv : word_Wide.f y.toInt x.toInt = word_Wide.f x.toInt y.toInt := by
    unfold word_Wide.f
    rw [Int.mul_comm]
  have hl : (x * y).toInt = wrap32 (x.toInt * y.toInt) := by rw [wrap32_of, BitVec.ofInt_mul, BitVec.ofInt_toInt, BitVec.ofInt_toInt]
  rw [hv, hw]
  simp only [Option.bind_some, if_true, does_mul, hl, wrap64_word]
  rw [wrap64_id hm.1 hm.2]
  generalize x.toInt * y.toInt = p at *
  rw [if_pos]
  · simp
  · unfold wrap64 wrap32
    omega
end Go.Proofs.Ytfiajahppimchaa.Pure
