/- A word is the quotient times the other one and a rest that is small and has the word's sign: WordDivides answers true at any two words. No condition. -/
import Derived.Test.YtfiajahppimchaaPrx4
import Derived.Test.YtfiajahppimchaaWe
namespace Go.Proofs.Ytfiajahppimchaa.Pure
open Go.RowKit Go.Proofs.Ytfiajahppimchaa.Pr Go.Proofs.YtfiajahppimchaaW.PrintWords Go.Proofs.YtfiajahppimchaaW.PrintLast Go.Proofs.YtfiajahppimchaaW.PrintMore Go.Proofs.Ytfiajahppimchaa.Do Go.Proofs.Ytfiajahppimchaa.Wd

theorem w64 (n : Int) (h : -9223372036854775808 ≤ n) (h1 : n ≤ 9223372036854775807) : wrap64 n = n := by unfold wrap64; omega
theorem least : jacquardlaw01_does.f 14 (-2147483648) (-1) = some (-2147483648) := by decide +kernel
theorem by_one (a : Int) (h0 : -2147483648 ≤ a) (h1 : a ≤ 2147483647) : jacquardlaw01_does.f 14 a 1 = some a := by
  have : wrap32 a = a := by unfold wrap32; omega
  simp [jacquardlaw01_does.f, word_Do.f, this]
theorem quot_bounds (a b : Int) (ha : -2147483648 ≤ a ∧ a ≤ 2147483647) (hb : b ≠ 0) (hm : ¬ (a = -2147483648 ∧ b = -1)) : -2147483648 ≤ a.tdiv b ∧ a.tdiv b ≤ 2147483647 := by
  by_cases h1 : b = 1
  · subst h1; rw [Int.tdiv_one]; exact ha
  by_cases h2 : b = -1
  · subst h2; rw [Int.tdiv_neg, Int.tdiv_one]; omega
  have h := Int.natAbs_tdiv a b
  have h3 : 2 ≤ b.natAbs := by omega
  have h4 : a.natAbs.div b.natAbs ≤ a.natAbs / 2 := Nat.div_le_div_left h3 (by decide)
  omega
theorem rest_bounds (a b : Int) (hb : b ≠ 0) : (a.tmod b).natAbs < b.natAbs ∧ (0 ≤ a → 0 ≤ a.tmod b) ∧ (a ≤ 0 → a.tmod b ≤ 0) := by
  refine ⟨?_, Int.tmod_nonneg b, fun h => ?_⟩
  · rw [Int.natAbs_tmod]; exact Nat.mod_lt _ (by omega)
  · have := Int.tmod_nonneg b (show 0 ≤ -a by omega)
    rw [Int.neg_tmod] at this
    omega
theorem WordDivides : jacquardlaw01_WordDivides.Pure := by
  intro a b ha hb
  obtain ⟨x, rfl⟩ := wf_of a ha
  obtain ⟨y, rfl⟩ := wf_of b hb
  have hx := toInt_bounds x
  have hy := toInt_bounds y
  generalize x.toInt = a at *
  generalize y.toInt = b at *
  refine ⟨1, ?_⟩
  unfold jacquardlaw01_WordDivides.f
  rw [shown_true, least]
  simp only [Option.bind_some]
  by_cases hb0 : b = 0
  · subst hb0
    simp [word_Do.f]
  have hd : word_Do.f 14 a b = some (wrap32 (a.tdiv b), true) := by simp [word_Do.f, hb0]
  rw [hd]
  simp only [Option.bind_some]
  rw [if_neg hb0]
  by_cases hm : a = -2147483648 ∧ b = -1
  · obtain ⟨rfl, rfl⟩ := hm
    decide +kernel
  have qb := quot_bounds a b hx hb0 hm
  have rb := rest_bounds a b hb0
  have hq : wrap32 (a.tdiv b) = a.tdiv b := by unfold wrap32; omega
  have wa : wrap64 a = a := w64 _ (by omega) (by omega)
  have wb : wrap64 b = b := w64 _ (by omega) (by omega)
  have wnb : wrap64 (-b) = -b := w64 _ (by omega) (by omega)
  have wq : wrap64 (a.tdiv b) = a.tdiv b := w64 _ (by omega) (by omega)
  have hr := Int.tmod_add_mul_tdiv a b
  have hp : b * a.tdiv b = a - a.tmod b := by omega
  have hr0 : a - (a - a.tmod b) = a.tmod b := by omega
  have wp : wrap64 (a - a.tmod b) = a - a.tmod b := w64 _ (by omega) (by omega)
  have wr : wrap64 (a.tmod b) = a.tmod b := w64 _ (by omega) (by omega)
  have wnr : wrap64 (-(a.tmod b)) = -(a.tmod b) := w64 _ (by omega) (by omega)
  rw [hq, wa, wb, wq, hp, wp, hr0, wr]
  generalize a.tmod b = r at *
  have ho := by_one a hx.1 hx.2
  have key : ∀ c, c = false → jacquardlaw01_WordDivides.j0 1 a b true (a.tdiv b) true (-2147483648) r c = some true := by
    rintro c rfl
    simp only [jacquardlaw01_WordDivides.j0]
    rw [wb, wnb, wnr, ho, if_neg (by simp)]
    simp only [if_true, Option.bind_some]
    have e : r ≠ 0 → ((decide (r < 0)) == (decide (a < 0))) = true := by
      intro h
      have : r < 0 ↔ a < 0 := by omega
      simp [this]
    by_cases n : b < 0
    · rw [if_pos n, if_pos (by omega), if_pos (by omega)]
      by_cases z : r = 0
      · rw [if_pos z]; simp
      · rw [if_neg z, if_pos (e z)]; simp
    · rw [if_neg n, if_pos (by omega), if_pos (by omega)]
      by_cases z : r = 0
      · rw [if_pos z]; simp
      · rw [if_neg z, if_pos (e z)]; simp
  split
  · exact key _ (by simp; omega)
  · exact key _ rfl
end Go.Proofs.Ytfiajahppimchaa.Pure
