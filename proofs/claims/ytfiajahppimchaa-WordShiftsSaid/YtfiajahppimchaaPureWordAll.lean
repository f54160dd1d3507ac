/- word.Do and word.Wide answer, at every operation and at any two words, what the reference answers. No condition. -/
import Derived.Test.YtfiajahppimchaaPrx1
import Derived.Test.YtfiajahppimchaaWd
namespace Go.Proofs.Ytfiajahppimchaa.Pure
open Go.RowKit Go.Proofs.Ytfiajahppimchaa.Pr Go.Proofs.YtfiajahppimchaaW.PrintWords Go.Proofs.YtfiajahppimchaaW.PrintLast Go.Proofs.YtfiajahppimchaaW.PrintMore Go.Proofs.Ytfiajahppimchaa.Do Go.Proofs.Ytfiajahppimchaa.Wd

theorem shown_true : jacquardlaw01_shown.f = some true := by decide +kernel

theorem u32_and31 (y : BitVec 32) : Go.bits .and .u32 (y.toNat : Int) 31 = ((y.toNat % 32 : Nat) : Int) := by
  show IntKind.u32.wrap ((BitVec.ofInt 32 (y.toNat : Int) &&& BitVec.ofInt 32 31).toNat : Int) = _
  rw [IntKind.wrap_u32]
  have h : (BitVec.ofInt 32 (y.toNat : Int) &&& BitVec.ofInt 32 31).toNat = y.toNat % 32 := by
    rw [BitVec.ofInt_natCast, BitVec.ofNat_toNat, BitVec.toNat_and]
    exact Nat.and_two_pow_sub_one_eq_mod y.toNat 5
  rw [h]
  omega

theorem wrap64_small (n : Int) (h : -2147483648 ≤ n) (h1 : n ≤ 2147483648) : wrap64 n = n := by unfold wrap64; omega
theorem wrap64_word (x : BitVec 32) : wrap64 x.toInt = x.toInt := by
  have := toInt_bounds x
  exact wrap64_small _ (by omega) (by omega)

theorem pow_of (n : Nat) (h : n < 32) : min ((n : Nat) : Int).toNat 32 = n := by omega

theorem ref_bit (b : Bool) : jacquardref01_bit.f b = some (if b = true then 1 else 0) := by cases b <;> rfl

theorem tdiv_bounds (a b : Int) (ha : -2147483648 ≤ a ∧ a ≤ 2147483647) : -2147483648 ≤ a.tdiv b ∧ a.tdiv b ≤ 2147483648 := by
  have h := Int.natAbs_tdiv_le_natAbs a b
  omega

theorem do_same (op : Int) (x y : BitVec 32) : word_Do.f op x.toInt y.toInt = jacquardref01_Do.f op x.toInt y.toInt := by
  have bx := toInt_bounds x
  have hy : y.toInt % 4294967296 = y.toNat := toInt_mod y
  have hn : y.toNat % 32 < 32 := Nat.mod_lt _ (by decide)
  have hnn : (0 : Int) ≤ ((y.toNat % 32 : Nat) : Int) := by omega
  unfold word_Do.f jacquardref01_Do.f
  by_cases c2 : op = 2
  · rw [if_pos c2, if_pos c2]
  rw [if_neg c2, if_neg c2]
  by_cases c3 : op = 3
  · rw [if_pos c3, if_pos c3]
  rw [if_neg c3, if_neg c3]
  by_cases c4 : op = 4
  · rw [if_pos c4, if_pos c4]
  rw [if_neg c4, if_neg c4]
  by_cases c5 : op = 5
  · rw [if_pos c5, if_pos c5]
  rw [if_neg c5, if_neg c5]
  by_cases c6 : op = 6
  · rw [if_pos c6, if_pos c6]
  rw [if_neg c6, if_neg c6]
  by_cases c7 : op = 7
  · rw [if_pos c7, if_pos c7]
  rw [if_neg c7, if_neg c7]
  by_cases c8 : op = 8
  · rw [if_pos c8, if_pos c8, hy, u32_and31, if_pos hnn, count_of]
    congr 2
    unfold shl
    rw [show IntKind.u32.bits = 32 from rfl, pow_of _ hn, IntKind.wrap_u32]
    unfold wrap32
    generalize (2 : Int) ^ (y.toNat % 32) = p
    have h1 : x.toInt % 4294967296 * p % 4294967296 = x.toInt * p % 4294967296 := by
      rw [Int.mul_emod, Int.emod_emod_of_dvd _ (Int.dvd_refl _), ← Int.mul_emod]
    omega
  rw [if_neg c8, if_neg c8]
  by_cases c9 : op = 9
  · rw [if_pos c9, if_pos c9, hy, u32_and31, if_pos hnn, count_of]
    congr 2
    unfold shr
    rw [show IntKind.u32.bits = 32 from rfl, pow_of _ hn]
  rw [if_neg c9, if_neg c9]
  by_cases c10 : op = 10
  · rw [if_pos c10, if_pos c10, hy, u32_and31, if_pos hnn, count_of]
    congr 2
    unfold shr
    rw [show IntKind.i32.bits = 32 from rfl, pow_of _ hn]
  rw [if_neg c10, if_neg c10]
  by_cases c11 : op = 11
  · rw [if_pos c11, if_pos c11, ref_bit]; rfl
  rw [if_neg c11, if_neg c11]
  by_cases c12 : op = 12
  · rw [if_pos c12, if_pos c12, ref_bit]; rfl
  rw [if_neg c12, if_neg c12]
  by_cases c13 : op = 13
  · rw [if_pos c13, if_pos c13, ref_bit]; rfl
  rw [if_neg c13, if_neg c13]
  by_cases c14 : op = 14
  · rw [if_pos c14, if_pos c14]
    by_cases z : y.toInt = 0
    · rw [if_pos z, if_pos z]
    · have hz : ¬ wrap64 y.toInt = 0 := by rw [wrap64_word]; exact z
      have ht := tdiv_bounds x.toInt y.toInt bx
      rw [if_neg z, if_neg z, if_neg hz, wrap64_word, wrap64_word, wrap64_small _ ht.1 ht.2]
  · rw [if_neg c14, if_neg c14]

theorem ite_is {α : Type} {c : Prop} [Decidable c] {a b : Option α} (ha : a.isSome = true) (hb : b.isSome = true) : (if c then a else b).isSome = true := by split <;> assumption
theorem ref_some (op : Int) (x y : BitVec 32) : ∃ r, word_Do.f op x.toInt y.toInt = some r := by
  refine Option.isSome_iff_exists.mp ?_
  unfold word_Do.f
  repeat' (refine ite_is ?_ ?_)
  all_goals rfl

theorem wide_same (x y : BitVec 32) : word_Wide.f x.toInt y.toInt = jacquardref01_Wide.f x.toInt y.toInt := by
  unfold word_Wide.f jacquardref01_Wide.f
  generalize wrap64 (wrap64 x.toInt * wrap64 y.toInt) = z
  have h : IntKind.u64.wrap z = z % 18446744073709551616 := by simp [IntKind.wrap, IntKind.bits, IntKind.signed]
  rw [h]
  unfold wrap32
  congr 2
  · omega
  · omega

theorem round (x y : BitVec 32) (op : Int) (d : Nat) : ∀ (k : Nat) (i : Int), -1 ≤ i → i ≤ 20 → (20 : Int) - i = d → d < k →
    jacquardlaw01_WordAll.l0 k x.toInt y.toInt op true i = some true := by
  induction d with
  | zero =>
    intro k i h0 h1 hd hk
    obtain ⟨k, rfl⟩ : ∃ m, k = m + 1 := ⟨k - 1, by omega⟩
    obtain ⟨r, hr⟩ := ref_some op x y
    simp only [jacquardlaw01_WordAll.l0]
    rw [if_neg (by omega), ← do_same, ← wide_same, hr]
    simp [word_Wide.f]
  | succ d ih =>
    intro k i h0 h1 hd hk
    obtain ⟨k, rfl⟩ : ∃ m, k = m + 1 := ⟨k - 1, by omega⟩
    obtain ⟨r, hr⟩ := ref_some i x y
    simp only [jacquardlaw01_WordAll.l0]
    rw [if_pos (by omega), ← do_same, hr, show wrap64 (i + 1) = i + 1 from wrap64_small _ (by omega) (by omega)]
    simp only [Option.bind_some, if_true, bne_self_eq_false, Bool.false_eq_true, if_false]
    exact ih k (i + 1) (by omega) (by omega) (by omega) (by omega)

theorem WordAll : jacquardlaw01_WordAll.Pure := by
  intro a b op ha hb _
  obtain ⟨x, rfl⟩ := wf_of a ha
  obtain ⟨y, rfl⟩ := wf_of b hb
  refine ⟨22, ?_⟩
  unfold jacquardlaw01_WordAll.f
  rw [shown_true]
  exact round x y op 21 22 (-1) (by omega) (by omega) (by omega) (by omega)

end Go.Proofs.Ytfiajahppimchaa.Pure
