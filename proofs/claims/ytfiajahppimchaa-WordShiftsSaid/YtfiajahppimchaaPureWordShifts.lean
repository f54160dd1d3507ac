/- A word moved up is multiplied by two as often; down and up again it has lost its lowest bits; both ways down differ in the bits ahead alone: WordShifts answers true at any two words. No condition. -/
import Derived.Test.YtfiajahppimchaaPrx3
import Derived.Test.YtfiajahppimchaaWe
namespace Go.Proofs.Ytfiajahppimchaa.Pure
set_option linter.unusedVariables false
open Go.RowKit Go.Proofs.Ytfiajahppimchaa.Pr Go.Proofs.YtfiajahppimchaaW.PrintWords Go.Proofs.YtfiajahppimchaaW.PrintLast Go.Proofs.YtfiajahppimchaaW.PrintMore Go.Proofs.Ytfiajahppimchaa.Do Go.Proofs.Ytfiajahppimchaa.Wd

theorem dbl (x : BitVec 32) (i : Nat) : x <<< i + x <<< i = x <<< (i + 1) := by
  apply BitVec.eq_of_toNat_eq
  have e : x.toNat * 2 ^ (i + 1) = x.toNat * 2 ^ i * 2 := by rw [Nat.pow_succ, Nat.mul_assoc]
  rw [BitVec.toNat_add, BitVec.toNat_shiftLeft, BitVec.toNat_shiftLeft, Nat.shiftLeft_eq, Nat.shiftLeft_eq, e]
  omega
theorem mask_bit (n i : Nat) (h : n < 32) (hi : i < 32) : ((1#32 <<< n) - 1#32).getLsbD i = decide (i < n) := by
  have e : ((1#32 <<< n) - 1#32).toNat = 2 ^ n - 1 := by
    have hp : 2 ^ n ≤ 2 ^ 31 := Nat.pow_le_pow_right (by decide) (by omega)
    have hp1 : 0 < 2 ^ n := Nat.pow_pos (by decide)
    rw [BitVec.toNat_sub, BitVec.toNat_shiftLeft, Nat.shiftLeft_eq, show (1#32).toNat = 1 from rfl]
    omega
  rw [BitVec.getLsbD, e, Nat.testBit_two_pow_sub_one]
theorem down_up (x : BitVec 32) (n : Nat) (h : n < 32) : (x >>> n) <<< n = x &&& ~~~((1#32 <<< n) - 1#32) := by
  apply BitVec.eq_of_getLsbD_eq
  intro i hi
  rw [BitVec.getLsbD_shiftLeft, BitVec.getLsbD_and, BitVec.getLsbD_not, mask_bit n i h hi, BitVec.getLsbD_ushiftRight]
  by_cases c : i < n
  · simp [c]
  · have e : n + (i - n) = i := by omega
    simp [c, hi, e]
theorem down_up_sign (x : BitVec 32) (n : Nat) (h : n < 32) : (x.sshiftRight n) <<< n = x &&& ~~~((1#32 <<< n) - 1#32) := by
  apply BitVec.eq_of_getLsbD_eq
  intro i hi
  rw [BitVec.getLsbD_shiftLeft, BitVec.getLsbD_and, BitVec.getLsbD_not, mask_bit n i h hi, BitVec.getLsbD_sshiftRight]
  by_cases c : i < n
  · simp [c]
  · have e : n + (i - n) = i := by omega
    have e2 : ¬ 32 ≤ i - n := by omega
    simp [c, hi, e, e2]
theorem i32_w' (n : Int) : IntKind.i32.wrap n = wrap32 n := by rw [IntKind.wrap_i32]; unfold wrap32; rfl
theorem low_of (n : Nat) (h : n < 32) : Go.bits .xor .i32 (-1) (wrap32 (shl .i32 1 (n : Int) - 1)) = (~~~((1#32 <<< n) - 1#32)).toInt := by
  have e : shl .i32 1 (n : Int) = (1#32 <<< n).toInt := by
    unfold shl
    rw [show IntKind.i32.bits = 32 from rfl, show min ((n : Int).toNat) 32 = n from by omega, i32_w', wrap32_of]
    congr 1
    rw [BitVec.shiftLeft_eq_mul_twoPow, BitVec.one_mul, Int.one_mul]
    apply BitVec.eq_of_toNat_eq
    have e : ((2 : Int) ^ n) = ((2 ^ n : Nat) : Int) := by norm_cast
    rw [e, BitVec.ofInt_natCast, BitVec.toNat_ofNat, BitVec.toNat_twoPow]
  have e2 : wrap32 ((1#32 <<< n).toInt - 1) = ((1#32 <<< n) - 1#32).toInt := by
    rw [wrap32_of, BitVec.toInt_ofInt, BitVec.toInt_sub]
    rfl
  rw [e, e2, neg_int, bits_xor, BitVec.xor_comm, show (-1#32) = BitVec.allOnes 32 from by decide, BitVec.xor_allOnes]
theorem shr_nonneg (x : BitVec 32) (n : Nat) (h : 0 < n) : 0 ≤ (x >>> n).toInt := by
  have e : (x >>> n).toNat = x.toNat / 2 ^ n := by rw [BitVec.toNat_ushiftRight, Nat.shiftRight_eq_div_pow]
  have h2 : 2 ≤ 2 ^ n := by
    have := Nat.pow_le_pow_right (n := 2) (by decide) h
    simpa using this
  have h3 : x.toNat / 2 ^ n ≤ x.toNat / 2 := Nat.div_le_div_left h2 (by decide)
  have := x.isLt
  rw [BitVec.toInt_eq_toNat_cond, e]
  split <;> omega
theorem sar_int (x : BitVec 32) (n : Nat) : (x.sshiftRight n).toInt = x.toInt / 2 ^ n := by
  rw [BitVec.toInt_sshiftRight, Int.shiftRight_eq_div_pow]
  norm_cast
theorem sar_sign (x : BitVec 32) (n : Nat) : (decide (x.toInt < 0) == decide ((x.sshiftRight n).toInt < 0)) = true := by
  rw [sar_int]
  have hp : (0 : Int) < 2 ^ n := Int.pow_pos (by decide)
  have : x.toInt < 0 ↔ x.toInt / 2 ^ n < 0 := by
    constructor
    · intro h; exact Int.ediv_neg_of_neg_of_pos h hp
    · intro h
      by_cases c : x.toInt < 0
      · exact c
      · have := Int.ediv_nonneg (show 0 ≤ x.toInt by omega) (Int.le_of_lt hp)
        omega
  simp [this]
theorem shr_sar (x : BitVec 32) (n : Nat) (h : ¬ x.toInt < 0) : (x >>> n).toInt = (x.sshiftRight n).toInt := by
  rw [sar_int]
  have e : (x >>> n).toNat = x.toNat / 2 ^ n := by rw [BitVec.toNat_ushiftRight, Nat.shiftRight_eq_div_pow]
  have hl := x.isLt
  have hx := BitVec.toInt_eq_toNat_cond x
  have hx2 : x.toInt = x.toNat ∧ x.toNat < 2147483648 := by split at hx <;> omega
  have h3 : x.toNat / 2 ^ n ≤ x.toNat := Nat.div_le_self _ _
  rw [BitVec.toInt_eq_toNat_cond, e, if_pos (by omega), hx2.1]
  norm_cast
theorem and31 (y : BitVec 32) : Go.bits .and .i32 y.toInt 31 = ((y.toNat % 32 : Nat) : Int) := by
  rw [show (31 : Int) = (31#32).toInt from by decide, bits_and]
  have h : (y &&& 31#32).toNat = y.toNat % 32 := by
    rw [BitVec.toNat_and]
    exact Nat.and_two_pow_sub_one_eq_mod y.toNat 5
  rw [BitVec.toInt_eq_toNat_cond, h, if_pos (by omega)]
theorem shift_end (x y : BitVec 32) (k : Nat) : jacquardlaw01_WordShifts.l0 (k + 1) x.toInt y.toInt true ((y.toNat % 32 : Nat) : Int) (x <<< (y.toNat % 32)).toInt ((y.toNat % 32 : Nat) : Int) = some true := by
  have hn : y.toNat % 32 < 32 := Nat.mod_lt _ (by decide)
  have e8 := does_shl x y
  have e9 := does_shr x y
  have e10 := does_sar x y
  have e8s := does_shl (x >>> (y.toNat % 32)) y
  have e8t := does_shl (x.sshiftRight (y.toNat % 32)) y
  generalize hN : y.toNat % 32 = n at *
  have e8n : jacquardlaw01_does.f 8 x.toInt (n : Int) = some (x <<< n).toInt := by
    have h := does_shl x (BitVec.ofNat 32 n)
    have h2 : (BitVec.ofNat 32 n).toNat = n := by rw [BitVec.toNat_ofNat]; omega
    have h3 : (BitVec.ofNat 32 n).toInt = (n : Int) := by rw [BitVec.toInt_eq_toNat_cond, h2, if_pos (by omega)]
    rw [h3, h2, Nat.mod_eq_of_lt hn] at h
    exact h
  simp only [jacquardlaw01_WordShifts.l0]
  rw [if_neg (by omega), if_pos (by omega), e9, e10, e8, e8n, low_of n hn]
  simp only [Option.bind_some, if_true, e8s, e8t, does_and, down_up x n hn, down_up_sign x n hn]
  rw [if_pos (sar_sign x n), if_pos (sar_sign x n)]
  by_cases c : (n : Int) = 0
  · have c' : n = 0 := by omega
    subst c'
    rw [if_pos c]
    by_cases s : x.toInt < 0
    · rw [if_pos s, if_pos (by simp), if_pos (by simp)]
    · rw [if_neg s, if_pos (shr_sar x 0 s), if_pos (by simp), if_pos (by simp)]
  · rw [if_neg c, if_pos (shr_nonneg x n (by omega))]
    have hp : decide ((n : Int) > 0) = true := by simp; omega
    rw [hp]
    by_cases s : x.toInt < 0
    · rw [if_pos s]
    · rw [if_neg s, if_pos (shr_sar x n s)]
theorem shift_loop (x y : BitVec 32) (d : Nat) : ∀ (K i : Nat), i ≤ y.toNat % 32 → y.toNat % 32 - i = d → d < K →
    jacquardlaw01_WordShifts.l0 K x.toInt y.toInt true ((y.toNat % 32 : Nat) : Int) (x <<< i).toInt (i : Int) = some true := by
  induction d with
  | zero =>
    intro K i hi hd hK
    obtain ⟨K, rfl⟩ : ∃ m, K = m + 1 := ⟨K - 1, by omega⟩
    obtain rfl : i = y.toNat % 32 := by omega
    exact shift_end x y K
  | succ d ih =>
    intro K i hi hd hK
    obtain ⟨K, rfl⟩ : ∃ m, K = m + 1 := ⟨K - 1, by omega⟩
    have hn : y.toNat % 32 < 32 := Nat.mod_lt _ (by decide)
    simp only [jacquardlaw01_WordShifts.l0]
    rw [if_pos (by omega), does_add, dbl]
    simp only [Option.bind_some]
    rw [show wrap32 ((i : Int) + 1) = ((i + 1 : Nat) : Int) from by unfold wrap32; omega]
    exact ih K (i + 1) (by omega) (by omega) (by omega)
theorem WordShifts : jacquardlaw01_WordShifts.Pure := by
  intro a b ha hb
  obtain ⟨x, rfl⟩ := wf_of a ha
  obtain ⟨y, rfl⟩ := wf_of b hb
  refine ⟨33, ?_⟩
  unfold jacquardlaw01_WordShifts.f
  rw [shown_true, and31]
  simp only [Option.bind_some]
  have h := shift_loop x y (y.toNat % 32) 33 0 (by omega) (by omega) (by omega)
  rw [BitVec.shiftLeft_zero] at h
  exact h
end Go.Proofs.Ytfiajahppimchaa.Pure
