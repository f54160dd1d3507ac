/- A word fits into so many bits, if moved up, and down again, it is what it was: WordFits answers true at any word and any number of bits. No condition. -/
import Derived.Test.YtfiajahppimchaaPrx5
import Derived.Test.YtfiajahppimchaaWe
namespace Go.Proofs.Ytfiajahppimchaa.Pure
set_option linter.unusedVariables false
open Go.RowKit Go.Proofs.Ytfiajahppimchaa.Pr Go.Proofs.YtfiajahppimchaaW.PrintWords Go.Proofs.YtfiajahppimchaaW.PrintLast Go.Proofs.YtfiajahppimchaaW.PrintMore Go.Proofs.Ytfiajahppimchaa.Do Go.Proofs.Ytfiajahppimchaa.Wd

theorem back (a : Int) (m : Nat) (h : m ≤ 31) (h0 : -2147483648 ≤ a) (h1 : a ≤ 2147483647) : (wrap32 (a * 2 ^ m) / 2 ^ m = a) ↔ (-(2 ^ (31 - m)) ≤ a ∧ a < 2 ^ (31 - m)) := by
  have c : m = 0 ∨ m = 1 ∨ m = 2 ∨ m = 3 ∨ m = 4 ∨ m = 5 ∨ m = 6 ∨ m = 7 ∨ m = 8 ∨ m = 9 ∨ m = 10 ∨ m = 11 ∨ m = 12 ∨ m = 13 ∨ m = 14 ∨ m = 15 ∨ m = 16 ∨ m = 17 ∨ m = 18 ∨ m = 19 ∨ m = 20 ∨ m = 21 ∨ m = 22 ∨ m = 23 ∨ m = 24 ∨ m = 25 ∨ m = 26 ∨ m = 27 ∨ m = 28 ∨ m = 29 ∨ m = 30 ∨ m = 31 := by omega
  unfold wrap32
  rcases c with rfl | rfl | rfl | rfl | rfl | rfl | rfl | rfl | rfl | rfl | rfl | rfl | rfl | rfl | rfl | rfl | rfl | rfl | rfl | rfl | rfl | rfl | rfl | rfl | rfl | rfl | rfl | rfl | rfl | rfl | rfl | rfl
  · show ((a * 1 + 2147483648) % 4294967296 - 2147483648) / 1 = a ↔ (-2147483648 ≤ a ∧ a < 2147483648)
    omega
  · show ((a * 2 + 2147483648) % 4294967296 - 2147483648) / 2 = a ↔ (-1073741824 ≤ a ∧ a < 1073741824)
    omega
  · show ((a * 4 + 2147483648) % 4294967296 - 2147483648) / 4 = a ↔ (-536870912 ≤ a ∧ a < 536870912)
    omega
  · show ((a * 8 + 2147483648) % 4294967296 - 2147483648) / 8 = a ↔ (-268435456 ≤ a ∧ a < 268435456)
    omega
  · show ((a * 16 + 2147483648) % 4294967296 - 2147483648) / 16 = a ↔ (-134217728 ≤ a ∧ a < 134217728)
    omega
  · show ((a * 32 + 2147483648) % 4294967296 - 2147483648) / 32 = a ↔ (-67108864 ≤ a ∧ a < 67108864)
    omega
  · show ((a * 64 + 2147483648) % 4294967296 - 2147483648) / 64 = a ↔ (-33554432 ≤ a ∧ a < 33554432)
    omega
  · show ((a * 128 + 2147483648) % 4294967296 - 2147483648) / 128 = a ↔ (-16777216 ≤ a ∧ a < 16777216)
    omega
  · show ((a * 256 + 2147483648) % 4294967296 - 2147483648) / 256 = a ↔ (-8388608 ≤ a ∧ a < 8388608)
    omega
  · show ((a * 512 + 2147483648) % 4294967296 - 2147483648) / 512 = a ↔ (-4194304 ≤ a ∧ a < 4194304)
    omega
  · show ((a * 1024 + 2147483648) % 4294967296 - 2147483648) / 1024 = a ↔ (-2097152 ≤ a ∧ a < 2097152)
    omega
  · show ((a * 2048 + 2147483648) % 4294967296 - 2147483648) / 2048 = a ↔ (-1048576 ≤ a ∧ a < 1048576)
    omega
  · show ((a * 4096 + 2147483648) % 4294967296 - 2147483648) / 4096 = a ↔ (-524288 ≤ a ∧ a < 524288)
    omega
  · show ((a * 8192 + 2147483648) % 4294967296 - 2147483648) / 8192 = a ↔ (-262144 ≤ a ∧ a < 262144)
    omega
  · show ((a * 16384 + 2147483648) % 4294967296 - 2147483648) / 16384 = a ↔ (-131072 ≤ a ∧ a < 131072)
    omega
  · show ((a * 32768 + 2147483648) % 4294967296 - 2147483648) / 32768 = a ↔ (-65536 ≤ a ∧ a < 65536)
    omega
  · show ((a * 65536 + 2147483648) % 4294967296 - 2147483648) / 65536 = a ↔ (-32768 ≤ a ∧ a < 32768)
    omega
  · show ((a * 131072 + 2147483648) % 4294967296 - 2147483648) / 131072 = a ↔ (-16384 ≤ a ∧ a < 16384)
    omega
  · show ((a * 262144 + 2147483648) % 4294967296 - 2147483648) / 262144 = a ↔ (-8192 ≤ a ∧ a < 8192)
    omega
  · show ((a * 524288 + 2147483648) % 4294967296 - 2147483648) / 524288 = a ↔ (-4096 ≤ a ∧ a < 4096)
    omega
  · show ((a * 1048576 + 2147483648) % 4294967296 - 2147483648) / 1048576 = a ↔ (-2048 ≤ a ∧ a < 2048)
    omega
  · show ((a * 2097152 + 2147483648) % 4294967296 - 2147483648) / 2097152 = a ↔ (-1024 ≤ a ∧ a < 1024)
    omega
  · show ((a * 4194304 + 2147483648) % 4294967296 - 2147483648) / 4194304 = a ↔ (-512 ≤ a ∧ a < 512)
    omega
  · show ((a * 8388608 + 2147483648) % 4294967296 - 2147483648) / 8388608 = a ↔ (-256 ≤ a ∧ a < 256)
    omega
  · show ((a * 16777216 + 2147483648) % 4294967296 - 2147483648) / 16777216 = a ↔ (-128 ≤ a ∧ a < 128)
    omega
  · show ((a * 33554432 + 2147483648) % 4294967296 - 2147483648) / 33554432 = a ↔ (-64 ≤ a ∧ a < 64)
    omega
  · show ((a * 67108864 + 2147483648) % 4294967296 - 2147483648) / 67108864 = a ↔ (-32 ≤ a ∧ a < 32)
    omega
  · show ((a * 134217728 + 2147483648) % 4294967296 - 2147483648) / 134217728 = a ↔ (-16 ≤ a ∧ a < 16)
    omega
  · show ((a * 268435456 + 2147483648) % 4294967296 - 2147483648) / 268435456 = a ↔ (-8 ≤ a ∧ a < 8)
    omega
  · show ((a * 536870912 + 2147483648) % 4294967296 - 2147483648) / 536870912 = a ↔ (-4 ≤ a ∧ a < 4)
    omega
  · show ((a * 1073741824 + 2147483648) % 4294967296 - 2147483648) / 1073741824 = a ↔ (-2 ≤ a ∧ a < 2)
    omega
  · show ((a * 2147483648 + 2147483648) % 4294967296 - 2147483648) / 2147483648 = a ↔ (-1 ≤ a ∧ a < 1)
    omega

/-- In so many bits. -/
def fitsB (a : Int) (k : Nat) : Bool := if k = 0 then a == 0 else decide (-(2 ^ (k - 1)) ≤ a ∧ a < 2 ^ (k - 1))
theorem i32_w (n : Int) : IntKind.i32.wrap n = wrap32 n := by rw [IntKind.wrap_i32]; unfold wrap32; rfl
theorem fits_at (a : Int) (k : Nat) (h : 1 ≤ k) (h2 : k ≤ 32) (h0 : -2147483648 ≤ a) (h1 : a ≤ 2147483647) : word_Fits.f a (k : Int) = some (fitsB a k) := by
  have hw : wrap64 (32 - (k : Int)) = ((32 - k : Nat) : Int) := by unfold wrap64; omega
  unfold word_Fits.f fitsB
  rw [if_neg (by omega), if_neg (by omega), hw, if_pos (by omega), if_neg (by omega)]
  unfold shr shl
  rw [show IntKind.i32.bits = 32 from rfl, show min (((32 - k : Nat) : Int).toNat) 32 = 32 - k from by omega, i32_w]
  have b := back a (32 - k) (by omega) h0 h1
  rw [show 31 - (32 - k) = k - 1 from by omega] at b
  congr 1
  rw [Bool.eq_iff_iff, beq_iff_eq, decide_eq_true_iff]
  exact b
theorem up_down (a : Int) (k : Nat) (h : 1 ≤ k) (h2 : k ≤ 32) (h0 : -2147483648 ≤ a) (h1 : a ≤ 2147483647) :
    ∃ u v, jacquardlaw01_does.f 8 a ((32 - k : Nat) : Int) = some u ∧ jacquardlaw01_does.f 10 u ((32 - k : Nat) : Int) = some v ∧ (v == a) = fitsB a k := by
  have e : ((((32 - k : Nat) : Int) % 32).toNat) = 32 - k := by omega
  refine ⟨wrap32 (a * 2 ^ (32 - k)), wrap32 (a * 2 ^ (32 - k)) / 2 ^ (32 - k), ?_, ?_, ?_⟩
  · apply does_of; simp only [word_Do.f]; rw [e]; rfl
  · apply does_of; simp only [word_Do.f]; rw [e]; rfl
  · have b := back a (32 - k) (by omega) h0 h1
    rw [show 31 - (32 - k) = k - 1 from by omega] at b
    unfold fitsB
    rw [if_neg (by omega), Bool.eq_iff_iff, beq_iff_eq, decide_eq_true_iff]
    exact b
theorem fits_more (a : Int) (k : Nat) (h : fitsB a k = true) : fitsB a (k + 1) = true := by
  unfold fitsB at *
  have hp : (0 : Int) < 2 ^ k := Int.pow_pos (by decide)
  rw [if_neg (by omega), decide_eq_true_iff, Nat.add_sub_cancel]
  by_cases k0 : k = 0
  · rw [if_pos k0, beq_iff_eq] at h
    omega
  · rw [if_neg k0, decide_eq_true_iff] at h
    have e : (2 : Int) ^ k = 2 * 2 ^ (k - 1) := by
      conv => lhs; rw [show k = (k - 1) + 1 from by omega, Int.pow_succ]
      omega
    omega
theorem fits_not (x : BitVec 32) (k : Nat) (h : 1 ≤ k) : fitsB (Go.bits .xor .i32 (-1) x.toInt) k = fitsB x.toInt k := by
  have hn : Go.bits .xor .i32 (-1) x.toInt = -1 - x.toInt := by
    rw [neg_int, bits_xor, BitVec.xor_comm, show (-1#32) = BitVec.allOnes 32 from by decide, BitVec.xor_allOnes]
    have := x.isLt
    rw [show (BitVec.allOnes 32).toInt = -1 from by decide, BitVec.toInt_eq_toNat_cond (~~~x), BitVec.toInt_eq_toNat_cond x, BitVec.toNat_not]
    split <;> split <;> omega
  rw [hn]
  unfold fitsB
  rw [if_neg (by omega), if_neg (by omega)]
  congr 1
  apply propext
  omega
theorem rounds (x : BitVec 32) (bits : Int) (d : Nat) : ∀ (K k : Nat), 1 ≤ k → 33 - k = d → d + 1 < K → k ≤ 33 →
    jacquardlaw01_WordFits.l0 K x.toInt bits true (fitsB x.toInt (k - 1)) (k : Int) = jacquardlaw01_WordFits.l0 (K - d) x.toInt bits true (fitsB x.toInt 32) 33 := by
  have hx := toInt_bounds x
  induction d with
  | zero =>
    intro K k h1 hd hK h3
    obtain rfl : k = 33 := by omega
    rfl
  | succ d ih =>
    intro K k h1 hd hK h3
    obtain ⟨K, rfl⟩ : ∃ m, K = m + 1 := ⟨K - 1, by omega⟩
    have hw : wrap32 (wrap64 (32 - (k : Int))) = ((32 - k : Nat) : Int) := by unfold wrap32 wrap64; omega
    obtain ⟨u, v, e1, e2, e3⟩ := up_down x.toInt k h1 (by omega) hx.1 hx.2
    have hn := toInt_bounds (-1#32 ^^^ x)
    have f1 := fits_at x.toInt k h1 (by omega) hx.1 hx.2
    have f2 : word_Fits.f (Go.bits .xor .i32 (-1) x.toInt) k = some (fitsB x.toInt k) := by
      rw [← fits_not x k h1]
      refine fits_at _ k h1 (by omega) ?_ ?_
      · rw [neg_int, bits_xor]; exact hn.1
      · rw [neg_int, bits_xor]; exact hn.2
    have next := ih K (k + 1) (by omega) (by omega) (by omega) (by omega)
    rw [show k + 1 - 1 = k from rfl] at next
    have ha : wrap64 ((k : Int) + 1) = ((k + 1 : Nat) : Int) := by unfold wrap64; omega
    have hm := fits_more x.toInt (k - 1)
    rw [show k - 1 + 1 = k from by omega] at hm
    conv => lhs; simp only [jacquardlaw01_WordFits.l0]
    rw [if_pos (by omega), hw, e1, f1]
    simp only [Option.bind_some, e2, e3, f2, bne_self_eq_false, Bool.false_eq_true, if_false, ha, next]
    rw [show K + 1 - (d + 1) = K - d from by omega]
    by_cases c : fitsB x.toInt (k - 1) = true
    · rw [if_pos c, if_pos (hm c)]
    · rw [if_neg c]
theorem all32 (x : BitVec 32) : fitsB x.toInt 32 = true := by
  have hx := toInt_bounds x
  unfold fitsB
  rw [if_neg (by decide), decide_eq_true_iff]
  show -2147483648 ≤ x.toInt ∧ x.toInt < 2147483648
  omega
theorem far_fits (a b : Int) (h : b < 1 ∨ 32 < b) : word_Fits.f a b = some (if b > 32 then true else a == 0) := by
  unfold word_Fits.f
  by_cases c : b < 1
  · rw [if_pos c, if_neg (by omega)]
  · rw [if_neg c, if_pos (by omega), if_pos (by omega)]
theorem j1_true (a x10 : Int) (h0 : -2147483648 ≤ a) (h1 : a ≤ 2147483647) (c : Bool) (hw : wrap64 x10 = x10) (hc : c = true ↔ 0 < x10 ∧ x10 ≤ 32) : jacquardlaw01_WordFits.j1 1 a true true x10 c = some true := by
  have z : word_Fits.f a 0 = some (a == 0) := far_fits a 0 (by omega)
  cases c with
  | true =>
    have h := hc.mp rfl
    have hw2 : wrap64 (x10 + 32) = x10 + 32 := by unfold wrap64; omega
    simp only [jacquardlaw01_WordFits.j1]
    rw [hw2, far_fits a (x10 + 32) (by omega), z]
    have : x10 + 32 > 32 := by omega
    simp [this]
  | false =>
    have h : ¬ (0 < x10 ∧ x10 ≤ 32) := fun q => by have := hc.mpr q; cases this
    simp only [jacquardlaw01_WordFits.j1]
    rw [far_fits a x10 (by omega), z]
    by_cases g : x10 > 32 <;> simp [g]
theorem WordFits : jacquardlaw01_WordFits.Pure := by
  intro a b ha hb
  obtain ⟨x, rfl⟩ := wf_of a ha
  have hx := toInt_bounds x
  have hb' : wrap64 b = b := by
    simp only [Lit.wf, Bool.and_eq_true, decide_eq_true_eq] at hb
    have h1 : -9223372036854775808 ≤ b := hb.1
    have h2 : b ≤ 9223372036854775807 := hb.2
    unfold wrap64
    omega
  refine ⟨34, ?_⟩
  unfold jacquardlaw01_WordFits.f
  rw [shown_true]
  simp only [Option.bind_some]
  have := rounds x b 32 34 1 (by omega) (by omega) (by omega) (by omega)
  have f0 : fitsB x.toInt (1 - 1) = (x.toInt == 0) := rfl
  rw [f0] at this
  rw [show (1 : Int) = ((1 : Nat) : Int) from rfl, this, all32]
  simp only [jacquardlaw01_WordFits.l0]
  rw [if_neg (by omega)]
  by_cases g : b > 0
  · rw [if_pos g]
    exact j1_true _ _ hx.1 hx.2 _ hb' (by simp; omega)
  · rw [if_neg g]
    exact j1_true _ _ hx.1 hx.2 _ hb' (by simp; omega)
end Go.Proofs.Ytfiajahppimchaa.Pure
