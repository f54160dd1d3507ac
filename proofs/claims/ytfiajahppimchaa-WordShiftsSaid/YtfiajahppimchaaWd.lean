/- Plain facts: 32-bit words as bit vectors; what word.Do computes, told of bit vectors. -/
import Derived.Test.YtfiajahppimchaaDo
namespace Go.Proofs.Ytfiajahppimchaa.Wd
open Go.RowKit Go.Proofs.YtfiajahppimchaaW.PrintWords Go.Proofs.YtfiajahppimchaaW.PrintLast Go.Proofs.YtfiajahppimchaaW.PrintMore Go.Proofs.Ytfiajahppimchaa.Do

theorem nat_and_or (a : Nat) : ∀ b : Nat, (a &&& b) + (a ||| b) = a + b := by
  induction a using Nat.strongRecOn with
  | _ a ih =>
    intro b
    by_cases h : a = 0
    · subst h; simp
    · have := ih (a / 2) (by omega) (b / 2)
      have e1 := Nat.and_div_two (a := a) (b := b)
      have e2 := Nat.or_div_two (a := a) (b := b)
      have m1 := Nat.and_mod_two_pow (a := a) (b := b) (n := 1)
      have m2 := Nat.or_mod_two_pow (a := a) (b := b) (n := 1)
      simp only [Nat.pow_one] at m1 m2
      have h1 : a % 2 = 0 ∨ a % 2 = 1 := by omega
      have h2 : b % 2 = 0 ∨ b % 2 = 1 := by omega
      rcases h1 with h1 | h1 <;> rcases h2 with h2 | h2 <;> rw [h1, h2] at m1 m2 <;> simp only [show (0 &&& 0 : Nat) = 0 from rfl, show (0 &&& 1 : Nat) = 0 from rfl, show (1 &&& 0 : Nat) = 0 from rfl, show (1 &&& 1 : Nat) = 1 from rfl, show (0 ||| 0 : Nat) = 0 from rfl, show (0 ||| 1 : Nat) = 1 from rfl, show (1 ||| 0 : Nat) = 1 from rfl, show (1 ||| 1 : Nat) = 1 from rfl] at m1 m2 <;> omega
theorem nat_xor_and (a : Nat) : ∀ b : Nat, (a ^^^ b) + 2 * (a &&& b) = a + b := by
  induction a using Nat.strongRecOn with
  | _ a ih =>
    intro b
    by_cases h : a = 0
    · subst h; simp
    · have := ih (a / 2) (by omega) (b / 2)
      have e1 := Nat.and_div_two (a := a) (b := b)
      have e2 := Nat.xor_div_two (a := a) (b := b)
      have m1 := Nat.and_mod_two_pow (a := a) (b := b) (n := 1)
      have m2 := Nat.xor_mod_two_pow (a := a) (b := b) (n := 1)
      simp only [Nat.pow_one] at m1 m2
      have h1 : a % 2 = 0 ∨ a % 2 = 1 := by omega
      have h2 : b % 2 = 0 ∨ b % 2 = 1 := by omega
      rcases h1 with h1 | h1 <;> rcases h2 with h2 | h2 <;> rw [h1, h2] at m1 m2 <;> simp only [show (0 &&& 0 : Nat) = 0 from rfl, show (0 &&& 1 : Nat) = 0 from rfl, show (1 &&& 0 : Nat) = 0 from rfl, show (1 &&& 1 : Nat) = 1 from rfl, show (0 ^^^ 0 : Nat) = 0 from rfl, show (0 ^^^ 1 : Nat) = 1 from rfl, show (1 ^^^ 0 : Nat) = 1 from rfl, show (1 ^^^ 1 : Nat) = 0 from rfl] at m1 m2 <;> omega
theorem bv_and_or (x y : BitVec 32) : (x &&& y) + (x ||| y) = x + y := by
  apply BitVec.eq_of_toNat_eq
  simp only [BitVec.toNat_add, BitVec.toNat_and, BitVec.toNat_or, nat_and_or]
theorem bv_xor_and (x y : BitVec 32) : (x ^^^ y) + ((x &&& y) <<< 1) = x + y := by
  apply BitVec.eq_of_toNat_eq
  simp only [BitVec.toNat_add, BitVec.toNat_and, BitVec.toNat_xor, BitVec.toNat_shiftLeft]
  rw [← nat_xor_and x.toNat y.toNat, Nat.shiftLeft_eq]
  omega
theorem bv_or_sub_and (x y : BitVec 32) : (x ||| y) - (x &&& y) = x ^^^ y := by
  apply BitVec.eq_of_toNat_eq
  have h1 := nat_and_or x.toNat y.toNat
  have h2 := nat_xor_and x.toNat y.toNat
  have h3 : (x ||| y).toNat < 2 ^ 32 := (x ||| y).isLt
  simp only [BitVec.toNat_sub, BitVec.toNat_and, BitVec.toNat_or, BitVec.toNat_xor] at *
  omega

theorem wrap32_of (n : Int) : wrap32 n = (BitVec.ofInt 32 n).toInt := by
  rw [BitVec.toInt_ofInt]
  unfold wrap32 Int.bmod
  simp only [show ((2 ^ 32 : Nat) : Int) = 4294967296 from rfl, show ((4294967296 : Int) + 1) / 2 = 2147483648 from rfl]
  split <;> omega
theorem toInt_bounds (x : BitVec 32) : -2147483648 ≤ x.toInt ∧ x.toInt ≤ 2147483647 := by
  rw [BitVec.toInt_eq_toNat_cond]
  have := x.isLt
  split <;> omega
theorem wf_of (a : Int) (h : (Lit.int .i32 a).wf = true) : ∃ x : BitVec 32, a = x.toInt := by
  simp only [Lit.wf, Bool.and_eq_true, decide_eq_true_eq] at h
  have h1 : -2147483648 ≤ a := h.1
  have h2 : a ≤ 2147483647 := h.2
  refine ⟨BitVec.ofInt 32 a, ?_⟩
  rw [← wrap32_of]
  unfold wrap32
  omega
theorem toInt_mod (x : BitVec 32) : x.toInt % 4294967296 = x.toNat := by
  rw [BitVec.toInt_eq_toNat_cond]
  have := x.isLt
  split <;> omega
theorem i32_wrap (z : BitVec 32) : IntKind.i32.wrap z.toNat = z.toInt := by
  rw [IntKind.wrap_i32, BitVec.toInt_eq_toNat_cond]
  have := z.isLt
  split <;> omega
theorem bits_and (x y : BitVec 32) : Go.bits .and .i32 x.toInt y.toInt = (x &&& y).toInt := by
  show IntKind.i32.wrap ((BitVec.ofInt 32 x.toInt &&& BitVec.ofInt 32 y.toInt).toNat : Int) = _
  rw [BitVec.ofInt_toInt, BitVec.ofInt_toInt]
  exact i32_wrap _
theorem bits_or (x y : BitVec 32) : Go.bits .or .i32 x.toInt y.toInt = (x ||| y).toInt := by
  show IntKind.i32.wrap ((BitVec.ofInt 32 x.toInt ||| BitVec.ofInt 32 y.toInt).toNat : Int) = _
  rw [BitVec.ofInt_toInt, BitVec.ofInt_toInt]
  exact i32_wrap _
theorem bits_xor (x y : BitVec 32) : Go.bits .xor .i32 x.toInt y.toInt = (x ^^^ y).toInt := by
  show IntKind.i32.wrap ((BitVec.ofInt 32 x.toInt ^^^ BitVec.ofInt 32 y.toInt).toNat : Int) = _
  rw [BitVec.ofInt_toInt, BitVec.ofInt_toInt]
  exact i32_wrap _
theorem count_of (y : BitVec 32) : (y.toInt % 32).toNat = y.toNat % 32 := by
  have := toInt_mod y
  omega
theorem do_add (x y : BitVec 32) : word_Do.f 2 x.toInt y.toInt = some ((x + y).toInt, true) := by
  simp [word_Do.f, wrap32_of, BitVec.ofInt_add]
theorem do_sub (x y : BitVec 32) : word_Do.f 3 x.toInt y.toInt = some ((x - y).toInt, true) := by
  have : BitVec.ofInt 32 (x.toInt - y.toInt) = x - y := by
    apply BitVec.eq_of_toInt_eq; rw [BitVec.toInt_ofInt, BitVec.toInt_sub]
  simp [word_Do.f, wrap32_of, this]
theorem do_mul (x y : BitVec 32) : word_Do.f 4 x.toInt y.toInt = some ((x * y).toInt, true) := by
  simp [word_Do.f, wrap32_of, BitVec.ofInt_mul]
theorem do_and (x y : BitVec 32) : word_Do.f 5 x.toInt y.toInt = some ((x &&& y).toInt, true) := by
  simp [word_Do.f, bits_and]
theorem do_or (x y : BitVec 32) : word_Do.f 6 x.toInt y.toInt = some ((x ||| y).toInt, true) := by
  simp [word_Do.f, bits_or]
theorem do_xor (x y : BitVec 32) : word_Do.f 7 x.toInt y.toInt = some ((x ^^^ y).toInt, true) := by
  simp [word_Do.f, bits_xor]
theorem do_shl (x y : BitVec 32) : word_Do.f 8 x.toInt y.toInt = some ((x <<< (y.toNat % 32)).toInt, true) := by
  have : BitVec.ofInt 32 (x.toInt * 2 ^ (y.toNat % 32)) = x <<< (y.toNat % 32) := by
    rw [BitVec.shiftLeft_eq_mul_twoPow, BitVec.ofInt_mul, BitVec.ofInt_toInt]
    congr 1
    apply BitVec.eq_of_toNat_eq
    have e : ((2 : Int) ^ (y.toNat % 32)) = ((2 ^ (y.toNat % 32) : Nat) : Int) := by norm_cast
    rw [e, BitVec.ofInt_natCast, BitVec.toNat_ofNat, BitVec.toNat_twoPow]
  simp [word_Do.f, wrap32_of, count_of, this]
theorem do_shr (x y : BitVec 32) : word_Do.f 9 x.toInt y.toInt = some ((x >>> (y.toNat % 32)).toInt, true) := by
  have : BitVec.ofInt 32 ((x.toNat : Int) / 2 ^ (y.toNat % 32)) = x >>> (y.toNat % 32) := by
    have e : ((x.toNat : Int) / 2 ^ (y.toNat % 32)) = ((x.toNat / 2 ^ (y.toNat % 32) : Nat) : Int) := by norm_cast
    rw [e, BitVec.ofInt_natCast]
    apply BitVec.eq_of_toNat_eq
    rw [BitVec.toNat_ofNat, BitVec.toNat_ushiftRight, Nat.shiftRight_eq_div_pow]
    exact Nat.mod_eq_of_lt (Nat.lt_of_le_of_lt (Nat.div_le_self _ _) x.isLt)
  simp [word_Do.f, wrap32_of, count_of, toInt_mod, this]
theorem do_sar (x y : BitVec 32) : word_Do.f 10 x.toInt y.toInt = some ((x.sshiftRight (y.toNat % 32)).toInt, true) := by
  have : x.toInt / 2 ^ (y.toNat % 32) = (x.sshiftRight (y.toNat % 32)).toInt := by
    rw [BitVec.toInt_sshiftRight, Int.shiftRight_eq_div_pow]
    norm_cast
  simp [word_Do.f, count_of, this]
theorem do_eq (x y : BitVec 32) : word_Do.f 11 x.toInt y.toInt = some (if x = y then 1 else 0, true) := by
  simp [word_Do.f, BitVec.toInt_inj]
theorem do_lt (x y : BitVec 32) : word_Do.f 12 x.toInt y.toInt = some (if x.toInt < y.toInt then 1 else 0, true) := by
  simp [word_Do.f]
theorem do_ltu (x y : BitVec 32) : word_Do.f 13 x.toInt y.toInt = some (if x.toNat < y.toNat then 1 else 0, true) := by
  simp [word_Do.f, toInt_mod]
end Go.Proofs.Ytfiajahppimchaa.Wd
