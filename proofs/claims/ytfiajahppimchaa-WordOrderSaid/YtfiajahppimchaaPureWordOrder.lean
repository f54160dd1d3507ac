/- Of two words just one of below, the same, above is so, in both orders: WordOrder answers true at any three words. No condition. -/
import Derived.Test.YtfiajahppimchaaPrx3
import Derived.Test.YtfiajahppimchaaWe
namespace Go.Proofs.Ytfiajahppimchaa.Pure
open Go.RowKit Go.Proofs.Ytfiajahppimchaa.Pr Go.Proofs.YtfiajahppimchaaW.PrintWords Go.Proofs.YtfiajahppimchaaW.PrintLast Go.Proofs.YtfiajahppimchaaW.PrintMore Go.Proofs.Ytfiajahppimchaa.Do Go.Proofs.Ytfiajahppimchaa.Wd

theorem order_round (x y z : BitVec 32) (k : Nat) (op : Int) (h : op = 12 ∨ op = 13) :
    jacquardlaw01_WordOrder.l0 (k + 1) x.toInt y.toInt z.toInt true op = jacquardlaw01_WordOrder.l0 k x.toInt y.toInt z.toInt true (op + 1) := by
  have hw : wrap64 (op + 1) = op + 1 := by unfold wrap64; omega
  rcases h with rfl | rfl
  · simp only [jacquardlaw01_WordOrder.l0]
    rw [if_pos (by omega)]
    simp only [does_lt, does_eq, Option.bind_some, hw]
    have e : x = y ↔ x.toInt = y.toInt := BitVec.toInt_inj.symm
    rcases Int.lt_trichotomy x.toInt y.toInt with l | l | l
    · have n1 : ¬ y.toInt < x.toInt := by omega
      have n2 : ¬ x = y := by rw [e]; omega
      simp only [l, n1, n2, if_true, if_false]
      rw [if_pos (by unfold wrap32; omega)]
      by_cases g : y.toInt < z.toInt
      · have g2 : x.toInt < z.toInt := by omega
        simp [g, g2]
      · simp [g]
    · have n0 : ¬ x.toInt < y.toInt := by omega
      have n1 : ¬ y.toInt < x.toInt := by omega
      have n2 : x = y := by rw [e]; omega
      subst n2
      simp [wrap32]
    · have n0 : ¬ x.toInt < y.toInt := by omega
      have n2 : ¬ x = y := by rw [e]; omega
      simp [n0, l, n2, wrap32]
  · simp only [jacquardlaw01_WordOrder.l0]
    rw [if_pos (by omega)]
    simp only [does_ltu, does_eq, Option.bind_some, hw]
    have e : x = y ↔ x.toNat = y.toNat := BitVec.toNat_inj.symm
    rcases Nat.lt_trichotomy x.toNat y.toNat with l | l | l
    · have n1 : ¬ y.toNat < x.toNat := by omega
      have n2 : ¬ x = y := by rw [e]; omega
      simp only [l, n1, n2, if_true, if_false]
      rw [if_pos (by unfold wrap32; omega)]
      by_cases g : y.toNat < z.toNat
      · have g2 : x.toNat < z.toNat := by omega
        simp [g, g2]
      · simp [g]
    · have n0 : ¬ x.toNat < y.toNat := by omega
      have n1 : ¬ y.toNat < x.toNat := by omega
      have n2 : x = y := by rw [e]; omega
      subst n2
      simp [wrap32]
    · have n0 : ¬ x.toNat < y.toNat := by omega
      have n2 : ¬ x = y := by rw [e]; omega
      simp [n0, l, n2, wrap32]
theorem xor_min (x : BitVec 32) : (x ^^^ 2147483648#32).toInt = (x.toNat : Int) - 2147483648 := by
  have h := bv_xor_and x 2147483648#32
  have h2 : (x &&& 2147483648#32) <<< 1 = 0#32 := by
    rw [BitVec.shiftLeft_and_distrib, show (2147483648#32 <<< 1) = 0#32 from by decide, BitVec.and_zero]
  rw [h2, BitVec.add_zero] at h
  have hl := x.isLt
  rw [h, BitVec.toInt_eq_toNat_cond, BitVec.toNat_add, show (2147483648#32).toNat = 2147483648 from rfl]
  split <;> omega
theorem order_end (x y z : BitVec 32) (k : Nat) : jacquardlaw01_WordOrder.l0 (k + 1) x.toInt y.toInt z.toInt true 14 = some true := by
  simp only [jacquardlaw01_WordOrder.l0]
  rw [if_neg (by omega), if_pos trivial]
  simp only [min_int, does_lt, does_ltu, does_eq, does_sub, does_xor, Option.bind_some]
  have hx := x.isLt
  have hy := y.isLt
  have ix := BitVec.toInt_eq_toNat_cond x
  have iy := BitVec.toInt_eq_toNat_cond y
  have e : x = y ↔ x.toNat = y.toNat := BitVec.toNat_inj.symm
  have e2 : x = y ↔ x.toInt = y.toInt := BitVec.toInt_inj.symm
  have e3 : (x - y).toInt = 0 ↔ x = y := by
    rw [zero_int, BitVec.toInt_inj]
    constructor
    · intro h; have := BitVec.sub_add_cancel x y; rw [h, BitVec.zero_add] at this; exact this.symm
    · rintro rfl; exact BitVec.sub_self _
  have l1 : (((if x = y then (1 : Int) else 0) == 1) == ((x - y).toInt == 0)) = true := by
    by_cases h : x = y
    · simp [h]
    · have := mt e3.mp h; rw [if_neg h, beq_eq_false_iff_ne.mpr this]; rfl
  have l2 : ((x.toNat : Int) - 2147483648 < (y.toNat : Int) - 2147483648) ↔ x.toNat < y.toNat := by omega
  simp only [l1, if_true]
  rw [xor_min, xor_min]
  simp only [l2]
  by_cases s : ((decide (x.toInt < 0)) == (decide (y.toInt < 0))) = true
  · rw [if_pos s, if_pos]
    · simp
    · have s1 : x.toInt < 0 ↔ y.toInt < 0 := by simpa using s
      have : x.toInt < y.toInt ↔ x.toNat < y.toNat := by split at ix <;> split at iy <;> omega
      simp [this]
  · rw [if_neg s, if_pos]
    · simp
    · have s1 : ¬ (x.toInt < 0 ↔ y.toInt < 0) := by simpa using s
      have : x.toInt < y.toInt ↔ ¬ x.toNat < y.toNat := by split at ix <;> split at iy <;> omega
      have n2 : ¬ x.toInt = y.toInt := by omega
      by_cases t : x.toNat < y.toNat <;> simp [this, t, n2]
theorem WordOrder : jacquardlaw01_WordOrder.Pure := by
  intro a b c ha hb hc
  obtain ⟨x, rfl⟩ := wf_of a ha
  obtain ⟨y, rfl⟩ := wf_of b hb
  obtain ⟨z, rfl⟩ := wf_of c hc
  refine ⟨3, ?_⟩
  unfold jacquardlaw01_WordOrder.f
  rw [shown_true]
  simp only [Option.bind_some]
  rw [order_round _ _ _ _ _ (Or.inl rfl), show (12 : Int) + 1 = 13 from rfl, order_round _ _ _ _ _ (Or.inr rfl)]
  exact order_end x y z 0
end Go.Proofs.Ytfiajahppimchaa.Pure
