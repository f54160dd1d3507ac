/- Plain facts on decimal texts: what Lib.itoa, Lib.decDigits, Lib.parseIntB say of one another. -/
import Derived.Lib.ParseIntB
import Derived.Lib.ParseIntBTie
import Derived.Lib.ParseIntBCases
import Derived.Lib.ItoaNum
namespace Go.Proofs.YtfiajahppimchaaDoor.Dec
open Go

/-- The value of digits, from an accumulated number on. -/
def valFrom (acc : Nat) (l : List UInt8) : Nat := l.foldl (fun a c => a * 10 + (c.toNat - 48)) acc
def isDig (c : UInt8) : Prop := 48 ≤ c.toNat ∧ c.toNat ≤ 57

theorem dig_toNat (d : Nat) (h : d < 10) : (UInt8.ofNat (48 + d)).toNat = 48 + d := by
  rw [UInt8.toNat_ofNat']; omega
theorem dec_small {u : Nat} (h : u < 10) : Lib.decDigits u = [UInt8.ofNat (48 + u)] := by rw [Lib.decDigits, dif_pos h]
theorem dec_big {u : Nat} (h : ¬ u < 10) : Lib.decDigits u = Lib.decDigits (u / 10) ++ [UInt8.ofNat (48 + u % 10)] := by
  rw [Lib.decDigits, dif_neg h]
theorem dec_ne (u : Nat) : Lib.decDigits u ≠ [] := by
  by_cases h : u < 10
  · rw [dec_small h]; simp
  · rw [dec_big h]; simp
theorem dec_dig (u : Nat) : ∀ c ∈ Lib.decDigits u, isDig c := by
  induction u using Nat.strongRecOn with
  | _ u ih =>
    intro c hc
    by_cases h : u < 10
    · rw [dec_small h, List.mem_singleton] at hc
      subst hc
      unfold isDig; rw [dig_toNat _ h]; omega
    · rw [dec_big h, List.mem_append, List.mem_singleton] at hc
      rcases hc with hc | hc
      · exact ih (u / 10) (by omega) c hc
      · subst hc
        unfold isDig; rw [dig_toNat _ (by omega)]; omega
theorem valFrom_append (acc : Nat) (l m : List UInt8) : valFrom acc (l ++ m) = valFrom (valFrom acc l) m := List.foldl_append
theorem dec_val (u : Nat) : valFrom 0 (Lib.decDigits u) = u := by
  induction u using Nat.strongRecOn with
  | _ u ih =>
    by_cases h : u < 10
    · rw [dec_small h]
      show 0 * 10 + ((UInt8.ofNat (48 + u)).toNat - 48) = u
      rw [dig_toNat _ h]; omega
    · rw [dec_big h, valFrom_append, ih (u / 10) (by omega)]
      show u / 10 * 10 + ((UInt8.ofNat (48 + u % 10)).toNat - 48) = u
      rw [dig_toNat _ (by omega)]; omega
theorem dec_inj {u v : Nat} (h : Lib.decDigits u = Lib.decDigits v) : u = v := by rw [← dec_val u, ← dec_val v, h]
/-- No nought ahead, but of nought itself. -/
theorem dec_head (u : Nat) (r : List UInt8) (h : Lib.decDigits u = 48 :: r) : u = 0 ∧ r = [] := by
  induction u using Nat.strongRecOn generalizing r with
  | _ u ih =>
    by_cases hu : u < 10
    · rw [dec_small hu] at h
      injection h with h1 h2
      have := congrArg UInt8.toNat h1
      rw [dig_toNat _ hu] at this
      have h3 : (48 : UInt8).toNat = 48 := rfl
      exact ⟨by omega, h2.symm⟩
    · rw [dec_big hu] at h
      cases hd : Lib.decDigits (u / 10) with
      | nil => exact absurd hd (dec_ne _)
      | cons a r' =>
        rw [hd, List.cons_append] at h
        injection h with h1 h2
        subst h1
        have := ih (u / 10) (by omega) r' hd
        omega
theorem dec_first (u : Nat) (c : UInt8) (r : List UInt8) (h : Lib.decDigits u = c :: r) : isDig c := dec_dig u c (by rw [h]; simp)
theorem itoa_ne (v : Int) : Lib.itoa v ≠ [] := by
  unfold Lib.itoa
  split
  · simp
  · exact dec_ne _
theorem itoa_inj {v w : Int} (h : Lib.itoa v = Lib.itoa w) : v = w := by
  unfold Lib.itoa at h
  split at h <;> split at h
  · injection h with _ h; have := dec_inj h; omega
  · exact absurd (dec_first _ _ _ h.symm) (by unfold isDig; decide)
  · exact absurd (dec_first _ _ _ h) (by unfold isDig; decide)
  · have := dec_inj h; omega

/-! ### Parsing -/
theorem valFrom_mono (l : List UInt8) : ∀ acc, acc ≤ valFrom acc l := by
  induction l with
  | nil => intro acc; exact Nat.le_refl _
  | cons c r ih =>
    intro acc
    have := ih (acc * 10 + (c.toNat - 48))
    show acc ≤ valFrom (acc * 10 + (c.toNat - 48)) r
    omega
theorem parseM_digits (M : Nat) (hM : M < 1844674407370955162) (l : List UInt8) : ∀ acc, acc ≤ M → (∀ c ∈ l, isDig c) → valFrom acc l ≤ M → Lib.parseUintM M acc l = .ok (valFrom acc l) := by
  induction l with
  | nil => intro acc _ _ _; rfl
  | cons c r ih =>
    intro acc ha hd hv
    have hc : isDig c := hd c (by simp)
    have hm : acc * 10 + (c.toNat - 48) ≤ M := Nat.le_trans (valFrom_mono r _) hv
    unfold Lib.parseUintM
    unfold isDig at hc
    rw [if_pos hc, if_neg (by omega), if_neg (by omega)]
    exact ih _ hm (fun x hx => hd x (by simp [hx])) hv
theorem parseU_dec (u : Nat) (h : u ≤ 4294967295) : Lib.parseUintB 32 (Lib.decDigits u) = .ok u := by
  unfold Lib.parseUintB
  rw [if_neg (dec_ne u), parseM_digits _ (by decide) _ 0 (by omega) (dec_dig u) (by rw [dec_val]; exact h), dec_val]
/-- A word comes back from its text. -/
theorem parse_itoa (v : Int) (h0 : -2147483648 ≤ v) (h1 : v ≤ 2147483647) : Lib.parseIntB 32 (Lib.itoa v) = .ok v := by
  unfold Lib.itoa
  split
  · rename_i hn
    rw [Lib.parseIntB_minus, parseU_dec _ (by omega)]
    show (if _ then _ else _) = _
    rw [if_neg (by simp; omega)]
    congr 1
    omega
  · rename_i hn
    have hp := parseU_dec v.toNat (by omega)
    cases hd : Lib.decDigits v.toNat with
    | nil => exact absurd hd (dec_ne _)
    | cons c r =>
      have hc := dec_first _ _ _ hd
      unfold isDig at hc
      rw [hd] at hp
      rw [Lib.parseIntB_plain 32 c r (by omega) (by omega), hp]
      show (if _ then _ else _) = _
      rw [if_neg (by simp; omega)]
      congr 1
      omega
end Go.Proofs.YtfiajahppimchaaDoor.Dec
