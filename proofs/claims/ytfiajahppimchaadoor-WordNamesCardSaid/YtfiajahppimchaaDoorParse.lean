/- What is parsed is the word whose text it is; and no other text than a word's is parsed. -/
import Derived.Test.YtfiajahppimchaaDoorDec
import Derived.Test.YtfiajahppimchaaDoorWord
namespace Go.Proofs.YtfiajahppimchaaDoor.Dec
open Go Go.RowKit Go.Proofs.YtfiajahppimchaaDoorW.PrintWords Go.Proofs.YtfiajahppimchaaDoor.Wl

def inWord (v : Int) : Prop := -2147483648 ≤ v ∧ v ≤ 2147483647
theorem parseW_itoa (v : Int) (h : inWord v) : parseW (Lib.itoa v) = (v, true) := by
  unfold parseW
  rw [parse_itoa v h.1 h.2]
  exact if_pos rfl
theorem parseW_true {l : List UInt8} {v : Int} (h : parseW l = (v, true)) : Lib.itoa v = l ∧ inWord v := by
  unfold parseW at h
  split at h
  · rename_i u hu
    split at h
    · rename_i he
      obtain ⟨rfl, _⟩ := Prod.mk.inj h
      have hb := Lib.parseIntB_bounds hu
      have h0 := hb.1
      have h1 := hb.2
      simp only [show ((2 ^ (32 - 1) : Nat) : Int) = 2147483648 from rfl] at h0 h1
      exact ⟨he, by unfold inWord; omega⟩
    · cases (Prod.mk.inj h).2
  · cases (Prod.mk.inj h).2
theorem parseW_false {l : List UInt8} {v : Int} (h : parseW l = (v, false)) : v = 0 := by
  unfold parseW at h
  split at h
  · split at h
    · cases (Prod.mk.inj h).2
    · exact (Prod.mk.inj h).1.symm
  · exact (Prod.mk.inj h).1.symm
/-- No word has this text: nothing is parsed. -/
theorem parseW_none {l : List UInt8} (h : ∀ v, inWord v → Lib.itoa v ≠ l) : parseW l = (0, false) := by
  cases hp : parseW l with
  | mk v b =>
    cases b with
    | true => exact absurd (parseW_true hp).1 (h v (parseW_true hp).2)
    | false => rw [parseW_false hp]
theorem dec_len (u : Nat) : ∀ d, u < 10 ^ (d + 1) → (Lib.decDigits u).length ≤ d + 1 := by
  induction u using Nat.strongRecOn with
  | _ u ih =>
    intro d hd
    by_cases h : u < 10
    · rw [dec_small h, List.length_singleton]; omega
    · rw [dec_big h, List.length_append, List.length_singleton]
      cases d with
      | zero => omega
      | succ d =>
        have := ih (u / 10) (by omega) d (by rw [Nat.pow_succ] at hd; omega)
        omega
theorem itoa_len (v : Int) (h : inWord v) : (Lib.itoa v).length ≤ 11 := by
  unfold inWord at h
  unfold Lib.itoa
  split
  · have := dec_len v.natAbs 9 (by omega)
    rw [List.length_cons]
    omega
  · have := dec_len v.toNat 9 (by omega)
    omega
theorem text_some (v : Int) (h : inWord v) : word_Text.f v = some ⟨(Lib.itoa v).toArray⟩ := by unfold word_Text.f; exact if_pos h
theorem parse_some (s : ByteArray) (h : s.size ≤ 281474976710656) : word_Parse.f s = some (parseW s.data.toList) := by unfold word_Parse.f; exact if_pos h
/-- A nought ahead. -/
theorem no_led (v : Int) : parseW (48 :: Lib.itoa v) = (0, false) := by
  apply parseW_none
  intro u _ h
  unfold Lib.itoa at h
  split at h
  · injection h with h1 _; exact absurd h1 (by decide)
  · have := (dec_head _ _ h).2
    exact itoa_ne v (by unfold Lib.itoa; exact this)
theorem no_signed (v : Int) : parseW (43 :: Lib.itoa v) = (0, false) := by
  apply parseW_none
  intro u _ h
  unfold Lib.itoa at h
  split at h
  · injection h with h1 _; exact absurd h1 (by decide)
  · exact absurd (dec_first _ _ _ h) (by unfold isDig; decide)
/-- A byte behind. -/
theorem behind (v d : Int) (c : UInt8) (h : Lib.itoa d = Lib.itoa v ++ [c]) : isDig c ∧ Int.tdiv d 10 = v ∧ v ≠ 0 := by
  unfold Lib.itoa at h
  by_cases hd : d < 0
  · rw [if_pos hd] at h
    by_cases hv : v < 0
    · rw [if_pos hv, List.cons_append] at h
      injection h with _ h
      by_cases hs : d.natAbs < 10
      · rw [dec_small hs] at h
        have := congrArg List.length h
        have hn := List.length_pos_iff.mpr (dec_ne v.natAbs)
        rw [List.length_append, List.length_singleton, List.length_singleton] at this
        omega
      · rw [dec_big hs] at h
        obtain ⟨h1, h2⟩ := List.append_inj' h rfl
        have h3 := dec_inj h1
        injection h2 with h2
        subst h2
        refine ⟨by unfold isDig; rw [dig_toNat _ (by omega)]; omega, ?_, by omega⟩
        have e : d.tdiv 10 = -(((d.natAbs : Nat) : Int) / 10) := by
          conv => lhs; rw [show d = -((d.natAbs : Nat) : Int) from by omega]
          rw [Int.neg_tdiv, Int.tdiv_eq_ediv_of_nonneg (by omega)]
        omega
    · rw [if_neg hv] at h
      cases hq : Lib.decDigits v.toNat with
      | nil => exact absurd hq (dec_ne _)
      | cons a r =>
        have ha := dec_first _ _ _ hq
        rw [hq, List.cons_append] at h
        injection h with h1 _
        subst h1
        exact absurd ha (by unfold isDig; decide)
  · rw [if_neg hd] at h
    by_cases hv : v < 0
    · rw [if_pos hv, List.cons_append] at h
      exact absurd (dec_first _ _ _ h) (by unfold isDig; decide)
    · rw [if_neg hv] at h
      by_cases hs : d.toNat < 10
      · rw [dec_small hs] at h
        have := congrArg List.length h
        have hn := List.length_pos_iff.mpr (dec_ne v.toNat)
        rw [List.length_append, List.length_singleton, List.length_singleton] at this
        omega
      · rw [dec_big hs] at h
        obtain ⟨h1, h2⟩ := List.append_inj' h rfl
        have h3 := dec_inj h1
        injection h2 with h2
        subst h2
        refine ⟨by unfold isDig; rw [dig_toNat _ (by omega)]; omega, ?_, by omega⟩
        rw [Int.tdiv_eq_ediv_of_nonneg (by omega)]
        omega
end Go.Proofs.YtfiajahppimchaaDoor.Dec
