-- By this session's driver (wip/myprint.py) out of the translation; Lean checks it.
import Derived.Test.YtfiajahppimchaaDoorPrx0
import Derived.Test.YtfiajahppimchaaDoorPrx1
namespace Go.Proofs.YtfiajahppimchaaDoor.Pr
open Go.Proofs.YtfiajahppimchaaDoor.Do
open Go.Proofs.YtfiajahppimchaaDoor.Wl
open Go.RowKit Go.Proofs.YtfiajahppimchaaDoorW.PrintWords Go.Proofs.YtfiajahppimchaaDoorW.PrintLast Go.Proofs.YtfiajahppimchaaDoorW.PrintMore
attribute [local go_sem] max2_int min2_int max_two min_two max_three min_three max_four min_four   -- for this text's walks alone
set_option linter.unusedVariables false
set_option linter.unusedSimpArgs false

/-! ### jacquardlaw01_WordTexts: function 3 -/
def jacquardlaw01_WordTexts.f (a0 : Int) (a1 : ByteArray) (a2 : Int) : Option (Bool) := (jacquardlaw01_shown.f).bind fun t109 => (if 0 ≤ (mn (a1.size : Int) 20) then (if (mn (a1.size : Int) 20) ≤ (a1.size : Int) then ((word_Text.f a0).bind fun t110 => ((word_Parse.f t110).bind fun bt111 => ((word_Parse.f (a1.extract 0 ((mn (a1.size : Int) 20) : Int).toNat)).bind fun bt113 => ((word_Text.f a0).bind fun t115 => (if 1 + t115.size ≤ 9223372036854775807 then ((word_Parse.f ((⟨#[48]⟩ : ByteArray) ++ t115)).bind fun bt116 => ((word_Text.f a0).bind fun t118 => (if 1 + t118.size ≤ 9223372036854775807 then ((word_Parse.f ((⟨#[43]⟩ : ByteArray) ++ t118)).bind fun bt119 => ((word_Text.f a0).bind fun t121 => ((some (([a2] : List Int) : List Int)).bind fun y122 => (if t121.size + (strOfNums y122).size ≤ 9223372036854775807 then ((word_Parse.f (t121 ++ (strOfNums y122))).bind fun bt125 => (if t109 = true then (if bt111.2 = true then (if bt111.1 = a0 then (if bt113.2 = true then ((word_Text.f bt113.1).bind fun t127 => (if t127.toList = (a1.extract 0 ((mn (a1.size : Int) 20) : Int).toNat).toList then (if bt116.2 = true then (some false) else (if bt119.2 = true then (some false) else (if bt125.2 = true then (if a2 ≥ 48 then (if a2 ≤ 57 then (if (wrap32 (Int.tdiv bt125.1 10)) = a0 then (some (a0 != 0)) else (some false)) else (some false)) else (some false)) else (some true)))) else (some false))) else (if bt113.1 = 0 then (if bt116.2 = true then (some false) else (if bt119.2 = true then (some false) else (if bt125.2 = true then (if a2 ≥ 48 then (if a2 ≤ 57 then (if (wrap32 (Int.tdiv bt125.1 10)) = a0 then (some (a0 != 0)) else (some false)) else (some false)) else (some false)) else (some true)))) else (some false))) else (some false)) else (some false)) else (some false))) else (none))))) else (none)))) else (none)))))) else (none)) else (none))
def jacquardlaw01_WordTexts.T7 : Bool × List (List Nat × List Nat) := (true, [([], []), ([0], [0]), ([], []), ([2], [2]), ([3], [3]), ([1, 4], [1, 4]), ([5, 1], [5]), ([6], [6]), ([7], [7]), ([7], [7]), ([8, 6, 0, 1, 2, 3, 4, 5, 6, 7, 8], [8]), ([9, 10, 0, 1, 2, 3, 4, 5, 6, 7, 8, 9, 10], [9])])
def jacquardlaw01_WordTexts.B7 : List Nat := [0, 1, 0, 4, 12, 31, 63, 127, 255, 255, 511, 2047]
theorem jacquardlaw01_WordTexts.tab7 : rtab .any (opsOf Tryd.f3 7) = jacquardlaw01_WordTexts.T7 := by kernel_rfl
theorem jacquardlaw01_WordTexts.bits7 : waitsOk jacquardlaw01_WordTexts.T7.2 jacquardlaw01_WordTexts.B7 = true := by kernel_rfl
set_option maxHeartbeats 8000000 in
set_option maxRecDepth 100000 in
theorem jacquardlaw01_WordTexts.calls (a0 : Int) (a1 : ByteArray) (a2 : Int) (w : World) (HG : Aside0 (LaidT w)) (h : jacquardlaw01_WordTexts.f a0 a1 a2 = some true) :
    Calls Tryd.prog 3 #[.int .i32 a0, .string a1, .int .u8 a2] w fun e w' => e = .returned (.bool true) ∧ Below w.heap.size w w' := by
  have HB := Aside0.mk (Below.refl w.heap.size w)
  have H : ((jacquardlaw01_shown.f).bind fun t109 => (if 0 ≤ (mn (a1.size : Int) 20) then (if (mn (a1.size : Int) 20) ≤ (a1.size : Int) then ((word_Text.f a0).bind fun t110 => ((word_Parse.f t110).bind fun bt111 => ((word_Parse.f (a1.extract 0 ((mn (a1.size : Int) 20) : Int).toNat)).bind fun bt113 => ((word_Text.f a0).bind fun t115 => (if 1 + t115.size ≤ 9223372036854775807 then ((word_Parse.f ((⟨#[48]⟩ : ByteArray) ++ t115)).bind fun bt116 => ((word_Text.f a0).bind fun t118 => (if 1 + t118.size ≤ 9223372036854775807 then ((word_Parse.f ((⟨#[43]⟩ : ByteArray) ++ t118)).bind fun bt119 => ((word_Text.f a0).bind fun t121 => ((some (([a2] : List Int) : List Int)).bind fun y122 => (if t121.size + (strOfNums y122).size ≤ 9223372036854775807 then ((word_Parse.f (t121 ++ (strOfNums y122))).bind fun bt125 => (if t109 = true then (if bt111.2 = true then (if bt111.1 = a0 then (if bt113.2 = true then ((word_Text.f bt113.1).bind fun t127 => (if t127.toList = (a1.extract 0 ((mn (a1.size : Int) 20) : Int).toNat).toList then (if bt116.2 = true then (some false) else (if bt119.2 = true then (some false) else (if bt125.2 = true then (if a2 ≥ 48 then (if a2 ≤ 57 then (if (wrap32 (Int.tdiv bt125.1 10)) = a0 then (some (a0 != 0)) else (some false)) else (some false)) else (some false)) else (some true)))) else (some false))) else (if bt113.1 = 0 then (if bt116.2 = true then (some false) else (if bt119.2 = true then (some false) else (if bt125.2 = true then (if a2 ≥ 48 then (if a2 ≤ 57 then (if (wrap32 (Int.tdiv bt125.1 10)) = a0 then (some (a0 != 0)) else (some false)) else (some false)) else (some false)) else (some true)))) else (some false))) else (some false)) else (some false)) else (some false))) else (none))))) else (none)))) else (none)))))) else (none)) else (none))) = some true := h
  clear h
  replace H := Option.bind_eq_some_iff.mp H
  obtain ⟨t109, A40, H⟩ := H
  replace H : (if 0 ≤ (mn (a1.size : Int) 20) then (if (mn (a1.size : Int) 20) ≤ (a1.size : Int) then ((word_Text.f a0).bind fun t110 => ((word_Parse.f t110).bind fun bt111 => ((word_Parse.f (a1.extract 0 ((mn (a1.size : Int) 20) : Int).toNat)).bind fun bt113 => ((word_Text.f a0).bind fun t115 => (if 1 + t115.size ≤ 9223372036854775807 then ((word_Parse.f ((⟨#[48]⟩ : ByteArray) ++ t115)).bind fun bt116 => ((word_Text.f a0).bind fun t118 => (if 1 + t118.size ≤ 9223372036854775807 then ((word_Parse.f ((⟨#[43]⟩ : ByteArray) ++ t118)).bind fun bt119 => ((word_Text.f a0).bind fun t121 => ((some (([a2] : List Int) : List Int)).bind fun y122 => (if t121.size + (strOfNums y122).size ≤ 9223372036854775807 then ((word_Parse.f (t121 ++ (strOfNums y122))).bind fun bt125 => (if t109 = true then (if bt111.2 = true then (if bt111.1 = a0 then (if bt113.2 = true then ((word_Text.f bt113.1).bind fun t127 => (if t127.toList = (a1.extract 0 ((mn (a1.size : Int) 20) : Int).toNat).toList then (if bt116.2 = true then (some false) else (if bt119.2 = true then (some false) else (if bt125.2 = true then (if a2 ≥ 48 then (if a2 ≤ 57 then (if (wrap32 (Int.tdiv bt125.1 10)) = a0 then (some (a0 != 0)) else (some false)) else (some false)) else (some false)) else (some true)))) else (some false))) else (if bt113.1 = 0 then (if bt116.2 = true then (some false) else (if bt119.2 = true then (some false) else (if bt125.2 = true then (if a2 ≥ 48 then (if a2 ≤ 57 then (if (wrap32 (Int.tdiv bt125.1 10)) = a0 then (some (a0 != 0)) else (some false)) else (some false)) else (some false)) else (some true)))) else (some false))) else (some false)) else (some false)) else (some false))) else (none))))) else (none)))) else (none)))))) else (none)) else (none)) = some true := H
  have A4 := Aside0.mk A40
  clear A40
  obtain ⟨ji5, hji5⟩ : ∃ j_ : Int, (mn (a1.size : Int) 20) = j_ := ⟨_, rfl⟩
  replace H : (if 0 ≤ (ji5) then (if (ji5) ≤ (a1.size : Int) then ((word_Text.f a0).bind fun t110 => ((word_Parse.f t110).bind fun bt111 => ((word_Parse.f (a1.extract 0 ((ji5) : Int).toNat)).bind fun bt113 => ((word_Text.f a0).bind fun t115 => (if 1 + t115.size ≤ 9223372036854775807 then ((word_Parse.f ((⟨#[48]⟩ : ByteArray) ++ t115)).bind fun bt116 => ((word_Text.f a0).bind fun t118 => (if 1 + t118.size ≤ 9223372036854775807 then ((word_Parse.f ((⟨#[43]⟩ : ByteArray) ++ t118)).bind fun bt119 => ((word_Text.f a0).bind fun t121 => ((some (([a2] : List Int) : List Int)).bind fun y122 => (if t121.size + (strOfNums y122).size ≤ 9223372036854775807 then ((word_Parse.f (t121 ++ (strOfNums y122))).bind fun bt125 => (if t109 = true then (if bt111.2 = true then (if bt111.1 = a0 then (if bt113.2 = true then ((word_Text.f bt113.1).bind fun t127 => (if t127.toList = (a1.extract 0 ((ji5) : Int).toNat).toList then (if bt116.2 = true then (some false) else (if bt119.2 = true then (some false) else (if bt125.2 = true then (if a2 ≥ 48 then (if a2 ≤ 57 then (if (wrap32 (Int.tdiv bt125.1 10)) = a0 then (some (a0 != 0)) else (some false)) else (some false)) else (some false)) else (some true)))) else (some false))) else (if bt113.1 = 0 then (if bt116.2 = true then (some false) else (if bt119.2 = true then (some false) else (if bt125.2 = true then (if a2 ≥ 48 then (if a2 ≤ 57 then (if (wrap32 (Int.tdiv bt125.1 10)) = a0 then (some (a0 != 0)) else (some false)) else (some false)) else (some false)) else (some true)))) else (some false))) else (some false)) else (some false)) else (some false))) else (none))))) else (none)))) else (none)))))) else (none)) else (none)) = some true := by first | (rw [hji5] at H; exact H) | (simp only [hji5] at H ⊢; exact H)
  (try rw [hji5] at A4)
  (try (have hji5h : ji5 ≤ 20 := by (rw [← hji5]; unfold mn; (repeat' split) <;> omega)))
  (try (have hji5g : ji5 ≤ 64 := by omega))
  (try (have hji5l : 0 ≤ ji5 := by (rw [← hji5]; unfold mn; (repeat' split) <;> omega)))
  (try (have hji5m : 0 ≤ ji5 := by omega))
  have hji5_ : (if 20 < (a1.size : Int) then 20 else (a1.size : Int)) = ji5 := hji5
  by_cases c6 : 0 ≤ (ji5)
  · rw [if_pos c6] at H
    have c6b0 := eq_true c6
    have c6b1 : decide (0 ≤ (ji5)) = true := decide_eq_true c6
    clear c6
    by_cases c7 : (ji5) ≤ (a1.size : Int)
    · rw [if_pos c7] at H
      have c7b0 := eq_true c7
      have c7b1 : decide ((ji5) ≤ (a1.size : Int)) = true := decide_eq_true c7
      clear c7
      replace H := Option.bind_eq_some_iff.mp H
      obtain ⟨t110, A80, H⟩ := H
      replace H : ((word_Parse.f t110).bind fun bt111 => ((word_Parse.f (a1.extract 0 ((ji5) : Int).toNat)).bind fun bt113 => ((word_Text.f a0).bind fun t115 => (if 1 + t115.size ≤ 9223372036854775807 then ((word_Parse.f ((⟨#[48]⟩ : ByteArray) ++ t115)).bind fun bt116 => ((word_Text.f a0).bind fun t118 => (if 1 + t118.size ≤ 9223372036854775807 then ((word_Parse.f ((⟨#[43]⟩ : ByteArray) ++ t118)).bind fun bt119 => ((word_Text.f a0).bind fun t121 => ((some (([a2] : List Int) : List Int)).bind fun y122 => (if t121.size + (strOfNums y122).size ≤ 9223372036854775807 then ((word_Parse.f (t121 ++ (strOfNums y122))).bind fun bt125 => (if t109 = true then (if bt111.2 = true then (if bt111.1 = a0 then (if bt113.2 = true then ((word_Text.f bt113.1).bind fun t127 => (if t127.toList = (a1.extract 0 ((ji5) : Int).toNat).toList then (if bt116.2 = true then (some false) else (if bt119.2 = true then (some false) else (if bt125.2 = true then (if a2 ≥ 48 then (if a2 ≤ 57 then (if (wrap32 (Int.tdiv bt125.1 10)) = a0 then (some (a0 != 0)) else (some false)) else (some false)) else (some false)) else (some true)))) else (some false))) else (if bt113.1 = 0 then (if bt116.2 = true then (some false) else (if bt119.2 = true then (some false) else (if bt125.2 = true then (if a2 ≥ 48 then (if a2 ≤ 57 then (if (wrap32 (Int.tdiv bt125.1 10)) = a0 then (some (a0 != 0)) else (some false)) else (some false)) else (some false)) else (some true)))) else (some false))) else (some false)) else (some false)) else (some false))) else (none))))) else (none)))) else (none))))) = some true := H
      have A8 := Aside0.mk A80
      clear A80
      replace H := Option.bind_eq_some_iff.mp H
      obtain ⟨⟨t111, t112⟩, A90, H⟩ := H
      replace H : ((word_Parse.f (a1.extract 0 ((ji5) : Int).toNat)).bind fun bt113 => ((word_Text.f a0).bind fun t115 => (if 1 + t115.size ≤ 9223372036854775807 then ((word_Parse.f ((⟨#[48]⟩ : ByteArray) ++ t115)).bind fun bt116 => ((word_Text.f a0).bind fun t118 => (if 1 + t118.size ≤ 9223372036854775807 then ((word_Parse.f ((⟨#[43]⟩ : ByteArray) ++ t118)).bind fun bt119 => ((word_Text.f a0).bind fun t121 => ((some (([a2] : List Int) : List Int)).bind fun y122 => (if t121.size + (strOfNums y122).size ≤ 9223372036854775807 then ((word_Parse.f (t121 ++ (strOfNums y122))).bind fun bt125 => (if t109 = true then (if t112 = true then (if t111 = a0 then (if bt113.2 = true then ((word_Text.f bt113.1).bind fun t127 => (if t127.toList = (a1.extract 0 ((ji5) : Int).toNat).toList then (if bt116.2 = true then (some false) else (if bt119.2 = true then (some false) else (if bt125.2 = true then (if a2 ≥ 48 then (if a2 ≤ 57 then (if (wrap32 (Int.tdiv bt125.1 10)) = a0 then (some (a0 != 0)) else (some false)) else (some false)) else (some false)) else (some true)))) else (some false))) else (if bt113.1 = 0 then (if bt116.2 = true then (some false) else (if bt119.2 = true then (some false) else (if bt125.2 = true then (if a2 ≥ 48 then (if a2 ≤ 57 then (if (wrap32 (Int.tdiv bt125.1 10)) = a0 then (some (a0 != 0)) else (some false)) else (some false)) else (some false)) else (some true)))) else (some false))) else (some false)) else (some false)) else (some false))) else (none))))) else (none)))) else (none)))) = some true := H
      have A9 := Aside0.mk A90
      clear A90
      replace H := Option.bind_eq_some_iff.mp H
      obtain ⟨⟨t113, t114⟩, A100, H⟩ := H
      replace H : ((word_Text.f a0).bind fun t115 => (if 1 + t115.size ≤ 9223372036854775807 then ((word_Parse.f ((⟨#[48]⟩ : ByteArray) ++ t115)).bind fun bt116 => ((word_Text.f a0).bind fun t118 => (if 1 + t118.size ≤ 9223372036854775807 then ((word_Parse.f ((⟨#[43]⟩ : ByteArray) ++ t118)).bind fun bt119 => ((word_Text.f a0).bind fun t121 => ((some (([a2] : List Int) : List Int)).bind fun y122 => (if t121.size + (strOfNums y122).size ≤ 9223372036854775807 then ((word_Parse.f (t121 ++ (strOfNums y122))).bind fun bt125 => (if t109 = true then (if t112 = true then (if t111 = a0 then (if t114 = true then ((word_Text.f t113).bind fun t127 => (if t127.toList = (a1.extract 0 ((ji5) : Int).toNat).toList then (if bt116.2 = true then (some false) else (if bt119.2 = true then (some false) else (if bt125.2 = true then (if a2 ≥ 48 then (if a2 ≤ 57 then (if (wrap32 (Int.tdiv bt125.1 10)) = a0 then (some (a0 != 0)) else (some false)) else (some false)) else (some false)) else (some true)))) else (some false))) else (if t113 = 0 then (if bt116.2 = true then (some false) else (if bt119.2 = true then (some false) else (if bt125.2 = true then (if a2 ≥ 48 then (if a2 ≤ 57 then (if (wrap32 (Int.tdiv bt125.1 10)) = a0 then (some (a0 != 0)) else (some false)) else (some false)) else (some false)) else (some true)))) else (some false))) else (some false)) else (some false)) else (some false))) else (none))))) else (none)))) else (none))) = some true := H
      have A10 := Aside0.mk A100
      clear A100
      replace H := Option.bind_eq_some_iff.mp H
      obtain ⟨t115, A110, H⟩ := H
      replace H : (if 1 + t115.size ≤ 9223372036854775807 then ((word_Parse.f ((⟨#[48]⟩ : ByteArray) ++ t115)).bind fun bt116 => ((word_Text.f a0).bind fun t118 => (if 1 + t118.size ≤ 9223372036854775807 then ((word_Parse.f ((⟨#[43]⟩ : ByteArray) ++ t118)).bind fun bt119 => ((word_Text.f a0).bind fun t121 => ((some (([a2] : List Int) : List Int)).bind fun y122 => (if t121.size + (strOfNums y122).size ≤ 9223372036854775807 then ((word_Parse.f (t121 ++ (strOfNums y122))).bind fun bt125 => (if t109 = true then (if t112 = true then (if t111 = a0 then (if t114 = true then ((word_Text.f t113).bind fun t127 => (if t127.toList = (a1.extract 0 ((ji5) : Int).toNat).toList then (if bt116.2 = true then (some false) else (if bt119.2 = true then (some false) else (if bt125.2 = true then (if a2 ≥ 48 then (if a2 ≤ 57 then (if (wrap32 (Int.tdiv bt125.1 10)) = a0 then (some (a0 != 0)) else (some false)) else (some false)) else (some false)) else (some true)))) else (some false))) else (if t113 = 0 then (if bt116.2 = true then (some false) else (if bt119.2 = true then (some false) else (if bt125.2 = true then (if a2 ≥ 48 then (if a2 ≤ 57 then (if (wrap32 (Int.tdiv bt125.1 10)) = a0 then (some (a0 != 0)) else (some false)) else (some false)) else (some false)) else (some true)))) else (some false))) else (some false)) else (some false)) else (some false))) else (none))))) else (none)))) else (none)) = some true := H
      obtain rfl : t110 = t115 := Option.some.inj (A8.out.symm.trans A110)
      have A11 := Aside0.mk A110
      clear A110
      by_cases c12 : 1 + t110.size ≤ 9223372036854775807
      · rw [if_pos c12] at H
        have c12b0 := eq_true c12
        have c12b1 : decide (1 + t110.size ≤ 9223372036854775807) = true := decide_eq_true c12
        try have c12b2 : (9223372036854775807 < 1 + t110.size) = False := eq_false (Nat.not_lt.2 c12)
        replace H := Option.bind_eq_some_iff.mp H
        obtain ⟨⟨t116, t117⟩, A130, H⟩ := H
        replace H : ((word_Text.f a0).bind fun t118 => (if 1 + t118.size ≤ 9223372036854775807 then ((word_Parse.f ((⟨#[43]⟩ : ByteArray) ++ t118)).bind fun bt119 => ((word_Text.f a0).bind fun t121 => ((some (([a2] : List Int) : List Int)).bind fun y122 => (if t121.size + (strOfNums y122).size ≤ 9223372036854775807 then ((word_Parse.f (t121 ++ (strOfNums y122))).bind fun bt125 => (if t109 = true then (if t112 = true then (if t111 = a0 then (if t114 = true then ((word_Text.f t113).bind fun t127 => (if t127.toList = (a1.extract 0 ((ji5) : Int).toNat).toList then (if t117 = true then (some false) else (if bt119.2 = true then (some false) else (if bt125.2 = true then (if a2 ≥ 48 then (if a2 ≤ 57 then (if (wrap32 (Int.tdiv bt125.1 10)) = a0 then (some (a0 != 0)) else (some false)) else (some false)) else (some false)) else (some true)))) else (some false))) else (if t113 = 0 then (if t117 = true then (some false) else (if bt119.2 = true then (some false) else (if bt125.2 = true then (if a2 ≥ 48 then (if a2 ≤ 57 then (if (wrap32 (Int.tdiv bt125.1 10)) = a0 then (some (a0 != 0)) else (some false)) else (some false)) else (some false)) else (some true)))) else (some false))) else (some false)) else (some false)) else (some false))) else (none))))) else (none))) = some true := H
        have A13 := Aside0.mk A130
        clear A130
        replace H := Option.bind_eq_some_iff.mp H
        obtain ⟨t118, A140, H⟩ := H
        replace H : (if 1 + t118.size ≤ 9223372036854775807 then ((word_Parse.f ((⟨#[43]⟩ : ByteArray) ++ t118)).bind fun bt119 => ((word_Text.f a0).bind fun t121 => ((some (([a2] : List Int) : List Int)).bind fun y122 => (if t121.size + (strOfNums y122).size ≤ 9223372036854775807 then ((word_Parse.f (t121 ++ (strOfNums y122))).bind fun bt125 => (if t109 = true then (if t112 = true then (if t111 = a0 then (if t114 = true then ((word_Text.f t113).bind fun t127 => (if t127.toList = (a1.extract 0 ((ji5) : Int).toNat).toList then (if t117 = true then (some false) else (if bt119.2 = true then (some false) else (if bt125.2 = true then (if a2 ≥ 48 then (if a2 ≤ 57 then (if (wrap32 (Int.tdiv bt125.1 10)) = a0 then (some (a0 != 0)) else (some false)) else (some false)) else (some false)) else (some true)))) else (some false))) else (if t113 = 0 then (if t117 = true then (some false) else (if bt119.2 = true then (some false) else (if bt125.2 = true then (if a2 ≥ 48 then (if a2 ≤ 57 then (if (wrap32 (Int.tdiv bt125.1 10)) = a0 then (some (a0 != 0)) else (some false)) else (some false)) else (some false)) else (some true)))) else (some false))) else (some false)) else (some false)) else (some false))) else (none))))) else (none)) = some true := H
        obtain rfl : t110 = t118 := Option.some.inj (A8.out.symm.trans A140)
        have A14 := Aside0.mk A140
        clear A140
        by_cases c15 : 1 + t110.size ≤ 9223372036854775807
        · rw [if_pos c15] at H
          have c15b0 := eq_true c15
          have c15b1 : decide (1 + t110.size ≤ 9223372036854775807) = true := decide_eq_true c15
          try have c15b2 : (9223372036854775807 < 1 + t110.size) = False := eq_false (Nat.not_lt.2 c15)
          replace H := Option.bind_eq_some_iff.mp H
          obtain ⟨⟨t119, t120⟩, A160, H⟩ := H
          replace H : ((word_Text.f a0).bind fun t121 => ((some (([a2] : List Int) : List Int)).bind fun y122 => (if t121.size + (strOfNums y122).size ≤ 9223372036854775807 then ((word_Parse.f (t121 ++ (strOfNums y122))).bind fun bt125 => (if t109 = true then (if t112 = true then (if t111 = a0 then (if t114 = true then ((word_Text.f t113).bind fun t127 => (if t127.toList = (a1.extract 0 ((ji5) : Int).toNat).toList then (if t117 = true then (some false) else (if t120 = true then (some false) else (if bt125.2 = true then (if a2 ≥ 48 then (if a2 ≤ 57 then (if (wrap32 (Int.tdiv bt125.1 10)) = a0 then (some (a0 != 0)) else (some false)) else (some false)) else (some false)) else (some true)))) else (some false))) else (if t113 = 0 then (if t117 = true then (some false) else (if t120 = true then (some false) else (if bt125.2 = true then (if a2 ≥ 48 then (if a2 ≤ 57 then (if (wrap32 (Int.tdiv bt125.1 10)) = a0 then (some (a0 != 0)) else (some false)) else (some false)) else (some false)) else (some true)))) else (some false))) else (some false)) else (some false)) else (some false))) else (none)))) = some true := H
          have A16 := Aside0.mk A160
          clear A160
          replace H := Option.bind_eq_some_iff.mp H
          obtain ⟨t121, A170, H⟩ := H
          replace H : ((some (([a2] : List Int) : List Int)).bind fun y122 => (if t121.size + (strOfNums y122).size ≤ 9223372036854775807 then ((word_Parse.f (t121 ++ (strOfNums y122))).bind fun bt125 => (if t109 = true then (if t112 = true then (if t111 = a0 then (if t114 = true then ((word_Text.f t113).bind fun t127 => (if t127.toList = (a1.extract 0 ((ji5) : Int).toNat).toList then (if t117 = true then (some false) else (if t120 = true then (some false) else (if bt125.2 = true then (if a2 ≥ 48 then (if a2 ≤ 57 then (if (wrap32 (Int.tdiv bt125.1 10)) = a0 then (some (a0 != 0)) else (some false)) else (some false)) else (some false)) else (some true)))) else (some false))) else (if t113 = 0 then (if t117 = true then (some false) else (if t120 = true then (some false) else (if bt125.2 = true then (if a2 ≥ 48 then (if a2 ≤ 57 then (if (wrap32 (Int.tdiv bt125.1 10)) = a0 then (some (a0 != 0)) else (some false)) else (some false)) else (some false)) else (some true)))) else (some false))) else (some false)) else (some false)) else (some false))) else (none))) = some true := H
          obtain rfl : t110 = t121 := Option.some.inj (A8.out.symm.trans A170)
          have A17 := Aside0.mk A170
          clear A170
          obtain ⟨y122, hy122⟩ : ∃ y_ : List Int, y_ = (([a2] : List Int)) := ⟨_, rfl⟩
          replace H : (if t110.size + (strOfNums y122).size ≤ 9223372036854775807 then ((word_Parse.f (t110 ++ (strOfNums y122))).bind fun bt125 => (if t109 = true then (if t112 = true then (if t111 = a0 then (if t114 = true then ((word_Text.f t113).bind fun t127 => (if t127.toList = (a1.extract 0 ((ji5) : Int).toNat).toList then (if t117 = true then (some false) else (if t120 = true then (some false) else (if bt125.2 = true then (if a2 ≥ 48 then (if a2 ≤ 57 then (if (wrap32 (Int.tdiv bt125.1 10)) = a0 then (some (a0 != 0)) else (some false)) else (some false)) else (some false)) else (some true)))) else (some false))) else (if t113 = 0 then (if t117 = true then (some false) else (if t120 = true then (some false) else (if bt125.2 = true then (if a2 ≥ 48 then (if a2 ≤ 57 then (if (wrap32 (Int.tdiv bt125.1 10)) = a0 then (some (a0 != 0)) else (some false)) else (some false)) else (some false)) else (some true)))) else (some false))) else (some false)) else (some false)) else (some false))) else (none)) = some true := by first | (rw [hy122]; with_reducible exact H) | (have H2_ := (Option.bind_some _ _).symm.trans H; rw [hy122]; with_reducible exact H2_) | (have H2_ := (Option.bind_some _ _).symm.trans H; with_reducible exact H2_) | with_reducible exact H | (rw [hy122]; exact H) | exact H
          have Ny122 := Aside0.mk hy122
          clear hy122
          by_cases c18 : t110.size + (strOfNums y122).size ≤ 9223372036854775807
          · rw [if_pos c18] at H
            have c18b0 := eq_true c18
            have c18b1 : decide (t110.size + (strOfNums y122).size ≤ 9223372036854775807) = true := decide_eq_true c18
            try have c18b2 : (9223372036854775807 < t110.size + (strOfNums y122).size) = False := eq_false (Nat.not_lt.2 c18)
            replace H := Option.bind_eq_some_iff.mp H
            obtain ⟨⟨t125, t126⟩, A190, H⟩ := H
            replace H : (if t109 = true then (if t112 = true then (if t111 = a0 then (if t114 = true then ((word_Text.f t113).bind fun t127 => (if t127.toList = (a1.extract 0 ((ji5) : Int).toNat).toList then (if t117 = true then (some false) else (if t120 = true then (some false) else (if t126 = true then (if a2 ≥ 48 then (if a2 ≤ 57 then (if (wrap32 (Int.tdiv t125 10)) = a0 then (some (a0 != 0)) else (some false)) else (some false)) else (some false)) else (some true)))) else (some false))) else (if t113 = 0 then (if t117 = true then (some false) else (if t120 = true then (some false) else (if t126 = true then (if a2 ≥ 48 then (if a2 ≤ 57 then (if (wrap32 (Int.tdiv t125 10)) = a0 then (some (a0 != 0)) else (some false)) else (some false)) else (some false)) else (some true)))) else (some false))) else (some false)) else (some false)) else (some false)) = some true := H
            have A19 := Aside0.mk A190
            clear A190
            by_cases c20 : t109 = true
            · subst c20
              have H1 : (if t112 = true then (if t111 = a0 then (if t114 = true then ((word_Text.f t113).bind fun t127 => (if t127.toList = (a1.extract 0 ((ji5) : Int).toNat).toList then (if t117 = true then (some false) else (if t120 = true then (some false) else (if t126 = true then (if a2 ≥ 48 then (if a2 ≤ 57 then (if (wrap32 (Int.tdiv t125 10)) = a0 then (some (a0 != 0)) else (some false)) else (some false)) else (some false)) else (some true)))) else (some false))) else (if t113 = 0 then (if t117 = true then (some false) else (if t120 = true then (some false) else (if t126 = true then (if a2 ≥ 48 then (if a2 ≤ 57 then (if (wrap32 (Int.tdiv t125 10)) = a0 then (some (a0 != 0)) else (some false)) else (some false)) else (some false)) else (some true)))) else (some false))) else (some false)) else (some false)) = some true := by rw [if_pos rfl] at H; first | done | exact H
              clear H
              have H := H1
              clear H1
              by_cases c21 : t112 = true
              · subst c21
                have H1 : (if t111 = a0 then (if t114 = true then ((word_Text.f t113).bind fun t127 => (if t127.toList = (a1.extract 0 ((ji5) : Int).toNat).toList then (if t117 = true then (some false) else (if t120 = true then (some false) else (if t126 = true then (if a2 ≥ 48 then (if a2 ≤ 57 then (if (wrap32 (Int.tdiv t125 10)) = a0 then (some (a0 != 0)) else (some false)) else (some false)) else (some false)) else (some true)))) else (some false))) else (if t113 = 0 then (if t117 = true then (some false) else (if t120 = true then (some false) else (if t126 = true then (if a2 ≥ 48 then (if a2 ≤ 57 then (if (wrap32 (Int.tdiv t125 10)) = a0 then (some (a0 != 0)) else (some false)) else (some false)) else (some false)) else (some true)))) else (some false))) else (some false)) = some true := by rw [if_pos rfl] at H; first | done | exact H
                clear H
                have H := H1
                clear H1
                by_cases c22 : t111 = a0
                · rw [if_pos c22] at H
                  have c22b0 : (t111 == a0) = true := beq_iff_eq.mpr c22
                  have c22b1 : (t111 != a0) = false := bne_eq_false_iff_eq.mpr c22
                  clear c22
                  by_cases c23 : t114 = true
                  · subst c23
                    have H1 : ((word_Text.f t113).bind fun t127 => (if t127.toList = (a1.extract 0 ((ji5) : Int).toNat).toList then (if t117 = true then (some false) else (if t120 = true then (some false) else (if t126 = true then (if a2 ≥ 48 then (if a2 ≤ 57 then (if (wrap32 (Int.tdiv t125 10)) = a0 then (some (a0 != 0)) else (some false)) else (some false)) else (some false)) else (some true)))) else (some false))) = some true := by rw [if_pos rfl] at H; first | done | exact H
                    clear H
                    have H := H1
                    clear H1
                    replace H := Option.bind_eq_some_iff.mp H
                    obtain ⟨t127, A240, H⟩ := H
                    replace H : (if t127.toList = (a1.extract 0 ((ji5) : Int).toNat).toList then (if t117 = true then (some false) else (if t120 = true then (some false) else (if t126 = true then (if a2 ≥ 48 then (if a2 ≤ 57 then (if (wrap32 (Int.tdiv t125 10)) = a0 then (some (a0 != 0)) else (some false)) else (some false)) else (some false)) else (some true)))) else (some false)) = some true := H
                    have A24 := Aside0.mk A240
                    clear A240
                    by_cases c25 : t127.toList = (a1.extract 0 ((ji5) : Int).toNat).toList
                    · rw [if_pos c25] at H
                      have c25b0 : (t127.toList == (a1.extract 0 ((ji5) : Int).toNat).toList) = true := beq_iff_eq.mpr c25
                      have c25b1 : (t127.toList != (a1.extract 0 ((ji5) : Int).toNat).toList) = false := bne_eq_false_iff_eq.mpr c25
                      clear c25
                      by_cases c26 : t117 = true
                      · subst c26
                        have H1 : (some false) = some true := by rw [if_pos rfl] at H; first | done | exact H
                        clear H
                        have H := H1
                        clear H1
                        cases H
                      · replace c26 := Bool.eq_false_iff.mpr c26
                        subst c26
                        have H1 : (if t120 = true then (some false) else (if t126 = true then (if a2 ≥ 48 then (if a2 ≤ 57 then (if (wrap32 (Int.tdiv t125 10)) = a0 then (some (a0 != 0)) else (some false)) else (some false)) else (some false)) else (some true))) = some true := by rw [if_neg (show ¬ (false = true) by decide)] at H; first | done | exact H
                        clear H
                        have H := H1
                        clear H1
                        by_cases c43 : t120 = true
                        · subst c43
                          have H1 : (some false) = some true := by rw [if_pos rfl] at H; first | done | exact H
                          clear H
                          have H := H1
                          clear H1
                          cases H
                        · replace c43 := Bool.eq_false_iff.mpr c43
                          subst c43
                          have H1 : (if t126 = true then (if a2 ≥ 48 then (if a2 ≤ 57 then (if (wrap32 (Int.tdiv t125 10)) = a0 then (some (a0 != 0)) else (some false)) else (some false)) else (some false)) else (some true)) = some true := by rw [if_neg (show ¬ (false = true) by decide)] at H; first | done | exact H
                          clear H
                          have H := H1
                          clear H1
                          by_cases c60 : t126 = true
                          · subst c60
                            have H1 : (if a2 ≥ 48 then (if a2 ≤ 57 then (if (wrap32 (Int.tdiv t125 10)) = a0 then (some (a0 != 0)) else (some false)) else (some false)) else (some false)) = some true := by rw [if_pos rfl] at H; first | done | exact H
                            clear H
                            have H := H1
                            clear H1
                            by_cases c61 : a2 ≥ 48
                            · rw [if_pos c61] at H
                              have c61b0 : decide (48 ≤ a2) = true := decide_eq_true c61
                              clear c61
                              by_cases c62 : a2 ≤ 57
                              · rw [if_pos c62] at H
                                have c62b0 : decide (a2 ≤ 57) = true := decide_eq_true c62
                                clear c62
                                by_cases c63 : (wrap32 (Int.tdiv t125 10)) = a0
                                · rw [if_pos c63] at H
                                  have c63b0 : ((wrap32 (Int.tdiv t125 10)) == a0) = true := beq_iff_eq.mpr c63
                                  have c63b1 : ((wrap32 (Int.tdiv t125 10)) != a0) = false := bne_eq_false_iff_eq.mpr c63
                                  clear c63
                                  first
                                    | (cases H; done)
                                    | (have HR_ := Option.some.inj H
                                       go_enter Tryd.func3, Tryd.ntmps3
                                       try go_wp2_with (first | ((with_reducible refine gate_callee (f := 5) rfl ?_); refine goesL_ (some 19) rfl rfl Tryd.func5 (by kernel_rfl) rfl #[] rfl (by (try simp only [List.map_toArray, List.map_cons, List.map_nil]); first | done | rfl | (simp only [List.length_drop, List.length_take]; rfl)) ?_; (with_reducible refine (jacquardlaw01_shown.calls  true _ A4.out).mono ?_); rintro e w64 ⟨rfl, hb⟩; refine ⟨_, rfl, ?_⟩; have n0_ := Aside0.mk (below_step (by repeat (first | (with_reducible first | exact HB.out | apply below_alloc | apply pw_below_drewN | apply below_drew1) | exact HB.out)) hb); clear HB; have HB := n0_; clear n0_; (try clear hb); (try clear hb2); (try clear hk); (try clear hi)) | ((with_reducible refine gate_callee (f := 7) rfl ?_); refine goesL_ (some 27) rfl rfl Tryd.func7 (by kernel_rfl) rfl #[.int .i32 a0] rfl (by (try simp only [List.map_toArray, List.map_cons, List.map_nil]); first | done | rfl | (simp only [List.length_drop, List.length_take]; rfl)) ?_; (with_reducible refine (word_Text.calls a0 t110 _ ?_ A8.out).mono ?_); exact ⟨HG.out.below (by repeat (first | (with_reducible first | exact HB.out | apply below_alloc | apply pw_below_drewN | apply below_drew1) | exact HB.out))⟩; rintro e w65 ⟨rfl, hb⟩; refine ⟨_, rfl, ?_⟩; have n0_ := Aside0.mk (below_step (by repeat (first | (with_reducible first | exact HB.out | apply below_alloc | apply pw_below_drewN | apply below_drew1) | exact HB.out)) hb); clear HB; have HB := n0_; clear n0_; (try clear hb); (try clear hb2); (try clear hk); (try clear hi)) | ((with_reducible refine gate_callee (f := 6) rfl ?_); refine goesL_ (some 28) rfl rfl Tryd.func6 (by kernel_rfl) rfl #[.string t110] rfl (by (try simp only [List.map_toArray, List.map_cons, List.map_nil]); first | done | rfl | (simp only [List.length_drop, List.length_take]; rfl)) ?_; (with_reducible refine (word_Parse.calls t110 t111 true _ ?_ A9.out).mono ?_); exact ⟨HG.out.below (by repeat (first | (with_reducible first | exact HB.out | apply below_alloc | apply pw_below_drewN | apply below_drew1) | exact HB.out))⟩; rintro e w66 ⟨rfl, hb⟩; refine ⟨_, rfl, ?_⟩; have n0_ := Aside0.mk (below_step (by repeat (first | (with_reducible first | exact HB.out | apply below_alloc | apply pw_below_drewN | apply below_drew1) | exact HB.out)) hb); clear HB; have HB := n0_; clear n0_; (try clear hb); (try clear hb2); (try clear hk); (try clear hi)) | ((with_reducible refine gate_callee (f := 6) rfl ?_); refine goesL_ (some 33) rfl rfl Tryd.func6 (by kernel_rfl) rfl #[.string (a1.extract 0 ((ji5) : Int).toNat)] rfl (by (try simp only [List.map_toArray, List.map_cons, List.map_nil]); first | done | (simp only [hji5]; rfl) | rfl | (simp only [List.length_drop, List.length_take]; rfl)) ?_; (with_reducible refine (word_Parse.calls (a1.extract 0 ((ji5) : Int).toNat) t113 true _ ?_ A10.out).mono ?_); exact ⟨HG.out.below (by repeat (first | (with_reducible first | exact HB.out | apply below_alloc | apply pw_below_drewN | apply below_drew1) | exact HB.out))⟩; rintro e w67 ⟨rfl, hb⟩; refine ⟨_, rfl, ?_⟩; have n0_ := Aside0.mk (below_step (by repeat (first | (with_reducible first | exact HB.out | apply below_alloc | apply pw_below_drewN | apply below_drew1) | exact HB.out)) hb); clear HB; have HB := n0_; clear n0_; (try clear hb); (try clear hb2); (try clear hk); (try clear hi)) | ((with_reducible refine gate_callee (f := 7) rfl ?_); refine goesL_ (some 38) rfl rfl Tryd.func7 (by kernel_rfl) rfl #[.int .i32 a0] rfl (by (try simp only [List.map_toArray, List.map_cons, List.map_nil]); first | done | rfl | (simp only [List.length_drop, List.length_take]; rfl)) ?_; (with_reducible refine (word_Text.calls a0 t110 _ ?_ A11.out).mono ?_); exact ⟨HG.out.below (by repeat (first | (with_reducible first | exact HB.out | apply below_alloc | apply pw_below_drewN | apply below_drew1) | exact HB.out))⟩; rintro e w68 ⟨rfl, hb⟩; refine ⟨_, rfl, ?_⟩; have n0_ := Aside0.mk (below_step (by repeat (first | (with_reducible first | exact HB.out | apply below_alloc | apply pw_below_drewN | apply below_drew1) | exact HB.out)) hb); clear HB; have HB := n0_; clear n0_; (try clear hb); (try clear hb2); (try clear hk); (try clear hi)) | ((with_reducible refine gate_callee (f := 6) rfl ?_); refine goesL_ (some 40) rfl rfl Tryd.func6 (by kernel_rfl) rfl #[.string ((⟨#[48]⟩ : ByteArray) ++ t110)] rfl (by (try simp only [List.map_toArray, List.map_cons, List.map_nil]); first | done | rfl | (simp only [List.length_drop, List.length_take]; rfl)) ?_; (with_reducible refine (word_Parse.calls ((⟨#[48]⟩ : ByteArray) ++ t110) t116 false _ ?_ A13.out).mono ?_); exact ⟨HG.out.below (by repeat (first | (with_reducible first | exact HB.out | apply below_alloc | apply pw_below_drewN | apply below_drew1) | exact HB.out))⟩; rintro e w69 ⟨rfl, hb⟩; refine ⟨_, rfl, ?_⟩; have n0_ := Aside0.mk (below_step (by repeat (first | (with_reducible first | exact HB.out | apply below_alloc | apply pw_below_drewN | apply below_drew1) | exact HB.out)) hb); clear HB; have HB := n0_; clear n0_; (try clear hb); (try clear hb2); (try clear hk); (try clear hi)) | ((with_reducible refine gate_callee (f := 7) rfl ?_); refine goesL_ (some 45) rfl rfl Tryd.func7 (by kernel_rfl) rfl #[.int .i32 a0] rfl (by (try simp only [List.map_toArray, List.map_cons, List.map_nil]); first | done | rfl | (simp only [List.length_drop, List.length_take]; rfl)) ?_; (with_reducible refine (word_Text.calls a0 t110 _ ?_ A14.out).mono ?_); exact ⟨HG.out.below (by repeat (first | (with_reducible first | exact HB.out | apply below_alloc | apply pw_below_drewN | apply below_drew1) | exact HB.out))⟩; rintro e w70 ⟨rfl, hb⟩; refine ⟨_, rfl, ?_⟩; have n0_ := Aside0.mk (below_step (by repeat (first | (with_reducible first | exact HB.out | apply below_alloc | apply pw_below_drewN | apply below_drew1) | exact HB.out)) hb); clear HB; have HB := n0_; clear n0_; (try clear hb); (try clear hb2); (try clear hk); (try clear hi)) | ((with_reducible refine gate_callee (f := 6) rfl ?_); refine goesL_ (some 47) rfl rfl Tryd.func6 (by kernel_rfl) rfl #[.string ((⟨#[43]⟩ : ByteArray) ++ t110)] rfl (by (try simp only [List.map_toArray, List.map_cons, List.map_nil]); first | done | rfl | (simp only [List.length_drop, List.length_take]; rfl)) ?_; (with_reducible refine (word_Parse.calls ((⟨#[43]⟩ : ByteArray) ++ t110) t119 false _ ?_ A16.out).mono ?_); exact ⟨HG.out.below (by repeat (first | (with_reducible first | exact HB.out | apply below_alloc | apply pw_below_drewN | apply below_drew1) | exact HB.out))⟩; rintro e w71 ⟨rfl, hb⟩; refine ⟨_, rfl, ?_⟩; have n0_ := Aside0.mk (below_step (by repeat (first | (with_reducible first | exact HB.out | apply below_alloc | apply pw_below_drewN | apply below_drew1) | exact HB.out)) hb); clear HB; have HB := n0_; clear n0_; (try clear hb); (try clear hb2); (try clear hk); (try clear hi)))
                                       have n0_ := Aside0.mk (below_drew1 HB.out)
                                       clear HB
                                       have HB := n0_
                                       clear n0_
                                       refine start_ (n := 12) (S := fun w' => True) (ds := []) #[false, false, false, false, false, false, false, false, false, false, false, false] (by kernel_rfl) rfl rfl trivial (fun hHeld => ?_); refine with_tabW jacquardlaw01_WordTexts.tab7 jacquardlaw01_WordTexts.bits7 (fun HT_ HW_ => ?_)
                                       generalize w71.drew = w72 at HB hHeld ⊢
                                       refine pure_ (i := 0) (N := some 51) (v := ?_) (a' := ?_) #[true, false, false, false, false, false, false, false, false, false, false, false] rfl rfl (any_of HT_.out (by kernel_rfl)) (fun _ _ _ h => h) (Or.inl ⟨by rfl, ?_⟩) ?_ ?_
                                       rotate_left
                                       · intro w'
                                         go_simp
                                         with_reducible rfl
                                       rotate_left
                                       · simp only [Act.put, List.setIfInBounds_toArray, List.set_cons_zero, List.set_cons_succ, i64_w, i32_w]
                                         rfl
                                       refine pure_ (i := 2) (N := some 53) (v := ?_) (a' := ?_) #[true, false, true, false, false, false, false, false, false, false, false, false] rfl rfl (any_of HT_.out (by kernel_rfl)) (fun _ _ _ h => h) (Or.inl ⟨by rfl, ?_⟩) ?_ ?_
                                       rotate_left
                                       · intro w'
                                         go_simp
                                         with_reducible rfl
                                       rotate_left
                                       · simp only [Act.put, List.setIfInBounds_toArray, List.set_cons_zero, List.set_cons_succ, i64_w, i32_w]
                                         rfl
                                       refine join_ (σ := Value) 7 #[true, true, true, true, true, false, false, false, false, false, false, false] (fun s_ => [(52, .string t110), (54, s_), (55, .string (strOfNums y122))]) (fun s_ w' => (Kd.R (Kd.int .u8) 5 w' w.heap.size (fun _ => True) s_ y122) ∧ (Below w.heap.size w w')) ?_ ?_
                                       rotate_left
                                       · intro hCont
                                         refine two_ (i := 1) (j := 3) (Ni := some 52) (Nj := some 54) #[true, true, true, false, false, false, false, false, false, false, false, false] #[true, false, true, true, false, false, false, false, false, false, false, false] rfl rfl rfl rfl (two_of HT_.out (by kernel_rfl)) (by decide) (by decide) (fun K hK => ?_) (fun K hK => ?_)
                                         · skip
                                           refine goes_ Tryd.func7 (by kernel_rfl) rfl #[.int .i32 a0] (by rfl) rfl rfl (by (try simp only [List.map_toArray, List.map_cons, List.map_nil]); first | done | rfl | (simp only [List.length_drop, List.length_take]; rfl)) ?_
                                           with_reducible refine (word_Text.calls a0 t110 _ ?_ A17.out).mono ?_
                                           exact ⟨HG.out.below (by repeat (first | (with_reducible first | exact HB.out | apply below_alloc | apply pw_below_drewN | apply below_drew1) | exact HB.out))⟩
                                           rintro e w73 ⟨rfl, hb⟩
                                           refine ⟨_, rfl, ?_⟩
                                           have n0_ := Aside0.mk (below_step (by repeat (first | (with_reducible first | exact HB.out | apply below_alloc | apply pw_below_drewN | apply below_drew1) | exact HB.out)) hb)
                                           clear HB
                                           have HB := n0_
                                           clear n0_
                                           (try clear hb)
                                           (try clear hb2)
                                           (try clear hk)
                                           (try clear hi)
                                           refine hK.out _ _ trivial (fun hHeld => ?_)
                                           clear hK K
                                           refine norm_ (a' := ?_) ?_ ?_
                                           rotate_left
                                           · show Act.put _ (some 52) _ = _
                                             simp only [Act.put, List.setIfInBounds_toArray, List.set_cons_zero, List.set_cons_succ, i64_w, i32_w]
                                             rfl
                                           refine one_ (i := 3) (N := some 54) #[true, true, true, true, false, false, false, false, false, false, false, false] rfl rfl (one_of HT_.out (by kernel_rfl)) (by decide) (fun K hK => ?_)
                                           refine Kd.R_lit_step (Kd.int .u8) _ 5 ?hg (N := 54) ?hd (xs := ([a2] : List Int)) (inner := [.int .u8 a2]) (ok := fun _ => True) (okp := fun _ => True) ?hr ?hp (fun _ hk => hk) trivial (Below.refl _ _) (Nat.le_refl _) (by simp) ?_; (case hd => rfl); (case hg => rfl); (case hr => first | (go_simp; done) | (go_simp; rfl)); (case hp => exact (Reps.one (show Kd.M (Kd.int .u8) _ _ _ a2 [.int .u8 a2] from rfl) (Reps.none _ _)))
                                           intro v123 w74 ho75 hb hg_ hnew_
                                           clear hg_ hnew_
                                           (first | rw [← Ny122.out] at ho75 | (simp only [Int.reduceToNat] at ho75; rw [← Ny122.out] at ho75))
                                           have n0_ := Aside0.mk (Kd.R_lower ho75 (below_size (by repeat (first | (with_reducible first | exact HB.out | apply below_alloc | apply pw_below_drewN | apply below_drew1) | exact HB.out))))
                                           have n1_ := Aside0.mk (below_step (by repeat (first | (with_reducible first | exact HB.out | apply below_alloc | apply pw_below_drewN | apply below_drew1) | exact HB.out)) hb)
                                           clear HB
                                           have HO124 := n0_
                                           have HB := n1_
                                           clear n0_ n1_
                                           clear hb ho75
                                           refine hK.out _ _ trivial (fun hHeld => ?_)
                                           clear hK K
                                           refine norm_ (a' := ?_) ?_ ?_
                                           rotate_left
                                           · show Act.put _ (some 54) _ = _
                                             simp only [Act.put, List.setIfInBounds_toArray, List.set_cons_zero, List.set_cons_succ, i64_w, i32_w]
                                             rfl
                                           refine one_ (i := 4) (N := some 55) #[true, true, true, true, true, false, false, false, false, false, false, false] rfl rfl (one_of HT_.out (by kernel_rfl)) (by decide) (fun K hK => ?_)
                                           have hcv76 := own_string (P := Tryd.prog) Tryd.underlying26 Tryd.underlying5 Tryd.underlying9 (Kd.own_of_R HO124.out)
                                           refine value_ (w1 := ?_) (v := ?_) (by rfl) rfl ?_ ?_
                                           rotate_left 2
                                           · go_simp
                                             constructor
                                             · rfl
                                             · rfl
                                           clear hcv76
                                           refine hK.out _ _ trivial (fun hHeld => ?_)
                                           clear hK K
                                           refine norm_ (a' := ?_) ?_ ?_
                                           rotate_left
                                           · show Act.put _ (some 55) _ = _
                                             simp only [Act.put, List.setIfInBounds_toArray, List.set_cons_zero, List.set_cons_succ, i64_w, i32_w]
                                             rfl
                                           exact norm_ (by simp only [putAll, Act.put, List.setIfInBounds_toArray, List.set_cons_zero, List.set_cons_succ]) (hCont (v123) _ ⟨(by (with_reducible repeat (first | apply Kd.R_alloc | apply Kd.R_drewN | apply Kd.R_drew)); exact HO124.out), (by repeat (first | (with_reducible first | exact HB.out | apply below_alloc | apply pw_below_drewN | apply below_drew1) | exact HB.out))⟩)
                                         · skip
                                           refine Kd.R_lit_step (Kd.int .u8) _ 5 ?hg (N := 54) ?hd (xs := ([a2] : List Int)) (inner := [.int .u8 a2]) (ok := fun _ => True) (okp := fun _ => True) ?hr ?hp (fun _ hk => hk) trivial (Below.refl _ _) (Nat.le_refl _) (by simp) ?_; (case hd => rfl); (case hg => rfl); (case hr => first | (go_simp; done) | (go_simp; rfl)); (case hp => exact (Reps.one (show Kd.M (Kd.int .u8) _ _ _ a2 [.int .u8 a2] from rfl) (Reps.none _ _)))
                                           intro v123 w73 ho74 hb hg_ hnew_
                                           clear hg_ hnew_
                                           (first | rw [← Ny122.out] at ho74 | (simp only [Int.reduceToNat] at ho74; rw [← Ny122.out] at ho74))
                                           have n0_ := Aside0.mk (Kd.R_lower ho74 (below_size (by repeat (first | (with_reducible first | exact HB.out | apply below_alloc | apply pw_below_drewN | apply below_drew1) | exact HB.out))))
                                           have n1_ := Aside0.mk (below_step (by repeat (first | (with_reducible first | exact HB.out | apply below_alloc | apply pw_below_drewN | apply below_drew1) | exact HB.out)) hb)
                                           clear HB
                                           have HO124 := n0_
                                           have HB := n1_
                                           clear n0_ n1_
                                           clear hb ho74
                                           refine hK.out _ _ trivial (fun hHeld => ?_)
                                           clear hK K
                                           refine norm_ (a' := ?_) ?_ ?_
                                           rotate_left
                                           · show Act.put _ (some 54) _ = _
                                             simp only [Act.put, List.setIfInBounds_toArray, List.set_cons_zero, List.set_cons_succ, i64_w, i32_w]
                                             rfl
                                           refine two_ (i := 1) (j := 4) (Ni := some 52) (Nj := some 55) #[true, true, true, true, false, false, false, false, false, false, false, false] #[true, false, true, true, true, false, false, false, false, false, false, false] rfl rfl rfl rfl (two_of HT_.out (by kernel_rfl)) (by decide) (by decide) (fun K hK => ?_) (fun K hK => ?_)
                                           · skip
                                             refine goes_ Tryd.func7 (by kernel_rfl) rfl #[.int .i32 a0] (by rfl) rfl rfl (by (try simp only [List.map_toArray, List.map_cons, List.map_nil]); first | done | rfl | (simp only [List.length_drop, List.length_take]; rfl)) ?_
                                             with_reducible refine (word_Text.calls a0 t110 _ ?_ A17.out).mono ?_
                                             exact ⟨HG.out.below (by repeat (first | (with_reducible first | exact HB.out | apply below_alloc | apply pw_below_drewN | apply below_drew1) | exact HB.out))⟩
                                             rintro e w75 ⟨rfl, hb⟩
                                             refine ⟨_, rfl, ?_⟩
                                             have n0_ := Aside0.mk (Kd.R_below (by (with_reducible repeat (first | apply Kd.R_alloc | apply Kd.R_drewN | apply Kd.R_drew)); exact HO124.out) hb)
                                             have n1_ := Aside0.mk (below_step (by repeat (first | (with_reducible first | exact HB.out | apply below_alloc | apply pw_below_drewN | apply below_drew1) | exact HB.out)) hb)
                                             clear HO124
                                             clear HB
                                             have HO124 := n0_
                                             have HB := n1_
                                             clear n0_ n1_
                                             (try clear hb)
                                             (try clear hb2)
                                             (try clear hk)
                                             (try clear hi)
                                             refine hK.out _ _ trivial (fun hHeld => ?_)
                                             clear hK K
                                             refine norm_ (a' := ?_) ?_ ?_
                                             rotate_left
                                             · show Act.put _ (some 52) _ = _
                                               simp only [Act.put, List.setIfInBounds_toArray, List.set_cons_zero, List.set_cons_succ, i64_w, i32_w]
                                               rfl
                                             refine one_ (i := 4) (N := some 55) #[true, true, true, true, true, false, false, false, false, false, false, false] rfl rfl (one_of HT_.out (by kernel_rfl)) (by decide) (fun K hK => ?_)
                                             have hcv76 := own_string (P := Tryd.prog) Tryd.underlying26 Tryd.underlying5 Tryd.underlying9 (Kd.own_of_R HO124.out)
                                             refine value_ (w1 := ?_) (v := ?_) (by rfl) rfl ?_ ?_
                                             rotate_left 2
                                             · go_simp
                                               constructor
                                               · rfl
                                               · rfl
                                             clear hcv76
                                             refine hK.out _ _ trivial (fun hHeld => ?_)
                                             clear hK K
                                             refine norm_ (a' := ?_) ?_ ?_
                                             rotate_left
                                             · show Act.put _ (some 55) _ = _
                                               simp only [Act.put, List.setIfInBounds_toArray, List.set_cons_zero, List.set_cons_succ, i64_w, i32_w]
                                               rfl
                                             exact norm_ (by simp only [putAll, Act.put, List.setIfInBounds_toArray, List.set_cons_zero, List.set_cons_succ]) (hCont (v123) _ ⟨(by (with_reducible repeat (first | apply Kd.R_alloc | apply Kd.R_drewN | apply Kd.R_drew)); exact HO124.out), (by repeat (first | (with_reducible first | exact HB.out | apply below_alloc | apply pw_below_drewN | apply below_drew1) | exact HB.out))⟩)
                                           · skip
                                             have hcv75 := own_string (P := Tryd.prog) Tryd.underlying26 Tryd.underlying5 Tryd.underlying9 (Kd.own_of_R HO124.out)
                                             refine value_ (w1 := ?_) (v := ?_) (by rfl) rfl ?_ ?_
                                             rotate_left 2
                                             · go_simp
                                               constructor
                                               · rfl
                                               · rfl
                                             clear hcv75
                                             refine hK.out _ _ trivial (fun hHeld => ?_)
                                             clear hK K
                                             refine norm_ (a' := ?_) ?_ ?_
                                             rotate_left
                                             · show Act.put _ (some 55) _ = _
                                               simp only [Act.put, List.setIfInBounds_toArray, List.set_cons_zero, List.set_cons_succ, i64_w, i32_w]
                                               rfl
                                             refine one_ (i := 1) (N := some 52) #[true, true, true, true, true, false, false, false, false, false, false, false] rfl rfl (one_of HT_.out (by kernel_rfl)) (by decide) (fun K hK => ?_)
                                             refine goes_ Tryd.func7 (by kernel_rfl) rfl #[.int .i32 a0] (by rfl) rfl rfl (by (try simp only [List.map_toArray, List.map_cons, List.map_nil]); first | done | rfl | (simp only [List.length_drop, List.length_take]; rfl)) ?_
                                             with_reducible refine (word_Text.calls a0 t110 _ ?_ A17.out).mono ?_
                                             exact ⟨HG.out.below (by repeat (first | (with_reducible first | exact HB.out | apply below_alloc | apply pw_below_drewN | apply below_drew1) | exact HB.out))⟩
                                             rintro e w76 ⟨rfl, hb⟩
                                             refine ⟨_, rfl, ?_⟩
                                             have n0_ := Aside0.mk (Kd.R_below (by (with_reducible repeat (first | apply Kd.R_alloc | apply Kd.R_drewN | apply Kd.R_drew)); exact HO124.out) hb)
                                             have n1_ := Aside0.mk (below_step (by repeat (first | (with_reducible first | exact HB.out | apply below_alloc | apply pw_below_drewN | apply below_drew1) | exact HB.out)) hb)
                                             clear HO124
                                             clear HB
                                             have HO124 := n0_
                                             have HB := n1_
                                             clear n0_ n1_
                                             (try clear hb)
                                             (try clear hb2)
                                             (try clear hk)
                                             (try clear hi)
                                             refine hK.out _ _ trivial (fun hHeld => ?_)
                                             clear hK K
                                             refine norm_ (a' := ?_) ?_ ?_
                                             rotate_left
                                             · show Act.put _ (some 52) _ = _
                                               simp only [Act.put, List.setIfInBounds_toArray, List.set_cons_zero, List.set_cons_succ, i64_w, i32_w]
                                               rfl
                                             exact norm_ (by simp only [putAll, Act.put, List.setIfInBounds_toArray, List.set_cons_zero, List.set_cons_succ]) (hCont (v123) _ ⟨(by (with_reducible repeat (first | apply Kd.R_alloc | apply Kd.R_drewN | apply Kd.R_drew)); exact HO124.out), (by repeat (first | (with_reducible first | exact HB.out | apply below_alloc | apply pw_below_drewN | apply below_drew1) | exact HB.out))⟩)
                                       rintro v123 w77 ⟨h0_, h1_⟩
                                       have n0_ : Aside0 (Kd.R (Kd.int .u8) 5 w77 w.heap.size (fun _ => True) v123 y122) := ⟨h0_⟩
                                       have n1_ : Aside0 (Below w.heap.size w w77) := ⟨h1_⟩
                                       clear HB
                                       clear h0_ h1_
                                       have HO124 := n0_
                                       have HB := n1_
                                       clear n0_ n1_
                                       have hHeld := trivial
                                       refine norm_ (a' := ?_) ?_ ?_
                                       rotate_left
                                       · simp only [putAll, Act.put, List.setIfInBounds_toArray, List.set_cons_zero, List.set_cons_succ]
                                         rfl
                                       refine pure_ (i := 5) (N := some 56) (v := ?_) (a' := ?_) #[true, true, true, true, true, true, false, false, false, false, false, false] rfl rfl (any_of HT_.out (by kernel_rfl)) (fun _ _ _ h => h) (Or.inl ⟨by rfl, ?_⟩) ?_ ?_
                                       rotate_left
                                       · intro w'
                                         go_simp
                                         with_reducible rfl
                                       rotate_left
                                       · simp only [Act.put, List.setIfInBounds_toArray, List.set_cons_zero, List.set_cons_succ, i64_w, i32_w]
                                         rfl
                                       refine one_ (i := 6) (N := some 57) #[true, true, true, true, true, true, true, false, false, false, false, false] rfl rfl (one_of HT_.out (by kernel_rfl)) (by decide) (fun K hK => ?_)
                                       refine goes_ Tryd.func6 (by kernel_rfl) rfl #[.string (t110 ++ (strOfNums y122))] (by rfl) rfl rfl (by (try simp only [List.map_toArray, List.map_cons, List.map_nil]); first | done | rfl | (simp only [List.length_drop, List.length_take]; rfl)) ?_
                                       with_reducible refine (word_Parse.calls (t110 ++ (strOfNums y122)) t125 true _ ?_ A19.out).mono ?_
                                       exact ⟨HG.out.below (by repeat (first | (with_reducible first | exact HB.out | apply below_alloc | apply pw_below_drewN | apply below_drew1) | exact HB.out))⟩
                                       rintro e w78 ⟨rfl, hb⟩
                                       refine ⟨_, rfl, ?_⟩
                                       have n0_ := Aside0.mk (Kd.R_below (by (with_reducible repeat (first | apply Kd.R_alloc | apply Kd.R_drewN | apply Kd.R_drew)); exact HO124.out) hb)
                                       have n1_ := Aside0.mk (below_step (by repeat (first | (with_reducible first | exact HB.out | apply below_alloc | apply pw_below_drewN | apply below_drew1) | exact HB.out)) hb)
                                       clear HO124
                                       clear HB
                                       have HO124 := n0_
                                       have HB := n1_
                                       clear n0_ n1_
                                       (try clear hb)
                                       (try clear hb2)
                                       (try clear hk)
                                       (try clear hi)
                                       refine hK.out _ _ trivial (fun hHeld => ?_)
                                       clear hK K
                                       refine norm_ (a' := ?_) ?_ ?_
                                       rotate_left
                                       · show Act.put _ (some 57) _ = _
                                         simp only [Act.put, List.setIfInBounds_toArray, List.set_cons_zero, List.set_cons_succ, i64_w, i32_w]
                                         rfl
                                       refine pure_ (i := 7) (N := some 50) (v := ?_) (a' := ?_) #[true, true, true, true, true, true, true, true, false, false, false, false] rfl rfl (any_of HT_.out (by kernel_rfl)) (fun _ _ _ h => h) (Or.inl ⟨by rfl, ?_⟩) ?_ ?_
                                       rotate_left
                                       · intro w'
                                         go_simp
                                         with_reducible rfl
                                       rotate_left
                                       · simp only [Act.put, List.setIfInBounds_toArray, List.set_cons_zero, List.set_cons_succ, i64_w, i32_w]
                                         rfl
                                       refine pure_ (i := 8) (N := some 58) (v := ?_) (a' := ?_) #[true, true, true, true, true, true, true, true, true, false, false, false] rfl rfl (any_of HT_.out (by kernel_rfl)) (fun _ _ _ h => h) (Or.inl ⟨by rfl, ?_⟩) ?_ ?_
                                       rotate_left
                                       · intro w'
                                         go_simp
                                         with_reducible rfl
                                       rotate_left
                                       · simp only [Act.put, List.setIfInBounds_toArray, List.set_cons_zero, List.set_cons_succ, i64_w, i32_w]
                                         rfl
                                       refine pure_ (i := 9) (N := some 59) (v := ?_) (a' := ?_) #[true, true, true, true, true, true, true, true, true, true, false, false] rfl rfl (any_of HT_.out (by kernel_rfl)) (fun _ _ _ h => h) (Or.inl ⟨by rfl, ?_⟩) ?_ ?_
                                       rotate_left
                                       · intro w'
                                         go_simp
                                         with_reducible rfl
                                       rotate_left
                                       · simp only [Act.put, List.setIfInBounds_toArray, List.set_cons_zero, List.set_cons_succ, i64_w, i32_w]
                                         rfl
                                       refine pure_ (i := 10) (N := some 17) (v := ?_) (a' := ?_) #[true, true, true, true, true, true, true, true, true, true, true, false] rfl rfl (any_of HT_.out (by kernel_rfl)) (fun _ _ _ h => h) (Or.inl ⟨by rfl, ?_⟩) ?_ ?_
                                       rotate_left
                                       · intro w'
                                         go_simp
                                         with_reducible rfl
                                       rotate_left
                                       · simp only [Act.put, List.setIfInBounds_toArray, List.set_cons_zero, List.set_cons_succ, i64_w, i32_w]
                                         rfl
                                       refine pure_ (i := 11) (N := some 18) (v := ?_) (a' := ?_) #[true, true, true, true, true, true, true, true, true, true, true, true] rfl rfl (any_of HT_.out (by kernel_rfl)) (fun _ _ _ h => h) (Or.inl ⟨by rfl, ?_⟩) ?_ ?_
                                       rotate_left
                                       · intro w'
                                         go_simp
                                         with_reducible rfl
                                       rotate_left
                                       · simp only [Act.put, List.setIfInBounds_toArray, List.set_cons_zero, List.set_cons_succ, i64_w, i32_w]
                                         rfl
                                       refine done_ (done_of HT_.out (by kernel_rfl)) ?_
                                       try go_wp2_with (first | (go_at_call 7; (with_reducible refine (word_Text.calls t113 t127 _ ?_ A24.out).mono ?_); exact ⟨HG.out.below (by repeat (first | (with_reducible first | exact HB.out | apply below_alloc | apply pw_below_drewN | apply below_drew1) | exact HB.out))⟩; rintro e w79 ⟨rfl, hb⟩; have n0_ := Aside0.mk (Kd.R_below (by (with_reducible repeat (first | apply Kd.R_alloc | apply Kd.R_drewN | apply Kd.R_drew)); exact HO124.out) hb); have n1_ := Aside0.mk (below_step (by repeat (first | (with_reducible first | exact HB.out | apply below_alloc | apply pw_below_drewN | apply below_drew1) | exact HB.out)) hb); clear HO124; clear HB; have HO124 := n0_; have HB := n1_; clear n0_ n1_; (try clear hb); (try clear hb2); (try clear hk); (try clear hi)))
                                       go_ret
                                       exact ⟨by first | rfl | (simp [errW_none, errW_some] <;> rfl) | (simp only [← hji5]; first | rfl | (simp [errW_none, errW_some] <;> rfl)) | (simp [*, errW_none, errW_some] <;> rfl), by repeat (first | (with_reducible first | exact HB.out | apply below_alloc | apply pw_below_drewN | apply below_drew1) | exact HB.out)⟩)
                                · rw [if_neg c63] at H
                                  cases H
                              · rw [if_neg c62] at H
                                cases H
                            · rw [if_neg c61] at H
                              cases H
                          · replace c60 := Bool.eq_false_iff.mpr c60
                            subst c60
                            have H1 : (some true) = some true := by rw [if_neg (show ¬ (false = true) by decide)] at H; first | done | exact H
                            clear H
                            have H := H1
                            clear H1
                            clear H
                            go_enter Tryd.func3, Tryd.ntmps3
                            try go_wp2_with (first | ((with_reducible refine gate_callee (f := 5) rfl ?_); refine goesL_ (some 19) rfl rfl Tryd.func5 (by kernel_rfl) rfl #[] rfl (by (try simp only [List.map_toArray, List.map_cons, List.map_nil]); first | done | rfl | (simp only [List.length_drop, List.length_take]; rfl)) ?_; (with_reducible refine (jacquardlaw01_shown.calls  true _ A4.out).mono ?_); rintro e w128 ⟨rfl, hb⟩; refine ⟨_, rfl, ?_⟩; have n0_ := Aside0.mk (below_step (by repeat (first | (with_reducible first | exact HB.out | apply below_alloc | apply pw_below_drewN | apply below_drew1) | exact HB.out)) hb); clear HB; have HB := n0_; clear n0_; (try clear hb); (try clear hb2); (try clear hk); (try clear hi)) | ((with_reducible refine gate_callee (f := 7) rfl ?_); refine goesL_ (some 27) rfl rfl Tryd.func7 (by kernel_rfl) rfl #[.int .i32 a0] rfl (by (try simp only [List.map_toArray, List.map_cons, List.map_nil]); first | done | rfl | (simp only [List.length_drop, List.length_take]; rfl)) ?_; (with_reducible refine (word_Text.calls a0 t110 _ ?_ A8.out).mono ?_); exact ⟨HG.out.below (by repeat (first | (with_reducible first | exact HB.out | apply below_alloc | apply pw_below_drewN | apply below_drew1) | exact HB.out))⟩; rintro e w129 ⟨rfl, hb⟩; refine ⟨_, rfl, ?_⟩; have n0_ := Aside0.mk (below_step (by repeat (first | (with_reducible first | exact HB.out | apply below_alloc | apply pw_below_drewN | apply below_drew1) | exact HB.out)) hb); clear HB; have HB := n0_; clear n0_; (try clear hb); (try clear hb2); (try clear hk); (try clear hi)) | ((with_reducible refine gate_callee (f := 6) rfl ?_); refine goesL_ (some 28) rfl rfl Tryd.func6 (by kernel_rfl) rfl #[.string t110] rfl (by (try simp only [List.map_toArray, List.map_cons, List.map_nil]); first | done | rfl | (simp only [List.length_drop, List.length_take]; rfl)) ?_; (with_reducible refine (word_Parse.calls t110 t111 true _ ?_ A9.out).mono ?_); exact ⟨HG.out.below (by repeat (first | (with_reducible first | exact HB.out | apply below_alloc | apply pw_below_drewN | apply below_drew1) | exact HB.out))⟩; rintro e w130 ⟨rfl, hb⟩; refine ⟨_, rfl, ?_⟩; have n0_ := Aside0.mk (below_step (by repeat (first | (with_reducible first | exact HB.out | apply below_alloc | apply pw_below_drewN | apply below_drew1) | exact HB.out)) hb); clear HB; have HB := n0_; clear n0_; (try clear hb); (try clear hb2); (try clear hk); (try clear hi)) | ((with_reducible refine gate_callee (f := 6) rfl ?_); refine goesL_ (some 33) rfl rfl Tryd.func6 (by kernel_rfl) rfl #[.string (a1.extract 0 ((ji5) : Int).toNat)] rfl (by (try simp only [List.map_toArray, List.map_cons, List.map_nil]); first | done | (simp only [hji5]; rfl) | rfl | (simp only [List.length_drop, List.length_take]; rfl)) ?_; (with_reducible refine (word_Parse.calls (a1.extract 0 ((ji5) : Int).toNat) t113 true _ ?_ A10.out).mono ?_); exact ⟨HG.out.below (by repeat (first | (with_reducible first | exact HB.out | apply below_alloc | apply pw_below_drewN | apply below_drew1) | exact HB.out))⟩; rintro e w131 ⟨rfl, hb⟩; refine ⟨_, rfl, ?_⟩; have n0_ := Aside0.mk (below_step (by repeat (first | (with_reducible first | exact HB.out | apply below_alloc | apply pw_below_drewN | apply below_drew1) | exact HB.out)) hb); clear HB; have HB := n0_; clear n0_; (try clear hb); (try clear hb2); (try clear hk); (try clear hi)) | ((with_reducible refine gate_callee (f := 7) rfl ?_); refine goesL_ (some 38) rfl rfl Tryd.func7 (by kernel_rfl) rfl #[.int .i32 a0] rfl (by (try simp only [List.map_toArray, List.map_cons, List.map_nil]); first | done | rfl | (simp only [List.length_drop, List.length_take]; rfl)) ?_; (with_reducible refine (word_Text.calls a0 t110 _ ?_ A11.out).mono ?_); exact ⟨HG.out.below (by repeat (first | (with_reducible first | exact HB.out | apply below_alloc | apply pw_below_drewN | apply below_drew1) | exact HB.out))⟩; rintro e w132 ⟨rfl, hb⟩; refine ⟨_, rfl, ?_⟩; have n0_ := Aside0.mk (below_step (by repeat (first | (with_reducible first | exact HB.out | apply below_alloc | apply pw_below_drewN | apply below_drew1) | exact HB.out)) hb); clear HB; have HB := n0_; clear n0_; (try clear hb); (try clear hb2); (try clear hk); (try clear hi)) | ((with_reducible refine gate_callee (f := 6) rfl ?_); refine goesL_ (some 40) rfl rfl Tryd.func6 (by kernel_rfl) rfl #[.string ((⟨#[48]⟩ : ByteArray) ++ t110)] rfl (by (try simp only [List.map_toArray, List.map_cons, List.map_nil]); first | done | rfl | (simp only [List.length_drop, List.length_take]; rfl)) ?_; (with_reducible refine (word_Parse.calls ((⟨#[48]⟩ : ByteArray) ++ t110) t116 false _ ?_ A13.out).mono ?_); exact ⟨HG.out.below (by repeat (first | (with_reducible first | exact HB.out | apply below_alloc | apply pw_below_drewN | apply below_drew1) | exact HB.out))⟩; rintro e w133 ⟨rfl, hb⟩; refine ⟨_, rfl, ?_⟩; have n0_ := Aside0.mk (below_step (by repeat (first | (with_reducible first | exact HB.out | apply below_alloc | apply pw_below_drewN | apply below_drew1) | exact HB.out)) hb); clear HB; have HB := n0_; clear n0_; (try clear hb); (try clear hb2); (try clear hk); (try clear hi)) | ((with_reducible refine gate_callee (f := 7) rfl ?_); refine goesL_ (some 45) rfl rfl Tryd.func7 (by kernel_rfl) rfl #[.int .i32 a0] rfl (by (try simp only [List.map_toArray, List.map_cons, List.map_nil]); first | done | rfl | (simp only [List.length_drop, List.length_take]; rfl)) ?_; (with_reducible refine (word_Text.calls a0 t110 _ ?_ A14.out).mono ?_); exact ⟨HG.out.below (by repeat (first | (with_reducible first | exact HB.out | apply below_alloc | apply pw_below_drewN | apply below_drew1) | exact HB.out))⟩; rintro e w134 ⟨rfl, hb⟩; refine ⟨_, rfl, ?_⟩; have n0_ := Aside0.mk (below_step (by repeat (first | (with_reducible first | exact HB.out | apply below_alloc | apply pw_below_drewN | apply below_drew1) | exact HB.out)) hb); clear HB; have HB := n0_; clear n0_; (try clear hb); (try clear hb2); (try clear hk); (try clear hi)) | ((with_reducible refine gate_callee (f := 6) rfl ?_); refine goesL_ (some 47) rfl rfl Tryd.func6 (by kernel_rfl) rfl #[.string ((⟨#[43]⟩ : ByteArray) ++ t110)] rfl (by (try simp only [List.map_toArray, List.map_cons, List.map_nil]); first | done | rfl | (simp only [List.length_drop, List.length_take]; rfl)) ?_; (with_reducible refine (word_Parse.calls ((⟨#[43]⟩ : ByteArray) ++ t110) t119 false _ ?_ A16.out).mono ?_); exact ⟨HG.out.below (by repeat (first | (with_reducible first | exact HB.out | apply below_alloc | apply pw_below_drewN | apply below_drew1) | exact HB.out))⟩; rintro e w135 ⟨rfl, hb⟩; refine ⟨_, rfl, ?_⟩; have n0_ := Aside0.mk (below_step (by repeat (first | (with_reducible first | exact HB.out | apply below_alloc | apply pw_below_drewN | apply below_drew1) | exact HB.out)) hb); clear HB; have HB := n0_; clear n0_; (try clear hb); (try clear hb2); (try clear hk); (try clear hi)))
                            have n0_ := Aside0.mk (below_drew1 HB.out)
                            clear HB
                            have HB := n0_
                            clear n0_
                            refine start_ (n := 12) (S := fun w' => True) (ds := []) #[false, false, false, false, false, false, false, false, false, false, false, false] (by kernel_rfl) rfl rfl trivial (fun hHeld => ?_); refine with_tabW jacquardlaw01_WordTexts.tab7 jacquardlaw01_WordTexts.bits7 (fun HT_ HW_ => ?_)
                            generalize w135.drew = w136 at HB hHeld ⊢
                            refine pure_ (i := 0) (N := some 51) (v := ?_) (a' := ?_) #[true, false, false, false, false, false, false, false, false, false, false, false] rfl rfl (any_of HT_.out (by kernel_rfl)) (fun _ _ _ h => h) (Or.inl ⟨by rfl, ?_⟩) ?_ ?_
                            rotate_left
                            · intro w'
                              go_simp
                              with_reducible rfl
                            rotate_left
                            · simp only [Act.put, List.setIfInBounds_toArray, List.set_cons_zero, List.set_cons_succ, i64_w, i32_w]
                              rfl
                            refine pure_ (i := 2) (N := some 53) (v := ?_) (a' := ?_) #[true, false, true, false, false, false, false, false, false, false, false, false] rfl rfl (any_of HT_.out (by kernel_rfl)) (fun _ _ _ h => h) (Or.inl ⟨by rfl, ?_⟩) ?_ ?_
                            rotate_left
                            · intro w'
                              go_simp
                              with_reducible rfl
                            rotate_left
                            · simp only [Act.put, List.setIfInBounds_toArray, List.set_cons_zero, List.set_cons_succ, i64_w, i32_w]
                              rfl
                            refine join_ (σ := Value) 7 #[true, true, true, true, true, false, false, false, false, false, false, false] (fun s_ => [(52, .string t110), (54, s_), (55, .string (strOfNums y122))]) (fun s_ w' => (Kd.R (Kd.int .u8) 5 w' w.heap.size (fun _ => True) s_ y122) ∧ (Below w.heap.size w w')) ?_ ?_
                            rotate_left
                            · intro hCont
                              refine two_ (i := 1) (j := 3) (Ni := some 52) (Nj := some 54) #[true, true, true, false, false, false, false, false, false, false, false, false] #[true, false, true, true, false, false, false, false, false, false, false, false] rfl rfl rfl rfl (two_of HT_.out (by kernel_rfl)) (by decide) (by decide) (fun K hK => ?_) (fun K hK => ?_)
                              · skip
                                refine goes_ Tryd.func7 (by kernel_rfl) rfl #[.int .i32 a0] (by rfl) rfl rfl (by (try simp only [List.map_toArray, List.map_cons, List.map_nil]); first | done | rfl | (simp only [List.length_drop, List.length_take]; rfl)) ?_
                                with_reducible refine (word_Text.calls a0 t110 _ ?_ A17.out).mono ?_
                                exact ⟨HG.out.below (by repeat (first | (with_reducible first | exact HB.out | apply below_alloc | apply pw_below_drewN | apply below_drew1) | exact HB.out))⟩
                                rintro e w137 ⟨rfl, hb⟩
                                refine ⟨_, rfl, ?_⟩
                                have n0_ := Aside0.mk (below_step (by repeat (first | (with_reducible first | exact HB.out | apply below_alloc | apply pw_below_drewN | apply below_drew1) | exact HB.out)) hb)
                                clear HB
                                have HB := n0_
                                clear n0_
                                (try clear hb)
                                (try clear hb2)
                                (try clear hk)
                                (try clear hi)
                                refine hK.out _ _ trivial (fun hHeld => ?_)
                                clear hK K
                                refine norm_ (a' := ?_) ?_ ?_
                                rotate_left
                                · show Act.put _ (some 52) _ = _
                                  simp only [Act.put, List.setIfInBounds_toArray, List.set_cons_zero, List.set_cons_succ, i64_w, i32_w]
                                  rfl
                                refine one_ (i := 3) (N := some 54) #[true, true, true, true, false, false, false, false, false, false, false, false] rfl rfl (one_of HT_.out (by kernel_rfl)) (by decide) (fun K hK => ?_)
                                refine Kd.R_lit_step (Kd.int .u8) _ 5 ?hg (N := 54) ?hd (xs := ([a2] : List Int)) (inner := [.int .u8 a2]) (ok := fun _ => True) (okp := fun _ => True) ?hr ?hp (fun _ hk => hk) trivial (Below.refl _ _) (Nat.le_refl _) (by simp) ?_; (case hd => rfl); (case hg => rfl); (case hr => first | (go_simp; done) | (go_simp; rfl)); (case hp => exact (Reps.one (show Kd.M (Kd.int .u8) _ _ _ a2 [.int .u8 a2] from rfl) (Reps.none _ _)))
                                intro v123 w138 ho139 hb hg_ hnew_
                                clear hg_ hnew_
                                (first | rw [← Ny122.out] at ho139 | (simp only [Int.reduceToNat] at ho139; rw [← Ny122.out] at ho139))
                                have n0_ := Aside0.mk (Kd.R_lower ho139 (below_size (by repeat (first | (with_reducible first | exact HB.out | apply below_alloc | apply pw_below_drewN | apply below_drew1) | exact HB.out))))
                                have n1_ := Aside0.mk (below_step (by repeat (first | (with_reducible first | exact HB.out | apply below_alloc | apply pw_below_drewN | apply below_drew1) | exact HB.out)) hb)
                                clear HB
                                have HO124 := n0_
                                have HB := n1_
                                clear n0_ n1_
                                clear hb ho139
                                refine hK.out _ _ trivial (fun hHeld => ?_)
                                clear hK K
                                refine norm_ (a' := ?_) ?_ ?_
                                rotate_left
                                · show Act.put _ (some 54) _ = _
                                  simp only [Act.put, List.setIfInBounds_toArray, List.set_cons_zero, List.set_cons_succ, i64_w, i32_w]
                                  rfl
                                refine one_ (i := 4) (N := some 55) #[true, true, true, true, true, false, false, false, false, false, false, false] rfl rfl (one_of HT_.out (by kernel_rfl)) (by decide) (fun K hK => ?_)
                                have hcv140 := own_string (P := Tryd.prog) Tryd.underlying26 Tryd.underlying5 Tryd.underlying9 (Kd.own_of_R HO124.out)
                                refine value_ (w1 := ?_) (v := ?_) (by rfl) rfl ?_ ?_
                                rotate_left 2
                                · go_simp
                                  constructor
                                  · rfl
                                  · rfl
                                clear hcv140
                                refine hK.out _ _ trivial (fun hHeld => ?_)
                                clear hK K
                                refine norm_ (a' := ?_) ?_ ?_
                                rotate_left
                                · show Act.put _ (some 55) _ = _
                                  simp only [Act.put, List.setIfInBounds_toArray, List.set_cons_zero, List.set_cons_succ, i64_w, i32_w]
                                  rfl
                                exact norm_ (by simp only [putAll, Act.put, List.setIfInBounds_toArray, List.set_cons_zero, List.set_cons_succ]) (hCont (v123) _ ⟨(by (with_reducible repeat (first | apply Kd.R_alloc | apply Kd.R_drewN | apply Kd.R_drew)); exact HO124.out), (by repeat (first | (with_reducible first | exact HB.out | apply below_alloc | apply pw_below_drewN | apply below_drew1) | exact HB.out))⟩)
                              · skip
                                refine Kd.R_lit_step (Kd.int .u8) _ 5 ?hg (N := 54) ?hd (xs := ([a2] : List Int)) (inner := [.int .u8 a2]) (ok := fun _ => True) (okp := fun _ => True) ?hr ?hp (fun _ hk => hk) trivial (Below.refl _ _) (Nat.le_refl _) (by simp) ?_; (case hd => rfl); (case hg => rfl); (case hr => first | (go_simp; done) | (go_simp; rfl)); (case hp => exact (Reps.one (show Kd.M (Kd.int .u8) _ _ _ a2 [.int .u8 a2] from rfl) (Reps.none _ _)))
                                intro v123 w137 ho138 hb hg_ hnew_
                                clear hg_ hnew_
                                (first | rw [← Ny122.out] at ho138 | (simp only [Int.reduceToNat] at ho138; rw [← Ny122.out] at ho138))
                                have n0_ := Aside0.mk (Kd.R_lower ho138 (below_size (by repeat (first | (with_reducible first | exact HB.out | apply below_alloc | apply pw_below_drewN | apply below_drew1) | exact HB.out))))
                                have n1_ := Aside0.mk (below_step (by repeat (first | (with_reducible first | exact HB.out | apply below_alloc | apply pw_below_drewN | apply below_drew1) | exact HB.out)) hb)
                                clear HB
                                have HO124 := n0_
                                have HB := n1_
                                clear n0_ n1_
                                clear hb ho138
                                refine hK.out _ _ trivial (fun hHeld => ?_)
                                clear hK K
                                refine norm_ (a' := ?_) ?_ ?_
                                rotate_left
                                · show Act.put _ (some 54) _ = _
                                  simp only [Act.put, List.setIfInBounds_toArray, List.set_cons_zero, List.set_cons_succ, i64_w, i32_w]
                                  rfl
                                refine two_ (i := 1) (j := 4) (Ni := some 52) (Nj := some 55) #[true, true, true, true, false, false, false, false, false, false, false, false] #[true, false, true, true, true, false, false, false, false, false, false, false] rfl rfl rfl rfl (two_of HT_.out (by kernel_rfl)) (by decide) (by decide) (fun K hK => ?_) (fun K hK => ?_)
                                · skip
                                  refine goes_ Tryd.func7 (by kernel_rfl) rfl #[.int .i32 a0] (by rfl) rfl rfl (by (try simp only [List.map_toArray, List.map_cons, List.map_nil]); first | done | rfl | (simp only [List.length_drop, List.length_take]; rfl)) ?_
                                  with_reducible refine (word_Text.calls a0 t110 _ ?_ A17.out).mono ?_
                                  exact ⟨HG.out.below (by repeat (first | (with_reducible first | exact HB.out | apply below_alloc | apply pw_below_drewN | apply below_drew1) | exact HB.out))⟩
                                  rintro e w139 ⟨rfl, hb⟩
                                  refine ⟨_, rfl, ?_⟩
                                  have n0_ := Aside0.mk (Kd.R_below (by (with_reducible repeat (first | apply Kd.R_alloc | apply Kd.R_drewN | apply Kd.R_drew)); exact HO124.out) hb)
                                  have n1_ := Aside0.mk (below_step (by repeat (first | (with_reducible first | exact HB.out | apply below_alloc | apply pw_below_drewN | apply below_drew1) | exact HB.out)) hb)
                                  clear HO124
                                  clear HB
                                  have HO124 := n0_
                                  have HB := n1_
                                  clear n0_ n1_
                                  (try clear hb)
                                  (try clear hb2)
                                  (try clear hk)
                                  (try clear hi)
                                  refine hK.out _ _ trivial (fun hHeld => ?_)
                                  clear hK K
                                  refine norm_ (a' := ?_) ?_ ?_
                                  rotate_left
                                  · show Act.put _ (some 52) _ = _
                                    simp only [Act.put, List.setIfInBounds_toArray, List.set_cons_zero, List.set_cons_succ, i64_w, i32_w]
                                    rfl
                                  refine one_ (i := 4) (N := some 55) #[true, true, true, true, true, false, false, false, false, false, false, false] rfl rfl (one_of HT_.out (by kernel_rfl)) (by decide) (fun K hK => ?_)
                                  have hcv140 := own_string (P := Tryd.prog) Tryd.underlying26 Tryd.underlying5 Tryd.underlying9 (Kd.own_of_R HO124.out)
                                  refine value_ (w1 := ?_) (v := ?_) (by rfl) rfl ?_ ?_
                                  rotate_left 2
                                  · go_simp
                                    constructor
                                    · rfl
                                    · rfl
                                  clear hcv140
                                  refine hK.out _ _ trivial (fun hHeld => ?_)
                                  clear hK K
                                  refine norm_ (a' := ?_) ?_ ?_
                                  rotate_left
                                  · show Act.put _ (some 55) _ = _
                                    simp only [Act.put, List.setIfInBounds_toArray, List.set_cons_zero, List.set_cons_succ, i64_w, i32_w]
                                    rfl
                                  exact norm_ (by simp only [putAll, Act.put, List.setIfInBounds_toArray, List.set_cons_zero, List.set_cons_succ]) (hCont (v123) _ ⟨(by (with_reducible repeat (first | apply Kd.R_alloc | apply Kd.R_drewN | apply Kd.R_drew)); exact HO124.out), (by repeat (first | (with_reducible first | exact HB.out | apply below_alloc | apply pw_below_drewN | apply below_drew1) | exact HB.out))⟩)
                                · skip
                                  have hcv139 := own_string (P := Tryd.prog) Tryd.underlying26 Tryd.underlying5 Tryd.underlying9 (Kd.own_of_R HO124.out)
                                  refine value_ (w1 := ?_) (v := ?_) (by rfl) rfl ?_ ?_
                                  rotate_left 2
                                  · go_simp
                                    constructor
                                    · rfl
                                    · rfl
                                  clear hcv139
                                  refine hK.out _ _ trivial (fun hHeld => ?_)
                                  clear hK K
                                  refine norm_ (a' := ?_) ?_ ?_
                                  rotate_left
                                  · show Act.put _ (some 55) _ = _
                                    simp only [Act.put, List.setIfInBounds_toArray, List.set_cons_zero, List.set_cons_succ, i64_w, i32_w]
                                    rfl
                                  refine one_ (i := 1) (N := some 52) #[true, true, true, true, true, false, false, false, false, false, false, false] rfl rfl (one_of HT_.out (by kernel_rfl)) (by decide) (fun K hK => ?_)
                                  refine goes_ Tryd.func7 (by kernel_rfl) rfl #[.int .i32 a0] (by rfl) rfl rfl (by (try simp only [List.map_toArray, List.map_cons, List.map_nil]); first | done | rfl | (simp only [List.length_drop, List.length_take]; rfl)) ?_
                                  with_reducible refine (word_Text.calls a0 t110 _ ?_ A17.out).mono ?_
                                  exact ⟨HG.out.below (by repeat (first | (with_reducible first | exact HB.out | apply below_alloc | apply pw_below_drewN | apply below_drew1) | exact HB.out))⟩
                                  rintro e w140 ⟨rfl, hb⟩
                                  refine ⟨_, rfl, ?_⟩
                                  have n0_ := Aside0.mk (Kd.R_below (by (with_reducible repeat (first | apply Kd.R_alloc | apply Kd.R_drewN | apply Kd.R_drew)); exact HO124.out) hb)
                                  have n1_ := Aside0.mk (below_step (by repeat (first | (with_reducible first | exact HB.out | apply below_alloc | apply pw_below_drewN | apply below_drew1) | exact HB.out)) hb)
                                  clear HO124
                                  clear HB
                                  have HO124 := n0_
                                  have HB := n1_
                                  clear n0_ n1_
                                  (try clear hb)
                                  (try clear hb2)
                                  (try clear hk)
                                  (try clear hi)
                                  refine hK.out _ _ trivial (fun hHeld => ?_)
                                  clear hK K
                                  refine norm_ (a' := ?_) ?_ ?_
                                  rotate_left
                                  · show Act.put _ (some 52) _ = _
                                    simp only [Act.put, List.setIfInBounds_toArray, List.set_cons_zero, List.set_cons_succ, i64_w, i32_w]
                                    rfl
                                  exact norm_ (by simp only [putAll, Act.put, List.setIfInBounds_toArray, List.set_cons_zero, List.set_cons_succ]) (hCont (v123) _ ⟨(by (with_reducible repeat (first | apply Kd.R_alloc | apply Kd.R_drewN | apply Kd.R_drew)); exact HO124.out), (by repeat (first | (with_reducible first | exact HB.out | apply below_alloc | apply pw_below_drewN | apply below_drew1) | exact HB.out))⟩)
                            rintro v123 w141 ⟨h0_, h1_⟩
                            have n0_ : Aside0 (Kd.R (Kd.int .u8) 5 w141 w.heap.size (fun _ => True) v123 y122) := ⟨h0_⟩
                            have n1_ : Aside0 (Below w.heap.size w w141) := ⟨h1_⟩
                            clear HB
                            clear h0_ h1_
                            have HO124 := n0_
                            have HB := n1_
                            clear n0_ n1_
                            have hHeld := trivial
                            refine norm_ (a' := ?_) ?_ ?_
                            rotate_left
                            · simp only [putAll, Act.put, List.setIfInBounds_toArray, List.set_cons_zero, List.set_cons_succ]
                              rfl
                            refine pure_ (i := 5) (N := some 56) (v := ?_) (a' := ?_) #[true, true, true, true, true, true, false, false, false, false, false, false] rfl rfl (any_of HT_.out (by kernel_rfl)) (fun _ _ _ h => h) (Or.inl ⟨by rfl, ?_⟩) ?_ ?_
                            rotate_left
                            · intro w'
                              go_simp
                              with_reducible rfl
                            rotate_left
                            · simp only [Act.put, List.setIfInBounds_toArray, List.set_cons_zero, List.set_cons_succ, i64_w, i32_w]
                              rfl
                            refine one_ (i := 6) (N := some 57) #[true, true, true, true, true, true, true, false, false, false, false, false] rfl rfl (one_of HT_.out (by kernel_rfl)) (by decide) (fun K hK => ?_)
                            refine goes_ Tryd.func6 (by kernel_rfl) rfl #[.string (t110 ++ (strOfNums y122))] (by rfl) rfl rfl (by (try simp only [List.map_toArray, List.map_cons, List.map_nil]); first | done | rfl | (simp only [List.length_drop, List.length_take]; rfl)) ?_
                            with_reducible refine (word_Parse.calls (t110 ++ (strOfNums y122)) t125 false _ ?_ A19.out).mono ?_
                            exact ⟨HG.out.below (by repeat (first | (with_reducible first | exact HB.out | apply below_alloc | apply pw_below_drewN | apply below_drew1) | exact HB.out))⟩
                            rintro e w142 ⟨rfl, hb⟩
                            refine ⟨_, rfl, ?_⟩
                            have n0_ := Aside0.mk (Kd.R_below (by (with_reducible repeat (first | apply Kd.R_alloc | apply Kd.R_drewN | apply Kd.R_drew)); exact HO124.out) hb)
                            have n1_ := Aside0.mk (below_step (by repeat (first | (with_reducible first | exact HB.out | apply below_alloc | apply pw_below_drewN | apply below_drew1) | exact HB.out)) hb)
                            clear HO124
                            clear HB
                            have HO124 := n0_
                            have HB := n1_
                            clear n0_ n1_
                            (try clear hb)
                            (try clear hb2)
                            (try clear hk)
                            (try clear hi)
                            refine hK.out _ _ trivial (fun hHeld => ?_)
                            clear hK K
                            refine norm_ (a' := ?_) ?_ ?_
                            rotate_left
                            · show Act.put _ (some 57) _ = _
                              simp only [Act.put, List.setIfInBounds_toArray, List.set_cons_zero, List.set_cons_succ, i64_w, i32_w]
                              rfl
                            refine pure_ (i := 7) (N := some 50) (v := ?_) (a' := ?_) #[true, true, true, true, true, true, true, true, false, false, false, false] rfl rfl (any_of HT_.out (by kernel_rfl)) (fun _ _ _ h => h) (Or.inl ⟨by rfl, ?_⟩) ?_ ?_
                            rotate_left
                            · intro w'
                              go_simp
                              with_reducible rfl
                            rotate_left
                            · simp only [Act.put, List.setIfInBounds_toArray, List.set_cons_zero, List.set_cons_succ, i64_w, i32_w]
                              rfl
                            refine pure_ (i := 8) (N := some 58) (v := ?_) (a' := ?_) #[true, true, true, true, true, true, true, true, true, false, false, false] rfl rfl (any_of HT_.out (by kernel_rfl)) (fun _ _ _ h => h) (Or.inl ⟨by rfl, ?_⟩) ?_ ?_
                            rotate_left
                            · intro w'
                              go_simp
                              with_reducible rfl
                            rotate_left
                            · simp only [Act.put, List.setIfInBounds_toArray, List.set_cons_zero, List.set_cons_succ, i64_w, i32_w]
                              rfl
                            refine pure_ (i := 9) (N := some 59) (v := ?_) (a' := ?_) #[true, true, true, true, true, true, true, true, true, true, false, false] rfl rfl (any_of HT_.out (by kernel_rfl)) (fun _ _ _ h => h) (Or.inl ⟨by rfl, ?_⟩) ?_ ?_
                            rotate_left
                            · intro w'
                              go_simp
                              with_reducible rfl
                            rotate_left
                            · simp only [Act.put, List.setIfInBounds_toArray, List.set_cons_zero, List.set_cons_succ, i64_w, i32_w]
                              rfl
                            refine pure_ (i := 10) (N := some 17) (v := ?_) (a' := ?_) #[true, true, true, true, true, true, true, true, true, true, true, false] rfl rfl (any_of HT_.out (by kernel_rfl)) (fun _ _ _ h => h) (Or.inl ⟨by rfl, ?_⟩) ?_ ?_
                            rotate_left
                            · intro w'
                              go_simp
                              with_reducible rfl
                            rotate_left
                            · simp only [Act.put, List.setIfInBounds_toArray, List.set_cons_zero, List.set_cons_succ, i64_w, i32_w]
                              rfl
                            refine pure_ (i := 11) (N := some 18) (v := ?_) (a' := ?_) #[true, true, true, true, true, true, true, true, true, true, true, true] rfl rfl (any_of HT_.out (by kernel_rfl)) (fun _ _ _ h => h) (Or.inl ⟨by rfl, ?_⟩) ?_ ?_
                            rotate_left
                            · intro w'
                              go_simp
                              with_reducible rfl
                            rotate_left
                            · simp only [Act.put, List.setIfInBounds_toArray, List.set_cons_zero, List.set_cons_succ, i64_w, i32_w]
                              rfl
                            refine done_ (done_of HT_.out (by kernel_rfl)) ?_
                            try go_wp2_with (first | (go_at_call 7; (with_reducible refine (word_Text.calls t113 t127 _ ?_ A24.out).mono ?_); exact ⟨HG.out.below (by repeat (first | (with_reducible first | exact HB.out | apply below_alloc | apply pw_below_drewN | apply below_drew1) | exact HB.out))⟩; rintro e w143 ⟨rfl, hb⟩; have n0_ := Aside0.mk (Kd.R_below (by (with_reducible repeat (first | apply Kd.R_alloc | apply Kd.R_drewN | apply Kd.R_drew)); exact HO124.out) hb); have n1_ := Aside0.mk (below_step (by repeat (first | (with_reducible first | exact HB.out | apply below_alloc | apply pw_below_drewN | apply below_drew1) | exact HB.out)) hb); clear HO124; clear HB; have HO124 := n0_; have HB := n1_; clear n0_ n1_; (try clear hb); (try clear hb2); (try clear hk); (try clear hi)))
                            go_ret
                            exact ⟨by first | rfl | (simp [errW_none, errW_some] <;> rfl) | (simp only [← hji5]; first | rfl | (simp [errW_none, errW_some] <;> rfl)) | (simp [*, errW_none, errW_some] <;> rfl), by repeat (first | (with_reducible first | exact HB.out | apply below_alloc | apply pw_below_drewN | apply below_drew1) | exact HB.out)⟩
                    · rw [if_neg c25] at H
                      cases H
                  · replace c23 := Bool.eq_false_iff.mpr c23
                    subst c23
                    have H1 : (if t113 = 0 then (if t117 = true then (some false) else (if t120 = true then (some false) else (if t126 = true then (if a2 ≥ 48 then (if a2 ≤ 57 then (if (wrap32 (Int.tdiv t125 10)) = a0 then (some (a0 != 0)) else (some false)) else (some false)) else (some false)) else (some true)))) else (some false)) = some true := by rw [if_neg (show ¬ (false = true) by decide)] at H; first | done | exact H
                    clear H
                    have H := H1
                    clear H1
                    by_cases c160 : t113 = 0
                    · rw [if_pos c160] at H
                      have c160b0 : (t113 == 0) = true := beq_iff_eq.mpr c160
                      have c160b1 : (t113 != 0) = false := bne_eq_false_iff_eq.mpr c160
                      clear c160
                      by_cases c161 : t117 = true
                      · subst c161
                        have H1 : (some false) = some true := by rw [if_pos rfl] at H; first | done | exact H
                        clear H
                        have H := H1
                        clear H1
                        cases H
                      · replace c161 := Bool.eq_false_iff.mpr c161
                        subst c161
                        have H1 : (if t120 = true then (some false) else (if t126 = true then (if a2 ≥ 48 then (if a2 ≤ 57 then (if (wrap32 (Int.tdiv t125 10)) = a0 then (some (a0 != 0)) else (some false)) else (some false)) else (some false)) else (some true))) = some true := by rw [if_neg (show ¬ (false = true) by decide)] at H; first | done | exact H
                        clear H
                        have H := H1
                        clear H1
                        by_cases c177 : t120 = true
                        · subst c177
                          have H1 : (some false) = some true := by rw [if_pos rfl] at H; first | done | exact H
                          clear H
                          have H := H1
                          clear H1
                          cases H
                        · replace c177 := Bool.eq_false_iff.mpr c177
                          subst c177
                          have H1 : (if t126 = true then (if a2 ≥ 48 then (if a2 ≤ 57 then (if (wrap32 (Int.tdiv t125 10)) = a0 then (some (a0 != 0)) else (some false)) else (some false)) else (some false)) else (some true)) = some true := by rw [if_neg (show ¬ (false = true) by decide)] at H; first | done | exact H
                          clear H
                          have H := H1
                          clear H1
                          by_cases c193 : t126 = true
                          · subst c193
                            have H1 : (if a2 ≥ 48 then (if a2 ≤ 57 then (if (wrap32 (Int.tdiv t125 10)) = a0 then (some (a0 != 0)) else (some false)) else (some false)) else (some false)) = some true := by rw [if_pos rfl] at H; first | done | exact H
                            clear H
                            have H := H1
                            clear H1
                            by_cases c194 : a2 ≥ 48
                            · rw [if_pos c194] at H
                              have c194b0 : decide (48 ≤ a2) = true := decide_eq_true c194
                              clear c194
                              by_cases c195 : a2 ≤ 57
                              · rw [if_pos c195] at H
                                have c195b0 : decide (a2 ≤ 57) = true := decide_eq_true c195
                                clear c195
                                by_cases c196 : (wrap32 (Int.tdiv t125 10)) = a0
                                · rw [if_pos c196] at H
                                  have c196b0 : ((wrap32 (Int.tdiv t125 10)) == a0) = true := beq_iff_eq.mpr c196
                                  have c196b1 : ((wrap32 (Int.tdiv t125 10)) != a0) = false := bne_eq_false_iff_eq.mpr c196
                                  clear c196
                                  first
                                    | (cases H; done)
                                    | (have HR_ := Option.some.inj H
                                       go_enter Tryd.func3, Tryd.ntmps3
                                       try go_wp2_with (first | ((with_reducible refine gate_callee (f := 5) rfl ?_); refine goesL_ (some 19) rfl rfl Tryd.func5 (by kernel_rfl) rfl #[] rfl (by (try simp only [List.map_toArray, List.map_cons, List.map_nil]); first | done | rfl | (simp only [List.length_drop, List.length_take]; rfl)) ?_; (with_reducible refine (jacquardlaw01_shown.calls  true _ A4.out).mono ?_); rintro e w197 ⟨rfl, hb⟩; refine ⟨_, rfl, ?_⟩; have n0_ := Aside0.mk (below_step (by repeat (first | (with_reducible first | exact HB.out | apply below_alloc | apply pw_below_drewN | apply below_drew1) | exact HB.out)) hb); clear HB; have HB := n0_; clear n0_; (try clear hb); (try clear hb2); (try clear hk); (try clear hi)) | ((with_reducible refine gate_callee (f := 7) rfl ?_); refine goesL_ (some 27) rfl rfl Tryd.func7 (by kernel_rfl) rfl #[.int .i32 a0] rfl (by (try simp only [List.map_toArray, List.map_cons, List.map_nil]); first | done | rfl | (simp only [List.length_drop, List.length_take]; rfl)) ?_; (with_reducible refine (word_Text.calls a0 t110 _ ?_ A8.out).mono ?_); exact ⟨HG.out.below (by repeat (first | (with_reducible first | exact HB.out | apply below_alloc | apply pw_below_drewN | apply below_drew1) | exact HB.out))⟩; rintro e w198 ⟨rfl, hb⟩; refine ⟨_, rfl, ?_⟩; have n0_ := Aside0.mk (below_step (by repeat (first | (with_reducible first | exact HB.out | apply below_alloc | apply pw_below_drewN | apply below_drew1) | exact HB.out)) hb); clear HB; have HB := n0_; clear n0_; (try clear hb); (try clear hb2); (try clear hk); (try clear hi)) | ((with_reducible refine gate_callee (f := 6) rfl ?_); refine goesL_ (some 28) rfl rfl Tryd.func6 (by kernel_rfl) rfl #[.string t110] rfl (by (try simp only [List.map_toArray, List.map_cons, List.map_nil]); first | done | rfl | (simp only [List.length_drop, List.length_take]; rfl)) ?_; (with_reducible refine (word_Parse.calls t110 t111 true _ ?_ A9.out).mono ?_); exact ⟨HG.out.below (by repeat (first | (with_reducible first | exact HB.out | apply below_alloc | apply pw_below_drewN | apply below_drew1) | exact HB.out))⟩; rintro e w199 ⟨rfl, hb⟩; refine ⟨_, rfl, ?_⟩; have n0_ := Aside0.mk (below_step (by repeat (first | (with_reducible first | exact HB.out | apply below_alloc | apply pw_below_drewN | apply below_drew1) | exact HB.out)) hb); clear HB; have HB := n0_; clear n0_; (try clear hb); (try clear hb2); (try clear hk); (try clear hi)) | ((with_reducible refine gate_callee (f := 6) rfl ?_); refine goesL_ (some 33) rfl rfl Tryd.func6 (by kernel_rfl) rfl #[.string (a1.extract 0 ((ji5) : Int).toNat)] rfl (by (try simp only [List.map_toArray, List.map_cons, List.map_nil]); first | done | (simp only [hji5]; rfl) | rfl | (simp only [List.length_drop, List.length_take]; rfl)) ?_; (with_reducible refine (word_Parse.calls (a1.extract 0 ((ji5) : Int).toNat) t113 false _ ?_ A10.out).mono ?_); exact ⟨HG.out.below (by repeat (first | (with_reducible first | exact HB.out | apply below_alloc | apply pw_below_drewN | apply below_drew1) | exact HB.out))⟩; rintro e w200 ⟨rfl, hb⟩; refine ⟨_, rfl, ?_⟩; have n0_ := Aside0.mk (below_step (by repeat (first | (with_reducible first | exact HB.out | apply below_alloc | apply pw_below_drewN | apply below_drew1) | exact HB.out)) hb); clear HB; have HB := n0_; clear n0_; (try clear hb); (try clear hb2); (try clear hk); (try clear hi)) | ((with_reducible refine gate_callee (f := 7) rfl ?_); refine goesL_ (some 38) rfl rfl Tryd.func7 (by kernel_rfl) rfl #[.int .i32 a0] rfl (by (try simp only [List.map_toArray, List.map_cons, List.map_nil]); first | done | rfl | (simp only [List.length_drop, List.length_take]; rfl)) ?_; (with_reducible refine (word_Text.calls a0 t110 _ ?_ A11.out).mono ?_); exact ⟨HG.out.below (by repeat (first | (with_reducible first | exact HB.out | apply below_alloc | apply pw_below_drewN | apply below_drew1) | exact HB.out))⟩; rintro e w201 ⟨rfl, hb⟩; refine ⟨_, rfl, ?_⟩; have n0_ := Aside0.mk (below_step (by repeat (first | (with_reducible first | exact HB.out | apply below_alloc | apply pw_below_drewN | apply below_drew1) | exact HB.out)) hb); clear HB; have HB := n0_; clear n0_; (try clear hb); (try clear hb2); (try clear hk); (try clear hi)) | ((with_reducible refine gate_callee (f := 6) rfl ?_); refine goesL_ (some 40) rfl rfl Tryd.func6 (by kernel_rfl) rfl #[.string ((⟨#[48]⟩ : ByteArray) ++ t110)] rfl (by (try simp only [List.map_toArray, List.map_cons, List.map_nil]); first | done | rfl | (simp only [List.length_drop, List.length_take]; rfl)) ?_; (with_reducible refine (word_Parse.calls ((⟨#[48]⟩ : ByteArray) ++ t110) t116 false _ ?_ A13.out).mono ?_); exact ⟨HG.out.below (by repeat (first | (with_reducible first | exact HB.out | apply below_alloc | apply pw_below_drewN | apply below_drew1) | exact HB.out))⟩; rintro e w202 ⟨rfl, hb⟩; refine ⟨_, rfl, ?_⟩; have n0_ := Aside0.mk (below_step (by repeat (first | (with_reducible first | exact HB.out | apply below_alloc | apply pw_below_drewN | apply below_drew1) | exact HB.out)) hb); clear HB; have HB := n0_; clear n0_; (try clear hb); (try clear hb2); (try clear hk); (try clear hi)) | ((with_reducible refine gate_callee (f := 7) rfl ?_); refine goesL_ (some 45) rfl rfl Tryd.func7 (by kernel_rfl) rfl #[.int .i32 a0] rfl (by (try simp only [List.map_toArray, List.map_cons, List.map_nil]); first | done | rfl | (simp only [List.length_drop, List.length_take]; rfl)) ?_; (with_reducible refine (word_Text.calls a0 t110 _ ?_ A14.out).mono ?_); exact ⟨HG.out.below (by repeat (first | (with_reducible first | exact HB.out | apply below_alloc | apply pw_below_drewN | apply below_drew1) | exact HB.out))⟩; rintro e w203 ⟨rfl, hb⟩; refine ⟨_, rfl, ?_⟩; have n0_ := Aside0.mk (below_step (by repeat (first | (with_reducible first | exact HB.out | apply below_alloc | apply pw_below_drewN | apply below_drew1) | exact HB.out)) hb); clear HB; have HB := n0_; clear n0_; (try clear hb); (try clear hb2); (try clear hk); (try clear hi)) | ((with_reducible refine gate_callee (f := 6) rfl ?_); refine goesL_ (some 47) rfl rfl Tryd.func6 (by kernel_rfl) rfl #[.string ((⟨#[43]⟩ : ByteArray) ++ t110)] rfl (by (try simp only [List.map_toArray, List.map_cons, List.map_nil]); first | done | rfl | (simp only [List.length_drop, List.length_take]; rfl)) ?_; (with_reducible refine (word_Parse.calls ((⟨#[43]⟩ : ByteArray) ++ t110) t119 false _ ?_ A16.out).mono ?_); exact ⟨HG.out.below (by repeat (first | (with_reducible first | exact HB.out | apply below_alloc | apply pw_below_drewN | apply below_drew1) | exact HB.out))⟩; rintro e w204 ⟨rfl, hb⟩; refine ⟨_, rfl, ?_⟩; have n0_ := Aside0.mk (below_step (by repeat (first | (with_reducible first | exact HB.out | apply below_alloc | apply pw_below_drewN | apply below_drew1) | exact HB.out)) hb); clear HB; have HB := n0_; clear n0_; (try clear hb); (try clear hb2); (try clear hk); (try clear hi)))
                                       have n0_ := Aside0.mk (below_drew1 HB.out)
                                       clear HB
                                       have HB := n0_
                                       clear n0_
                                       refine start_ (n := 12) (S := fun w' => True) (ds := []) #[false, false, false, false, false, false, false, false, false, false, false, false] (by kernel_rfl) rfl rfl trivial (fun hHeld => ?_); refine with_tabW jacquardlaw01_WordTexts.tab7 jacquardlaw01_WordTexts.bits7 (fun HT_ HW_ => ?_)
                                       generalize w204.drew = w205 at HB hHeld ⊢
                                       refine pure_ (i := 0) (N := some 51) (v := ?_) (a' := ?_) #[true, false, false, false, false, false, false, false, false, false, false, false] rfl rfl (any_of HT_.out (by kernel_rfl)) (fun _ _ _ h => h) (Or.inl ⟨by rfl, ?_⟩) ?_ ?_
                                       rotate_left
                                       · intro w'
                                         go_simp
                                         with_reducible rfl
                                       rotate_left
                                       · simp only [Act.put, List.setIfInBounds_toArray, List.set_cons_zero, List.set_cons_succ, i64_w, i32_w]
                                         rfl
                                       refine pure_ (i := 2) (N := some 53) (v := ?_) (a' := ?_) #[true, false, true, false, false, false, false, false, false, false, false, false] rfl rfl (any_of HT_.out (by kernel_rfl)) (fun _ _ _ h => h) (Or.inl ⟨by rfl, ?_⟩) ?_ ?_
                                       rotate_left
                                       · intro w'
                                         go_simp
                                         with_reducible rfl
                                       rotate_left
                                       · simp only [Act.put, List.setIfInBounds_toArray, List.set_cons_zero, List.set_cons_succ, i64_w, i32_w]
                                         rfl
                                       refine join_ (σ := Value) 7 #[true, true, true, true, true, false, false, false, false, false, false, false] (fun s_ => [(52, .string t110), (54, s_), (55, .string (strOfNums y122))]) (fun s_ w' => (Kd.R (Kd.int .u8) 5 w' w.heap.size (fun _ => True) s_ y122) ∧ (Below w.heap.size w w')) ?_ ?_
                                       rotate_left
                                       · intro hCont
                                         refine two_ (i := 1) (j := 3) (Ni := some 52) (Nj := some 54) #[true, true, true, false, false, false, false, false, false, false, false, false] #[true, false, true, true, false, false, false, false, false, false, false, false] rfl rfl rfl rfl (two_of HT_.out (by kernel_rfl)) (by decide) (by decide) (fun K hK => ?_) (fun K hK => ?_)
                                         · skip
                                           refine goes_ Tryd.func7 (by kernel_rfl) rfl #[.int .i32 a0] (by rfl) rfl rfl (by (try simp only [List.map_toArray, List.map_cons, List.map_nil]); first | done | rfl | (simp only [List.length_drop, List.length_take]; rfl)) ?_
                                           with_reducible refine (word_Text.calls a0 t110 _ ?_ A17.out).mono ?_
                                           exact ⟨HG.out.below (by repeat (first | (with_reducible first | exact HB.out | apply below_alloc | apply pw_below_drewN | apply below_drew1) | exact HB.out))⟩
                                           rintro e w206 ⟨rfl, hb⟩
                                           refine ⟨_, rfl, ?_⟩
                                           have n0_ := Aside0.mk (below_step (by repeat (first | (with_reducible first | exact HB.out | apply below_alloc | apply pw_below_drewN | apply below_drew1) | exact HB.out)) hb)
                                           clear HB
                                           have HB := n0_
                                           clear n0_
                                           (try clear hb)
                                           (try clear hb2)
                                           (try clear hk)
                                           (try clear hi)
                                           refine hK.out _ _ trivial (fun hHeld => ?_)
                                           clear hK K
                                           refine norm_ (a' := ?_) ?_ ?_
                                           rotate_left
                                           · show Act.put _ (some 52) _ = _
                                             simp only [Act.put, List.setIfInBounds_toArray, List.set_cons_zero, List.set_cons_succ, i64_w, i32_w]
                                             rfl
                                           refine one_ (i := 3) (N := some 54) #[true, true, true, true, false, false, false, false, false, false, false, false] rfl rfl (one_of HT_.out (by kernel_rfl)) (by decide) (fun K hK => ?_)
                                           refine Kd.R_lit_step (Kd.int .u8) _ 5 ?hg (N := 54) ?hd (xs := ([a2] : List Int)) (inner := [.int .u8 a2]) (ok := fun _ => True) (okp := fun _ => True) ?hr ?hp (fun _ hk => hk) trivial (Below.refl _ _) (Nat.le_refl _) (by simp) ?_; (case hd => rfl); (case hg => rfl); (case hr => first | (go_simp; done) | (go_simp; rfl)); (case hp => exact (Reps.one (show Kd.M (Kd.int .u8) _ _ _ a2 [.int .u8 a2] from rfl) (Reps.none _ _)))
                                           intro v123 w207 ho208 hb hg_ hnew_
                                           clear hg_ hnew_
                                           (first | rw [← Ny122.out] at ho208 | (simp only [Int.reduceToNat] at ho208; rw [← Ny122.out] at ho208))
                                           have n0_ := Aside0.mk (Kd.R_lower ho208 (below_size (by repeat (first | (with_reducible first | exact HB.out | apply below_alloc | apply pw_below_drewN | apply below_drew1) | exact HB.out))))
                                           have n1_ := Aside0.mk (below_step (by repeat (first | (with_reducible first | exact HB.out | apply below_alloc | apply pw_below_drewN | apply below_drew1) | exact HB.out)) hb)
                                           clear HB
                                           have HO124 := n0_
                                           have HB := n1_
                                           clear n0_ n1_
                                           clear hb ho208
                                           refine hK.out _ _ trivial (fun hHeld => ?_)
                                           clear hK K
                                           refine norm_ (a' := ?_) ?_ ?_
                                           rotate_left
                                           · show Act.put _ (some 54) _ = _
                                             simp only [Act.put, List.setIfInBounds_toArray, List.set_cons_zero, List.set_cons_succ, i64_w, i32_w]
                                             rfl
                                           refine one_ (i := 4) (N := some 55) #[true, true, true, true, true, false, false, false, false, false, false, false] rfl rfl (one_of HT_.out (by kernel_rfl)) (by decide) (fun K hK => ?_)
                                           have hcv209 := own_string (P := Tryd.prog) Tryd.underlying26 Tryd.underlying5 Tryd.underlying9 (Kd.own_of_R HO124.out)
                                           refine value_ (w1 := ?_) (v := ?_) (by rfl) rfl ?_ ?_
                                           rotate_left 2
                                           · go_simp
                                             constructor
                                             · rfl
                                             · rfl
                                           clear hcv209
                                           refine hK.out _ _ trivial (fun hHeld => ?_)
                                           clear hK K
                                           refine norm_ (a' := ?_) ?_ ?_
                                           rotate_left
                                           · show Act.put _ (some 55) _ = _
                                             simp only [Act.put, List.setIfInBounds_toArray, List.set_cons_zero, List.set_cons_succ, i64_w, i32_w]
                                             rfl
                                           exact norm_ (by simp only [putAll, Act.put, List.setIfInBounds_toArray, List.set_cons_zero, List.set_cons_succ]) (hCont (v123) _ ⟨(by (with_reducible repeat (first | apply Kd.R_alloc | apply Kd.R_drewN | apply Kd.R_drew)); exact HO124.out), (by repeat (first | (with_reducible first | exact HB.out | apply below_alloc | apply pw_below_drewN | apply below_drew1) | exact HB.out))⟩)
                                         · skip
                                           refine Kd.R_lit_step (Kd.int .u8) _ 5 ?hg (N := 54) ?hd (xs := ([a2] : List Int)) (inner := [.int .u8 a2]) (ok := fun _ => True) (okp := fun _ => True) ?hr ?hp (fun _ hk => hk) trivial (Below.refl _ _) (Nat.le_refl _) (by simp) ?_; (case hd => rfl); (case hg => rfl); (case hr => first | (go_simp; done) | (go_simp; rfl)); (case hp => exact (Reps.one (show Kd.M (Kd.int .u8) _ _ _ a2 [.int .u8 a2] from rfl) (Reps.none _ _)))
                                           intro v123 w206 ho207 hb hg_ hnew_
                                           clear hg_ hnew_
                                           (first | rw [← Ny122.out] at ho207 | (simp only [Int.reduceToNat] at ho207; rw [← Ny122.out] at ho207))
                                           have n0_ := Aside0.mk (Kd.R_lower ho207 (below_size (by repeat (first | (with_reducible first | exact HB.out | apply below_alloc | apply pw_below_drewN | apply below_drew1) | exact HB.out))))
                                           have n1_ := Aside0.mk (below_step (by repeat (first | (with_reducible first | exact HB.out | apply below_alloc | apply pw_below_drewN | apply below_drew1) | exact HB.out)) hb)
                                           clear HB
                                           have HO124 := n0_
                                           have HB := n1_
                                           clear n0_ n1_
                                           clear hb ho207
                                           refine hK.out _ _ trivial (fun hHeld => ?_)
                                           clear hK K
                                           refine norm_ (a' := ?_) ?_ ?_
                                           rotate_left
                                           · show Act.put _ (some 54) _ = _
                                             simp only [Act.put, List.setIfInBounds_toArray, List.set_cons_zero, List.set_cons_succ, i64_w, i32_w]
                                             rfl
                                           refine two_ (i := 1) (j := 4) (Ni := some 52) (Nj := some 55) #[true, true, true, true, false, false, false, false, false, false, false, false] #[true, false, true, true, true, false, false, false, false, false, false, false] rfl rfl rfl rfl (two_of HT_.out (by kernel_rfl)) (by decide) (by decide) (fun K hK => ?_) (fun K hK => ?_)
                                           · skip
                                             refine goes_ Tryd.func7 (by kernel_rfl) rfl #[.int .i32 a0] (by rfl) rfl rfl (by (try simp only [List.map_toArray, List.map_cons, List.map_nil]); first | done | rfl | (simp only [List.length_drop, List.length_take]; rfl)) ?_
                                             with_reducible refine (word_Text.calls a0 t110 _ ?_ A17.out).mono ?_
                                             exact ⟨HG.out.below (by repeat (first | (with_reducible first | exact HB.out | apply below_alloc | apply pw_below_drewN | apply below_drew1) | exact HB.out))⟩
                                             rintro e w208 ⟨rfl, hb⟩
                                             refine ⟨_, rfl, ?_⟩
                                             have n0_ := Aside0.mk (Kd.R_below (by (with_reducible repeat (first | apply Kd.R_alloc | apply Kd.R_drewN | apply Kd.R_drew)); exact HO124.out) hb)
                                             have n1_ := Aside0.mk (below_step (by repeat (first | (with_reducible first | exact HB.out | apply below_alloc | apply pw_below_drewN | apply below_drew1) | exact HB.out)) hb)
                                             clear HO124
                                             clear HB
                                             have HO124 := n0_
                                             have HB := n1_
                                             clear n0_ n1_
                                             (try clear hb)
                                             (try clear hb2)
                                             (try clear hk)
                                             (try clear hi)
                                             refine hK.out _ _ trivial (fun hHeld => ?_)
                                             clear hK K
                                             refine norm_ (a' := ?_) ?_ ?_
                                             rotate_left
                                             · show Act.put _ (some 52) _ = _
                                               simp only [Act.put, List.setIfInBounds_toArray, List.set_cons_zero, List.set_cons_succ, i64_w, i32_w]
                                               rfl
                                             refine one_ (i := 4) (N := some 55) #[true, true, true, true, true, false, false, false, false, false, false, false] rfl rfl (one_of HT_.out (by kernel_rfl)) (by decide) (fun K hK => ?_)
                                             have hcv209 := own_string (P := Tryd.prog) Tryd.underlying26 Tryd.underlying5 Tryd.underlying9 (Kd.own_of_R HO124.out)
                                             refine value_ (w1 := ?_) (v := ?_) (by rfl) rfl ?_ ?_
                                             rotate_left 2
                                             · go_simp
                                               constructor
                                               · rfl
                                               · rfl
                                             clear hcv209
                                             refine hK.out _ _ trivial (fun hHeld => ?_)
                                             clear hK K
                                             refine norm_ (a' := ?_) ?_ ?_
                                             rotate_left
                                             · show Act.put _ (some 55) _ = _
                                               simp only [Act.put, List.setIfInBounds_toArray, List.set_cons_zero, List.set_cons_succ, i64_w, i32_w]
                                               rfl
                                             exact norm_ (by simp only [putAll, Act.put, List.setIfInBounds_toArray, List.set_cons_zero, List.set_cons_succ]) (hCont (v123) _ ⟨(by (with_reducible repeat (first | apply Kd.R_alloc | apply Kd.R_drewN | apply Kd.R_drew)); exact HO124.out), (by repeat (first | (with_reducible first | exact HB.out | apply below_alloc | apply pw_below_drewN | apply below_drew1) | exact HB.out))⟩)
                                           · skip
                                             have hcv208 := own_string (P := Tryd.prog) Tryd.underlying26 Tryd.underlying5 Tryd.underlying9 (Kd.own_of_R HO124.out)
                                             refine value_ (w1 := ?_) (v := ?_) (by rfl) rfl ?_ ?_
                                             rotate_left 2
                                             · go_simp
                                               constructor
                                               · rfl
                                               · rfl
                                             clear hcv208
                                             refine hK.out _ _ trivial (fun hHeld => ?_)
                                             clear hK K
                                             refine norm_ (a' := ?_) ?_ ?_
                                             rotate_left
                                             · show Act.put _ (some 55) _ = _
                                               simp only [Act.put, List.setIfInBounds_toArray, List.set_cons_zero, List.set_cons_succ, i64_w, i32_w]
                                               rfl
                                             refine one_ (i := 1) (N := some 52) #[true, true, true, true, true, false, false, false, false, false, false, false] rfl rfl (one_of HT_.out (by kernel_rfl)) (by decide) (fun K hK => ?_)
                                             refine goes_ Tryd.func7 (by kernel_rfl) rfl #[.int .i32 a0] (by rfl) rfl rfl (by (try simp only [List.map_toArray, List.map_cons, List.map_nil]); first | done | rfl | (simp only [List.length_drop, List.length_take]; rfl)) ?_
                                             with_reducible refine (word_Text.calls a0 t110 _ ?_ A17.out).mono ?_
                                             exact ⟨HG.out.below (by repeat (first | (with_reducible first | exact HB.out | apply below_alloc | apply pw_below_drewN | apply below_drew1) | exact HB.out))⟩
                                             rintro e w209 ⟨rfl, hb⟩
                                             refine ⟨_, rfl, ?_⟩
                                             have n0_ := Aside0.mk (Kd.R_below (by (with_reducible repeat (first | apply Kd.R_alloc | apply Kd.R_drewN | apply Kd.R_drew)); exact HO124.out) hb)
                                             have n1_ := Aside0.mk (below_step (by repeat (first | (with_reducible first | exact HB.out | apply below_alloc | apply pw_below_drewN | apply below_drew1) | exact HB.out)) hb)
                                             clear HO124
                                             clear HB
                                             have HO124 := n0_
                                             have HB := n1_
                                             clear n0_ n1_
                                             (try clear hb)
                                             (try clear hb2)
                                             (try clear hk)
                                             (try clear hi)
                                             refine hK.out _ _ trivial (fun hHeld => ?_)
                                             clear hK K
                                             refine norm_ (a' := ?_) ?_ ?_
                                             rotate_left
                                             · show Act.put _ (some 52) _ = _
                                               simp only [Act.put, List.setIfInBounds_toArray, List.set_cons_zero, List.set_cons_succ, i64_w, i32_w]
                                               rfl
                                             exact norm_ (by simp only [putAll, Act.put, List.setIfInBounds_toArray, List.set_cons_zero, List.set_cons_succ]) (hCont (v123) _ ⟨(by (with_reducible repeat (first | apply Kd.R_alloc | apply Kd.R_drewN | apply Kd.R_drew)); exact HO124.out), (by repeat (first | (with_reducible first | exact HB.out | apply below_alloc | apply pw_below_drewN | apply below_drew1) | exact HB.out))⟩)
                                       rintro v123 w210 ⟨h0_, h1_⟩
                                       have n0_ : Aside0 (Kd.R (Kd.int .u8) 5 w210 w.heap.size (fun _ => True) v123 y122) := ⟨h0_⟩
                                       have n1_ : Aside0 (Below w.heap.size w w210) := ⟨h1_⟩
                                       clear HB
                                       clear h0_ h1_
                                       have HO124 := n0_
                                       have HB := n1_
                                       clear n0_ n1_
                                       have hHeld := trivial
                                       refine norm_ (a' := ?_) ?_ ?_
                                       rotate_left
                                       · simp only [putAll, Act.put, List.setIfInBounds_toArray, List.set_cons_zero, List.set_cons_succ]
                                         rfl
                                       refine pure_ (i := 5) (N := some 56) (v := ?_) (a' := ?_) #[true, true, true, true, true, true, false, false, false, false, false, false] rfl rfl (any_of HT_.out (by kernel_rfl)) (fun _ _ _ h => h) (Or.inl ⟨by rfl, ?_⟩) ?_ ?_
                                       rotate_left
                                       · intro w'
                                         go_simp
                                         with_reducible rfl
                                       rotate_left
                                       · simp only [Act.put, List.setIfInBounds_toArray, List.set_cons_zero, List.set_cons_succ, i64_w, i32_w]
                                         rfl
                                       refine one_ (i := 6) (N := some 57) #[true, true, true, true, true, true, true, false, false, false, false, false] rfl rfl (one_of HT_.out (by kernel_rfl)) (by decide) (fun K hK => ?_)
                                       refine goes_ Tryd.func6 (by kernel_rfl) rfl #[.string (t110 ++ (strOfNums y122))] (by rfl) rfl rfl (by (try simp only [List.map_toArray, List.map_cons, List.map_nil]); first | done | rfl | (simp only [List.length_drop, List.length_take]; rfl)) ?_
                                       with_reducible refine (word_Parse.calls (t110 ++ (strOfNums y122)) t125 true _ ?_ A19.out).mono ?_
                                       exact ⟨HG.out.below (by repeat (first | (with_reducible first | exact HB.out | apply below_alloc | apply pw_below_drewN | apply below_drew1) | exact HB.out))⟩
                                       rintro e w211 ⟨rfl, hb⟩
                                       refine ⟨_, rfl, ?_⟩
                                       have n0_ := Aside0.mk (Kd.R_below (by (with_reducible repeat (first | apply Kd.R_alloc | apply Kd.R_drewN | apply Kd.R_drew)); exact HO124.out) hb)
                                       have n1_ := Aside0.mk (below_step (by repeat (first | (with_reducible first | exact HB.out | apply below_alloc | apply pw_below_drewN | apply below_drew1) | exact HB.out)) hb)
                                       clear HO124
                                       clear HB
                                       have HO124 := n0_
                                       have HB := n1_
                                       clear n0_ n1_
                                       (try clear hb)
                                       (try clear hb2)
                                       (try clear hk)
                                       (try clear hi)
                                       refine hK.out _ _ trivial (fun hHeld => ?_)
                                       clear hK K
                                       refine norm_ (a' := ?_) ?_ ?_
                                       rotate_left
                                       · show Act.put _ (some 57) _ = _
                                         simp only [Act.put, List.setIfInBounds_toArray, List.set_cons_zero, List.set_cons_succ, i64_w, i32_w]
                                         rfl
                                       refine pure_ (i := 7) (N := some 50) (v := ?_) (a' := ?_) #[true, true, true, true, true, true, true, true, false, false, false, false] rfl rfl (any_of HT_.out (by kernel_rfl)) (fun _ _ _ h => h) (Or.inl ⟨by rfl, ?_⟩) ?_ ?_
                                       rotate_left
                                       · intro w'
                                         go_simp
                                         with_reducible rfl
                                       rotate_left
                                       · simp only [Act.put, List.setIfInBounds_toArray, List.set_cons_zero, List.set_cons_succ, i64_w, i32_w]
                                         rfl
                                       refine pure_ (i := 8) (N := some 58) (v := ?_) (a' := ?_) #[true, true, true, true, true, true, true, true, true, false, false, false] rfl rfl (any_of HT_.out (by kernel_rfl)) (fun _ _ _ h => h) (Or.inl ⟨by rfl, ?_⟩) ?_ ?_
                                       rotate_left
                                       · intro w'
                                         go_simp
                                         with_reducible rfl
                                       rotate_left
                                       · simp only [Act.put, List.setIfInBounds_toArray, List.set_cons_zero, List.set_cons_succ, i64_w, i32_w]
                                         rfl
                                       refine pure_ (i := 9) (N := some 59) (v := ?_) (a' := ?_) #[true, true, true, true, true, true, true, true, true, true, false, false] rfl rfl (any_of HT_.out (by kernel_rfl)) (fun _ _ _ h => h) (Or.inl ⟨by rfl, ?_⟩) ?_ ?_
                                       rotate_left
                                       · intro w'
                                         go_simp
                                         with_reducible rfl
                                       rotate_left
                                       · simp only [Act.put, List.setIfInBounds_toArray, List.set_cons_zero, List.set_cons_succ, i64_w, i32_w]
                                         rfl
                                       refine pure_ (i := 10) (N := some 17) (v := ?_) (a' := ?_) #[true, true, true, true, true, true, true, true, true, true, true, false] rfl rfl (any_of HT_.out (by kernel_rfl)) (fun _ _ _ h => h) (Or.inl ⟨by rfl, ?_⟩) ?_ ?_
                                       rotate_left
                                       · intro w'
                                         go_simp
                                         with_reducible rfl
                                       rotate_left
                                       · simp only [Act.put, List.setIfInBounds_toArray, List.set_cons_zero, List.set_cons_succ, i64_w, i32_w]
                                         rfl
                                       refine pure_ (i := 11) (N := some 18) (v := ?_) (a' := ?_) #[true, true, true, true, true, true, true, true, true, true, true, true] rfl rfl (any_of HT_.out (by kernel_rfl)) (fun _ _ _ h => h) (Or.inl ⟨by rfl, ?_⟩) ?_ ?_
                                       rotate_left
                                       · intro w'
                                         go_simp
                                         with_reducible rfl
                                       rotate_left
                                       · simp only [Act.put, List.setIfInBounds_toArray, List.set_cons_zero, List.set_cons_succ, i64_w, i32_w]
                                         rfl
                                       refine done_ (done_of HT_.out (by kernel_rfl)) ?_
                                       try go_wp2
                                       go_ret
                                       exact ⟨by first | rfl | (simp [errW_none, errW_some] <;> rfl) | (simp only [← hji5]; first | rfl | (simp [errW_none, errW_some] <;> rfl)) | (simp [*, errW_none, errW_some] <;> rfl), by repeat (first | (with_reducible first | exact HB.out | apply below_alloc | apply pw_below_drewN | apply below_drew1) | exact HB.out)⟩)
                                · rw [if_neg c196] at H
                                  cases H
                              · rw [if_neg c195] at H
                                cases H
                            · rw [if_neg c194] at H
                              cases H
                          · replace c193 := Bool.eq_false_iff.mpr c193
                            subst c193
                            have H1 : (some true) = some true := by rw [if_neg (show ¬ (false = true) by decide)] at H; first | done | exact H
                            clear H
                            have H := H1
                            clear H1
                            clear H
                            go_enter Tryd.func3, Tryd.ntmps3
                            try go_wp2_with (first | ((with_reducible refine gate_callee (f := 5) rfl ?_); refine goesL_ (some 19) rfl rfl Tryd.func5 (by kernel_rfl) rfl #[] rfl (by (try simp only [List.map_toArray, List.map_cons, List.map_nil]); first | done | rfl | (simp only [List.length_drop, List.length_take]; rfl)) ?_; (with_reducible refine (jacquardlaw01_shown.calls  true _ A4.out).mono ?_); rintro e w257 ⟨rfl, hb⟩; refine ⟨_, rfl, ?_⟩; have n0_ := Aside0.mk (below_step (by repeat (first | (with_reducible first | exact HB.out | apply below_alloc | apply pw_below_drewN | apply below_drew1) | exact HB.out)) hb); clear HB; have HB := n0_; clear n0_; (try clear hb); (try clear hb2); (try clear hk); (try clear hi)) | ((with_reducible refine gate_callee (f := 7) rfl ?_); refine goesL_ (some 27) rfl rfl Tryd.func7 (by kernel_rfl) rfl #[.int .i32 a0] rfl (by (try simp only [List.map_toArray, List.map_cons, List.map_nil]); first | done | rfl | (simp only [List.length_drop, List.length_take]; rfl)) ?_; (with_reducible refine (word_Text.calls a0 t110 _ ?_ A8.out).mono ?_); exact ⟨HG.out.below (by repeat (first | (with_reducible first | exact HB.out | apply below_alloc | apply pw_below_drewN | apply below_drew1) | exact HB.out))⟩; rintro e w258 ⟨rfl, hb⟩; refine ⟨_, rfl, ?_⟩; have n0_ := Aside0.mk (below_step (by repeat (first | (with_reducible first | exact HB.out | apply below_alloc | apply pw_below_drewN | apply below_drew1) | exact HB.out)) hb); clear HB; have HB := n0_; clear n0_; (try clear hb); (try clear hb2); (try clear hk); (try clear hi)) | ((with_reducible refine gate_callee (f := 6) rfl ?_); refine goesL_ (some 28) rfl rfl Tryd.func6 (by kernel_rfl) rfl #[.string t110] rfl (by (try simp only [List.map_toArray, List.map_cons, List.map_nil]); first | done | rfl | (simp only [List.length_drop, List.length_take]; rfl)) ?_; (with_reducible refine (word_Parse.calls t110 t111 true _ ?_ A9.out).mono ?_); exact ⟨HG.out.below (by repeat (first | (with_reducible first | exact HB.out | apply below_alloc | apply pw_below_drewN | apply below_drew1) | exact HB.out))⟩; rintro e w259 ⟨rfl, hb⟩; refine ⟨_, rfl, ?_⟩; have n0_ := Aside0.mk (below_step (by repeat (first | (with_reducible first | exact HB.out | apply below_alloc | apply pw_below_drewN | apply below_drew1) | exact HB.out)) hb); clear HB; have HB := n0_; clear n0_; (try clear hb); (try clear hb2); (try clear hk); (try clear hi)) | ((with_reducible refine gate_callee (f := 6) rfl ?_); refine goesL_ (some 33) rfl rfl Tryd.func6 (by kernel_rfl) rfl #[.string (a1.extract 0 ((ji5) : Int).toNat)] rfl (by (try simp only [List.map_toArray, List.map_cons, List.map_nil]); first | done | (simp only [hji5]; rfl) | rfl | (simp only [List.length_drop, List.length_take]; rfl)) ?_; (with_reducible refine (word_Parse.calls (a1.extract 0 ((ji5) : Int).toNat) t113 false _ ?_ A10.out).mono ?_); exact ⟨HG.out.below (by repeat (first | (with_reducible first | exact HB.out | apply below_alloc | apply pw_below_drewN | apply below_drew1) | exact HB.out))⟩; rintro e w260 ⟨rfl, hb⟩; refine ⟨_, rfl, ?_⟩; have n0_ := Aside0.mk (below_step (by repeat (first | (with_reducible first | exact HB.out | apply below_alloc | apply pw_below_drewN | apply below_drew1) | exact HB.out)) hb); clear HB; have HB := n0_; clear n0_; (try clear hb); (try clear hb2); (try clear hk); (try clear hi)) | ((with_reducible refine gate_callee (f := 7) rfl ?_); refine goesL_ (some 38) rfl rfl Tryd.func7 (by kernel_rfl) rfl #[.int .i32 a0] rfl (by (try simp only [List.map_toArray, List.map_cons, List.map_nil]); first | done | rfl | (simp only [List.length_drop, List.length_take]; rfl)) ?_; (with_reducible refine (word_Text.calls a0 t110 _ ?_ A11.out).mono ?_); exact ⟨HG.out.below (by repeat (first | (with_reducible first | exact HB.out | apply below_alloc | apply pw_below_drewN | apply below_drew1) | exact HB.out))⟩; rintro e w261 ⟨rfl, hb⟩; refine ⟨_, rfl, ?_⟩; have n0_ := Aside0.mk (below_step (by repeat (first | (with_reducible first | exact HB.out | apply below_alloc | apply pw_below_drewN | apply below_drew1) | exact HB.out)) hb); clear HB; have HB := n0_; clear n0_; (try clear hb); (try clear hb2); (try clear hk); (try clear hi)) | ((with_reducible refine gate_callee (f := 6) rfl ?_); refine goesL_ (some 40) rfl rfl Tryd.func6 (by kernel_rfl) rfl #[.string ((⟨#[48]⟩ : ByteArray) ++ t110)] rfl (by (try simp only [List.map_toArray, List.map_cons, List.map_nil]); first | done | rfl | (simp only [List.length_drop, List.length_take]; rfl)) ?_; (with_reducible refine (word_Parse.calls ((⟨#[48]⟩ : ByteArray) ++ t110) t116 false _ ?_ A13.out).mono ?_); exact ⟨HG.out.below (by repeat (first | (with_reducible first | exact HB.out | apply below_alloc | apply pw_below_drewN | apply below_drew1) | exact HB.out))⟩; rintro e w262 ⟨rfl, hb⟩; refine ⟨_, rfl, ?_⟩; have n0_ := Aside0.mk (below_step (by repeat (first | (with_reducible first | exact HB.out | apply below_alloc | apply pw_below_drewN | apply below_drew1) | exact HB.out)) hb); clear HB; have HB := n0_; clear n0_; (try clear hb); (try clear hb2); (try clear hk); (try clear hi)) | ((with_reducible refine gate_callee (f := 7) rfl ?_); refine goesL_ (some 45) rfl rfl Tryd.func7 (by kernel_rfl) rfl #[.int .i32 a0] rfl (by (try simp only [List.map_toArray, List.map_cons, List.map_nil]); first | done | rfl | (simp only [List.length_drop, List.length_take]; rfl)) ?_; (with_reducible refine (word_Text.calls a0 t110 _ ?_ A14.out).mono ?_); exact ⟨HG.out.below (by repeat (first | (with_reducible first | exact HB.out | apply below_alloc | apply pw_below_drewN | apply below_drew1) | exact HB.out))⟩; rintro e w263 ⟨rfl, hb⟩; refine ⟨_, rfl, ?_⟩; have n0_ := Aside0.mk (below_step (by repeat (first | (with_reducible first | exact HB.out | apply below_alloc | apply pw_below_drewN | apply below_drew1) | exact HB.out)) hb); clear HB; have HB := n0_; clear n0_; (try clear hb); (try clear hb2); (try clear hk); (try clear hi)) | ((with_reducible refine gate_callee (f := 6) rfl ?_); refine goesL_ (some 47) rfl rfl Tryd.func6 (by kernel_rfl) rfl #[.string ((⟨#[43]⟩ : ByteArray) ++ t110)] rfl (by (try simp only [List.map_toArray, List.map_cons, List.map_nil]); first | done | rfl | (simp only [List.length_drop, List.length_take]; rfl)) ?_; (with_reducible refine (word_Parse.calls ((⟨#[43]⟩ : ByteArray) ++ t110) t119 false _ ?_ A16.out).mono ?_); exact ⟨HG.out.below (by repeat (first | (with_reducible first | exact HB.out | apply below_alloc | apply pw_below_drewN | apply below_drew1) | exact HB.out))⟩; rintro e w264 ⟨rfl, hb⟩; refine ⟨_, rfl, ?_⟩; have n0_ := Aside0.mk (below_step (by repeat (first | (with_reducible first | exact HB.out | apply below_alloc | apply pw_below_drewN | apply below_drew1) | exact HB.out)) hb); clear HB; have HB := n0_; clear n0_; (try clear hb); (try clear hb2); (try clear hk); (try clear hi)))
                            have n0_ := Aside0.mk (below_drew1 HB.out)
                            clear HB
                            have HB := n0_
                            clear n0_
                            refine start_ (n := 12) (S := fun w' => True) (ds := []) #[false, false, false, false, false, false, false, false, false, false, false, false] (by kernel_rfl) rfl rfl trivial (fun hHeld => ?_); refine with_tabW jacquardlaw01_WordTexts.tab7 jacquardlaw01_WordTexts.bits7 (fun HT_ HW_ => ?_)
                            generalize w264.drew = w265 at HB hHeld ⊢
                            refine pure_ (i := 0) (N := some 51) (v := ?_) (a' := ?_) #[true, false, false, false, false, false, false, false, false, false, false, false] rfl rfl (any_of HT_.out (by kernel_rfl)) (fun _ _ _ h => h) (Or.inl ⟨by rfl, ?_⟩) ?_ ?_
                            rotate_left
                            · intro w'
                              go_simp
                              with_reducible rfl
                            rotate_left
                            · simp only [Act.put, List.setIfInBounds_toArray, List.set_cons_zero, List.set_cons_succ, i64_w, i32_w]
                              rfl
                            refine pure_ (i := 2) (N := some 53) (v := ?_) (a' := ?_) #[true, false, true, false, false, false, false, false, false, false, false, false] rfl rfl (any_of HT_.out (by kernel_rfl)) (fun _ _ _ h => h) (Or.inl ⟨by rfl, ?_⟩) ?_ ?_
                            rotate_left
                            · intro w'
                              go_simp
                              with_reducible rfl
                            rotate_left
                            · simp only [Act.put, List.setIfInBounds_toArray, List.set_cons_zero, List.set_cons_succ, i64_w, i32_w]
                              rfl
                            refine join_ (σ := Value) 7 #[true, true, true, true, true, false, false, false, false, false, false, false] (fun s_ => [(52, .string t110), (54, s_), (55, .string (strOfNums y122))]) (fun s_ w' => (Kd.R (Kd.int .u8) 5 w' w.heap.size (fun _ => True) s_ y122) ∧ (Below w.heap.size w w')) ?_ ?_
                            rotate_left
                            · intro hCont
                              refine two_ (i := 1) (j := 3) (Ni := some 52) (Nj := some 54) #[true, true, true, false, false, false, false, false, false, false, false, false] #[true, false, true, true, false, false, false, false, false, false, false, false] rfl rfl rfl rfl (two_of HT_.out (by kernel_rfl)) (by decide) (by decide) (fun K hK => ?_) (fun K hK => ?_)
                              · skip
                                refine goes_ Tryd.func7 (by kernel_rfl) rfl #[.int .i32 a0] (by rfl) rfl rfl (by (try simp only [List.map_toArray, List.map_cons, List.map_nil]); first | done | rfl | (simp only [List.length_drop, List.length_take]; rfl)) ?_
                                with_reducible refine (word_Text.calls a0 t110 _ ?_ A17.out).mono ?_
                                exact ⟨HG.out.below (by repeat (first | (with_reducible first | exact HB.out | apply below_alloc | apply pw_below_drewN | apply below_drew1) | exact HB.out))⟩
                                rintro e w266 ⟨rfl, hb⟩
                                refine ⟨_, rfl, ?_⟩
                                have n0_ := Aside0.mk (below_step (by repeat (first | (with_reducible first | exact HB.out | apply below_alloc | apply pw_below_drewN | apply below_drew1) | exact HB.out)) hb)
                                clear HB
                                have HB := n0_
                                clear n0_
                                (try clear hb)
                                (try clear hb2)
                                (try clear hk)
                                (try clear hi)
                                refine hK.out _ _ trivial (fun hHeld => ?_)
                                clear hK K
                                refine norm_ (a' := ?_) ?_ ?_
                                rotate_left
                                · show Act.put _ (some 52) _ = _
                                  simp only [Act.put, List.setIfInBounds_toArray, List.set_cons_zero, List.set_cons_succ, i64_w, i32_w]
                                  rfl
                                refine one_ (i := 3) (N := some 54) #[true, true, true, true, false, false, false, false, false, false, false, false] rfl rfl (one_of HT_.out (by kernel_rfl)) (by decide) (fun K hK => ?_)
                                refine Kd.R_lit_step (Kd.int .u8) _ 5 ?hg (N := 54) ?hd (xs := ([a2] : List Int)) (inner := [.int .u8 a2]) (ok := fun _ => True) (okp := fun _ => True) ?hr ?hp (fun _ hk => hk) trivial (Below.refl _ _) (Nat.le_refl _) (by simp) ?_; (case hd => rfl); (case hg => rfl); (case hr => first | (go_simp; done) | (go_simp; rfl)); (case hp => exact (Reps.one (show Kd.M (Kd.int .u8) _ _ _ a2 [.int .u8 a2] from rfl) (Reps.none _ _)))
                                intro v123 w267 ho268 hb hg_ hnew_
                                clear hg_ hnew_
                                (first | rw [← Ny122.out] at ho268 | (simp only [Int.reduceToNat] at ho268; rw [← Ny122.out] at ho268))
                                have n0_ := Aside0.mk (Kd.R_lower ho268 (below_size (by repeat (first | (with_reducible first | exact HB.out | apply below_alloc | apply pw_below_drewN | apply below_drew1) | exact HB.out))))
                                have n1_ := Aside0.mk (below_step (by repeat (first | (with_reducible first | exact HB.out | apply below_alloc | apply pw_below_drewN | apply below_drew1) | exact HB.out)) hb)
                                clear HB
                                have HO124 := n0_
                                have HB := n1_
                                clear n0_ n1_
                                clear hb ho268
                                refine hK.out _ _ trivial (fun hHeld => ?_)
                                clear hK K
                                refine norm_ (a' := ?_) ?_ ?_
                                rotate_left
                                · show Act.put _ (some 54) _ = _
                                  simp only [Act.put, List.setIfInBounds_toArray, List.set_cons_zero, List.set_cons_succ, i64_w, i32_w]
                                  rfl
                                refine one_ (i := 4) (N := some 55) #[true, true, true, true, true, false, false, false, false, false, false, false] rfl rfl (one_of HT_.out (by kernel_rfl)) (by decide) (fun K hK => ?_)
                                have hcv269 := own_string (P := Tryd.prog) Tryd.underlying26 Tryd.underlying5 Tryd.underlying9 (Kd.own_of_R HO124.out)
                                refine value_ (w1 := ?_) (v := ?_) (by rfl) rfl ?_ ?_
                                rotate_left 2
                                · go_simp
                                  constructor
                                  · rfl
                                  · rfl
                                clear hcv269
                                refine hK.out _ _ trivial (fun hHeld => ?_)
                                clear hK K
                                refine norm_ (a' := ?_) ?_ ?_
                                rotate_left
                                · show Act.put _ (some 55) _ = _
                                  simp only [Act.put, List.setIfInBounds_toArray, List.set_cons_zero, List.set_cons_succ, i64_w, i32_w]
                                  rfl
                                exact norm_ (by simp only [putAll, Act.put, List.setIfInBounds_toArray, List.set_cons_zero, List.set_cons_succ]) (hCont (v123) _ ⟨(by (with_reducible repeat (first | apply Kd.R_alloc | apply Kd.R_drewN | apply Kd.R_drew)); exact HO124.out), (by repeat (first | (with_reducible first | exact HB.out | apply below_alloc | apply pw_below_drewN | apply below_drew1) | exact HB.out))⟩)
                              · skip
                                refine Kd.R_lit_step (Kd.int .u8) _ 5 ?hg (N := 54) ?hd (xs := ([a2] : List Int)) (inner := [.int .u8 a2]) (ok := fun _ => True) (okp := fun _ => True) ?hr ?hp (fun _ hk => hk) trivial (Below.refl _ _) (Nat.le_refl _) (by simp) ?_; (case hd => rfl); (case hg => rfl); (case hr => first | (go_simp; done) | (go_simp; rfl)); (case hp => exact (Reps.one (show Kd.M (Kd.int .u8) _ _ _ a2 [.int .u8 a2] from rfl) (Reps.none _ _)))
                                intro v123 w266 ho267 hb hg_ hnew_
                                clear hg_ hnew_
                                (first | rw [← Ny122.out] at ho267 | (simp only [Int.reduceToNat] at ho267; rw [← Ny122.out] at ho267))
                                have n0_ := Aside0.mk (Kd.R_lower ho267 (below_size (by repeat (first | (with_reducible first | exact HB.out | apply below_alloc | apply pw_below_drewN | apply below_drew1) | exact HB.out))))
                                have n1_ := Aside0.mk (below_step (by repeat (first | (with_reducible first | exact HB.out | apply below_alloc | apply pw_below_drewN | apply below_drew1) | exact HB.out)) hb)
                                clear HB
                                have HO124 := n0_
                                have HB := n1_
                                clear n0_ n1_
                                clear hb ho267
                                refine hK.out _ _ trivial (fun hHeld => ?_)
                                clear hK K
                                refine norm_ (a' := ?_) ?_ ?_
                                rotate_left
                                · show Act.put _ (some 54) _ = _
                                  simp only [Act.put, List.setIfInBounds_toArray, List.set_cons_zero, List.set_cons_succ, i64_w, i32_w]
                                  rfl
                                refine two_ (i := 1) (j := 4) (Ni := some 52) (Nj := some 55) #[true, true, true, true, false, false, false, false, false, false, false, false] #[true, false, true, true, true, false, false, false, false, false, false, false] rfl rfl rfl rfl (two_of HT_.out (by kernel_rfl)) (by decide) (by decide) (fun K hK => ?_) (fun K hK => ?_)
                                · skip
                                  refine goes_ Tryd.func7 (by kernel_rfl) rfl #[.int .i32 a0] (by rfl) rfl rfl (by (try simp only [List.map_toArray, List.map_cons, List.map_nil]); first | done | rfl | (simp only [List.length_drop, List.length_take]; rfl)) ?_
                                  with_reducible refine (word_Text.calls a0 t110 _ ?_ A17.out).mono ?_
                                  exact ⟨HG.out.below (by repeat (first | (with_reducible first | exact HB.out | apply below_alloc | apply pw_below_drewN | apply below_drew1) | exact HB.out))⟩
                                  rintro e w268 ⟨rfl, hb⟩
                                  refine ⟨_, rfl, ?_⟩
                                  have n0_ := Aside0.mk (Kd.R_below (by (with_reducible repeat (first | apply Kd.R_alloc | apply Kd.R_drewN | apply Kd.R_drew)); exact HO124.out) hb)
                                  have n1_ := Aside0.mk (below_step (by repeat (first | (with_reducible first | exact HB.out | apply below_alloc | apply pw_below_drewN | apply below_drew1) | exact HB.out)) hb)
                                  clear HO124
                                  clear HB
                                  have HO124 := n0_
                                  have HB := n1_
                                  clear n0_ n1_
                                  (try clear hb)
                                  (try clear hb2)
                                  (try clear hk)
                                  (try clear hi)
                                  refine hK.out _ _ trivial (fun hHeld => ?_)
                                  clear hK K
                                  refine norm_ (a' := ?_) ?_ ?_
                                  rotate_left
                                  · show Act.put _ (some 52) _ = _
                                    simp only [Act.put, List.setIfInBounds_toArray, List.set_cons_zero, List.set_cons_succ, i64_w, i32_w]
                                    rfl
                                  refine one_ (i := 4) (N := some 55) #[true, true, true, true, true, false, false, false, false, false, false, false] rfl rfl (one_of HT_.out (by kernel_rfl)) (by decide) (fun K hK => ?_)
                                  have hcv269 := own_string (P := Tryd.prog) Tryd.underlying26 Tryd.underlying5 Tryd.underlying9 (Kd.own_of_R HO124.out)
                                  refine value_ (w1 := ?_) (v := ?_) (by rfl) rfl ?_ ?_
                                  rotate_left 2
                                  · go_simp
                                    constructor
                                    · rfl
                                    · rfl
                                  clear hcv269
                                  refine hK.out _ _ trivial (fun hHeld => ?_)
                                  clear hK K
                                  refine norm_ (a' := ?_) ?_ ?_
                                  rotate_left
                                  · show Act.put _ (some 55) _ = _
                                    simp only [Act.put, List.setIfInBounds_toArray, List.set_cons_zero, List.set_cons_succ, i64_w, i32_w]
                                    rfl
                                  exact norm_ (by simp only [putAll, Act.put, List.setIfInBounds_toArray, List.set_cons_zero, List.set_cons_succ]) (hCont (v123) _ ⟨(by (with_reducible repeat (first | apply Kd.R_alloc | apply Kd.R_drewN | apply Kd.R_drew)); exact HO124.out), (by repeat (first | (with_reducible first | exact HB.out | apply below_alloc | apply pw_below_drewN | apply below_drew1) | exact HB.out))⟩)
                                · skip
                                  have hcv268 := own_string (P := Tryd.prog) Tryd.underlying26 Tryd.underlying5 Tryd.underlying9 (Kd.own_of_R HO124.out)
                                  refine value_ (w1 := ?_) (v := ?_) (by rfl) rfl ?_ ?_
                                  rotate_left 2
                                  · go_simp
                                    constructor
                                    · rfl
                                    · rfl
                                  clear hcv268
                                  refine hK.out _ _ trivial (fun hHeld => ?_)
                                  clear hK K
                                  refine norm_ (a' := ?_) ?_ ?_
                                  rotate_left
                                  · show Act.put _ (some 55) _ = _
                                    simp only [Act.put, List.setIfInBounds_toArray, List.set_cons_zero, List.set_cons_succ, i64_w, i32_w]
                                    rfl
                                  refine one_ (i := 1) (N := some 52) #[true, true, true, true, true, false, false, false, false, false, false, false] rfl rfl (one_of HT_.out (by kernel_rfl)) (by decide) (fun K hK => ?_)
                                  refine goes_ Tryd.func7 (by kernel_rfl) rfl #[.int .i32 a0] (by rfl) rfl rfl (by (try simp only [List.map_toArray, List.map_cons, List.map_nil]); first | done | rfl | (simp only [List.length_drop, List.length_take]; rfl)) ?_
                                  with_reducible refine (word_Text.calls a0 t110 _ ?_ A17.out).mono ?_
                                  exact ⟨HG.out.below (by repeat (first | (with_reducible first | exact HB.out | apply below_alloc | apply pw_below_drewN | apply below_drew1) | exact HB.out))⟩
                                  rintro e w269 ⟨rfl, hb⟩
                                  refine ⟨_, rfl, ?_⟩
                                  have n0_ := Aside0.mk (Kd.R_below (by (with_reducible repeat (first | apply Kd.R_alloc | apply Kd.R_drewN | apply Kd.R_drew)); exact HO124.out) hb)
                                  have n1_ := Aside0.mk (below_step (by repeat (first | (with_reducible first | exact HB.out | apply below_alloc | apply pw_below_drewN | apply below_drew1) | exact HB.out)) hb)
                                  clear HO124
                                  clear HB
                                  have HO124 := n0_
                                  have HB := n1_
                                  clear n0_ n1_
                                  (try clear hb)
                                  (try clear hb2)
                                  (try clear hk)
                                  (try clear hi)
                                  refine hK.out _ _ trivial (fun hHeld => ?_)
                                  clear hK K
                                  refine norm_ (a' := ?_) ?_ ?_
                                  rotate_left
                                  · show Act.put _ (some 52) _ = _
                                    simp only [Act.put, List.setIfInBounds_toArray, List.set_cons_zero, List.set_cons_succ, i64_w, i32_w]
                                    rfl
                                  exact norm_ (by simp only [putAll, Act.put, List.setIfInBounds_toArray, List.set_cons_zero, List.set_cons_succ]) (hCont (v123) _ ⟨(by (with_reducible repeat (first | apply Kd.R_alloc | apply Kd.R_drewN | apply Kd.R_drew)); exact HO124.out), (by repeat (first | (with_reducible first | exact HB.out | apply below_alloc | apply pw_below_drewN | apply below_drew1) | exact HB.out))⟩)
                            rintro v123 w270 ⟨h0_, h1_⟩
                            have n0_ : Aside0 (Kd.R (Kd.int .u8) 5 w270 w.heap.size (fun _ => True) v123 y122) := ⟨h0_⟩
                            have n1_ : Aside0 (Below w.heap.size w w270) := ⟨h1_⟩
                            clear HB
                            clear h0_ h1_
                            have HO124 := n0_
                            have HB := n1_
                            clear n0_ n1_
                            have hHeld := trivial
                            refine norm_ (a' := ?_) ?_ ?_
                            rotate_left
                            · simp only [putAll, Act.put, List.setIfInBounds_toArray, List.set_cons_zero, List.set_cons_succ]
                              rfl
                            refine pure_ (i := 5) (N := some 56) (v := ?_) (a' := ?_) #[true, true, true, true, true, true, false, false, false, false, false, false] rfl rfl (any_of HT_.out (by kernel_rfl)) (fun _ _ _ h => h) (Or.inl ⟨by rfl, ?_⟩) ?_ ?_
                            rotate_left
                            · intro w'
                              go_simp
                              with_reducible rfl
                            rotate_left
                            · simp only [Act.put, List.setIfInBounds_toArray, List.set_cons_zero, List.set_cons_succ, i64_w, i32_w]
                              rfl
                            refine one_ (i := 6) (N := some 57) #[true, true, true, true, true, true, true, false, false, false, false, false] rfl rfl (one_of HT_.out (by kernel_rfl)) (by decide) (fun K hK => ?_)
                            refine goes_ Tryd.func6 (by kernel_rfl) rfl #[.string (t110 ++ (strOfNums y122))] (by rfl) rfl rfl (by (try simp only [List.map_toArray, List.map_cons, List.map_nil]); first | done | rfl | (simp only [List.length_drop, List.length_take]; rfl)) ?_
                            with_reducible refine (word_Parse.calls (t110 ++ (strOfNums y122)) t125 false _ ?_ A19.out).mono ?_
                            exact ⟨HG.out.below (by repeat (first | (with_reducible first | exact HB.out | apply below_alloc | apply pw_below_drewN | apply below_drew1) | exact HB.out))⟩
                            rintro e w271 ⟨rfl, hb⟩
                            refine ⟨_, rfl, ?_⟩
                            have n0_ := Aside0.mk (Kd.R_below (by (with_reducible repeat (first | apply Kd.R_alloc | apply Kd.R_drewN | apply Kd.R_drew)); exact HO124.out) hb)
                            have n1_ := Aside0.mk (below_step (by repeat (first | (with_reducible first | exact HB.out | apply below_alloc | apply pw_below_drewN | apply below_drew1) | exact HB.out)) hb)
                            clear HO124
                            clear HB
                            have HO124 := n0_
                            have HB := n1_
                            clear n0_ n1_
                            (try clear hb)
                            (try clear hb2)
                            (try clear hk)
                            (try clear hi)
                            refine hK.out _ _ trivial (fun hHeld => ?_)
                            clear hK K
                            refine norm_ (a' := ?_) ?_ ?_
                            rotate_left
                            · show Act.put _ (some 57) _ = _
                              simp only [Act.put, List.setIfInBounds_toArray, List.set_cons_zero, List.set_cons_succ, i64_w, i32_w]
                              rfl
                            refine pure_ (i := 7) (N := some 50) (v := ?_) (a' := ?_) #[true, true, true, true, true, true, true, true, false, false, false, false] rfl rfl (any_of HT_.out (by kernel_rfl)) (fun _ _ _ h => h) (Or.inl ⟨by rfl, ?_⟩) ?_ ?_
                            rotate_left
                            · intro w'
                              go_simp
                              with_reducible rfl
                            rotate_left
                            · simp only [Act.put, List.setIfInBounds_toArray, List.set_cons_zero, List.set_cons_succ, i64_w, i32_w]
                              rfl
                            refine pure_ (i := 8) (N := some 58) (v := ?_) (a' := ?_) #[true, true, true, true, true, true, true, true, true, false, false, false] rfl rfl (any_of HT_.out (by kernel_rfl)) (fun _ _ _ h => h) (Or.inl ⟨by rfl, ?_⟩) ?_ ?_
                            rotate_left
                            · intro w'
                              go_simp
                              with_reducible rfl
                            rotate_left
                            · simp only [Act.put, List.setIfInBounds_toArray, List.set_cons_zero, List.set_cons_succ, i64_w, i32_w]
                              rfl
                            refine pure_ (i := 9) (N := some 59) (v := ?_) (a' := ?_) #[true, true, true, true, true, true, true, true, true, true, false, false] rfl rfl (any_of HT_.out (by kernel_rfl)) (fun _ _ _ h => h) (Or.inl ⟨by rfl, ?_⟩) ?_ ?_
                            rotate_left
                            · intro w'
                              go_simp
                              with_reducible rfl
                            rotate_left
                            · simp only [Act.put, List.setIfInBounds_toArray, List.set_cons_zero, List.set_cons_succ, i64_w, i32_w]
                              rfl
                            refine pure_ (i := 10) (N := some 17) (v := ?_) (a' := ?_) #[true, true, true, true, true, true, true, true, true, true, true, false] rfl rfl (any_of HT_.out (by kernel_rfl)) (fun _ _ _ h => h) (Or.inl ⟨by rfl, ?_⟩) ?_ ?_
                            rotate_left
                            · intro w'
                              go_simp
                              with_reducible rfl
                            rotate_left
                            · simp only [Act.put, List.setIfInBounds_toArray, List.set_cons_zero, List.set_cons_succ, i64_w, i32_w]
                              rfl
                            refine pure_ (i := 11) (N := some 18) (v := ?_) (a' := ?_) #[true, true, true, true, true, true, true, true, true, true, true, true] rfl rfl (any_of HT_.out (by kernel_rfl)) (fun _ _ _ h => h) (Or.inl ⟨by rfl, ?_⟩) ?_ ?_
                            rotate_left
                            · intro w'
                              go_simp
                              with_reducible rfl
                            rotate_left
                            · simp only [Act.put, List.setIfInBounds_toArray, List.set_cons_zero, List.set_cons_succ, i64_w, i32_w]
                              rfl
                            refine done_ (done_of HT_.out (by kernel_rfl)) ?_
                            try go_wp2
                            go_ret
                            exact ⟨by first | rfl | (simp [errW_none, errW_some] <;> rfl) | (simp only [← hji5]; first | rfl | (simp [errW_none, errW_some] <;> rfl)) | (simp [*, errW_none, errW_some] <;> rfl), by repeat (first | (with_reducible first | exact HB.out | apply below_alloc | apply pw_below_drewN | apply below_drew1) | exact HB.out)⟩
                    · rw [if_neg c160] at H
                      cases H
                · rw [if_neg c22] at H
                  cases H
              · replace c21 := Bool.eq_false_iff.mpr c21
                subst c21
                have H1 : (some false) = some true := by rw [if_neg (show ¬ (false = true) by decide)] at H; first | done | exact H
                clear H
                have H := H1
                clear H1
                cases H
            · replace c20 := Bool.eq_false_iff.mpr c20
              subst c20
              have H1 : (some false) = some true := by rw [if_neg (show ¬ (false = true) by decide)] at H; first | done | exact H
              clear H
              have H := H1
              clear H1
              cases H
          · rw [if_neg c18] at H
            exact absurd H (by simp)
        · rw [if_neg c15] at H
          exact absurd H (by simp)
      · rw [if_neg c12] at H
        exact absurd H (by simp)
    · rw [if_neg c7] at H
      exact absurd H (by simp)
  · rw [if_neg c6] at H
    exact absurd H (by simp)

/-- THE ONE PURE STATEMENT of jacquardlaw01_WordTexts: yours. -/
def jacquardlaw01_WordTexts.Pure : Prop := ∀ (a0 : Int) (a1 : ByteArray) (a2 : Int), (Lit.int .i32 a0).wf = true → a1.size ≤ 140737488351232 → (Lit.int .u8 a2).wf = true → jacquardlaw01_WordTexts.f a0 a1 a2 = some true
theorem jacquardlaw01_WordTexts.walk (P : jacquardlaw01_WordTexts.Pure) (a0 : Int) (a1 : ByteArray) (a2 : Int) (w : World) (HG : Aside0 (LaidT w)) (w0 : (Lit.int .i32 a0).wf = true) (w1 : a1.size ≤ 140737488351232) (w2 : (Lit.int .u8 a2).wf = true) :
    Calls Tryd.prog 3 #[.int .i32 a0, .string a1, .int .u8 a2] w fun e w' => e = .returned (.bool true) ∧ Below w.heap.size w w' := by
  have h := P a0 a1 a2 w0 w1 w2
  refine (jacquardlaw01_WordTexts.calls a0 a1 a2 w HG h).mono ?_
  rintro e w' ⟨rfl, hd⟩
  exact ⟨rfl, hd⟩

end Go.Proofs.YtfiajahppimchaaDoor.Pr
