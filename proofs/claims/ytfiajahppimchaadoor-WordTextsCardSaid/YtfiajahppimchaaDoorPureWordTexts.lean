/- A word comes back from its text, and from no other text; what is parsed is told the same: WordTexts answers true at any word, any text (its first 20 bytes), any byte. No condition. -/
import Derived.Test.YtfiajahppimchaaDoorPrx2
import Derived.Test.YtfiajahppimchaaDoorParse
namespace Go.Proofs.YtfiajahppimchaaDoor.Pure
set_option linter.unusedVariables false
set_option linter.unusedSimpArgs false
open Go.RowKit Go.Proofs.YtfiajahppimchaaDoor.Pr Go.Proofs.YtfiajahppimchaaDoorW.PrintWords Go.Proofs.YtfiajahppimchaaDoorW.PrintLast Go.Proofs.YtfiajahppimchaaDoorW.PrintMore Go.Proofs.YtfiajahppimchaaDoor.Do Go.Proofs.YtfiajahppimchaaDoor.Wl Go.Proofs.YtfiajahppimchaaDoor.Dec

theorem shown_true : jacquardlaw01_shown.f = some true := by decide +kernel
theorem i32_range {v : Int} (h : (Lit.int .i32 v).wf = true) : inWord v := by
  simp only [Lit.wf, Bool.and_eq_true, decide_eq_true_eq] at h
  exact h
theorem u8_range {v : Int} (h : (Lit.int .u8 v).wf = true) : 0 ≤ v ∧ v ≤ 255 := by
  simp only [Lit.wf, Bool.and_eq_true, decide_eq_true_eq] at h
  exact h
theorem size_mk (l : List UInt8) : (⟨l.toArray⟩ : ByteArray).size = l.length := by show l.toArray.size = _; simp
theorem cut_size (s : ByteArray) : (s.extract 0 (mn (s.size : Int) 20).toNat).size ≤ 20 := by
  have : (mn (s.size : Int) 20) ≤ 20 := by unfold mn; split <;> omega
  rw [ByteArray.size_extract]
  omega
theorem one_byte (c : Int) (h0 : 0 ≤ c) (h1 : c ≤ 255) : strOfNums [c] = (⟨#[UInt8.ofNat c.toNat]⟩ : ByteArray) := by
  apply ByteArray.ext
  simp [strOfNums]
theorem parse_two (l m : List UInt8) (hl : l.length ≤ 100) (hm : m.length ≤ 100) : word_Parse.f ((⟨l.toArray⟩ : ByteArray) ++ ⟨m.toArray⟩) = some (parseW (l ++ m)) := by
  have e : ((⟨l.toArray⟩ : ByteArray) ++ ⟨m.toArray⟩) = ⟨(l ++ m).toArray⟩ := by
    apply ByteArray.ext; simp
  rw [e, parse_some _ (by rw [size_mk, List.length_append]; omega)]
theorem WordTexts : jacquardlaw01_WordTexts.Pure := by
  intro n s c hn hs hc
  have hn := i32_range hn
  have hc := u8_range hc
  have hl := itoa_len n hn
  unfold jacquardlaw01_WordTexts.f
  have m0 : 0 ≤ mn (s.size : Int) 20 := by unfold mn; split <;> omega
  have m1 : mn (s.size : Int) 20 ≤ s.size := by unfold mn; split <;> omega
  rw [shown_true]
  simp only [Option.bind_some]
  rw [if_pos m0, if_pos m1, text_some n hn]
  simp only [Option.bind_some]
  rw [parse_some _ (by rw [size_mk]; omega), parse_some (s.extract 0 (mn (s.size : Int) 20).toNat) (by have := cut_size s; omega), parseW_itoa n hn]
  simp only [Option.bind_some]
  have z1 : 1 + (Lib.itoa n).length ≤ 9223372036854775807 := by omega
  have z2 : (Lib.itoa n).length + [UInt8.ofNat c.toNat].length ≤ 9223372036854775807 := by
    rw [List.length_singleton]; omega
  have p1 : word_Parse.f ((⟨#[48]⟩ : ByteArray) ++ ⟨(Lib.itoa n).toArray⟩) = some (0, false) := by
    rw [show ((⟨#[48]⟩ : ByteArray) ++ ⟨(Lib.itoa n).toArray⟩) = ((⟨[48].toArray⟩ : ByteArray) ++ ⟨(Lib.itoa n).toArray⟩) from rfl, parse_two [48] _ (by simp) (by omega), List.singleton_append, no_led]
  have p2 : word_Parse.f ((⟨#[43]⟩ : ByteArray) ++ ⟨(Lib.itoa n).toArray⟩) = some (0, false) := by
    rw [show ((⟨#[43]⟩ : ByteArray) ++ ⟨(Lib.itoa n).toArray⟩) = ((⟨[43].toArray⟩ : ByteArray) ++ ⟨(Lib.itoa n).toArray⟩) from rfl, parse_two [43] _ (by simp) (by omega), List.singleton_append, no_signed]
  have p3 : word_Parse.f ((⟨(Lib.itoa n).toArray⟩ : ByteArray) ++ ⟨#[UInt8.ofNat c.toNat]⟩) = some (parseW (Lib.itoa n ++ [UInt8.ofNat c.toNat])) := by
    rw [show (⟨#[UInt8.ofNat c.toNat]⟩ : ByteArray) = ⟨[UInt8.ofNat c.toNat].toArray⟩ from rfl, parse_two _ [UInt8.ofNat c.toNat] (by omega) (by simp)]
  simp only [size_mk, one_byte c hc.1 hc.2, z1, z2, if_true, p1, p2, p3, Option.bind_some]
  -- what the last text is
  have hb : (parseW (Lib.itoa n ++ [UInt8.ofNat c.toNat])).2 = true → c ≥ 48 ∧ c ≤ 57 ∧ wrap32 (Int.tdiv (parseW (Lib.itoa n ++ [UInt8.ofNat c.toNat])).1 10) = n ∧ (n != 0) = true := by
    intro h
    cases hp : parseW (Lib.itoa n ++ [UInt8.ofNat c.toNat]) with
    | mk d b =>
      rw [hp] at h
      obtain rfl : b = true := h
      have ht := parseW_true hp
      obtain ⟨h1, h2, h3⟩ := behind n d _ ht.1
      have h4 : (UInt8.ofNat c.toNat).toNat = c.toNat := by rw [UInt8.toNat_ofNat']; omega
      unfold isDig at h1
      rw [h4] at h1
      refine ⟨by omega, by omega, ?_, by simpa using h3⟩
      show wrap32 (d.tdiv 10) = n
      rw [h2]
      unfold inWord at hn
      unfold wrap32
      omega
  generalize parseW (Lib.itoa n ++ [UInt8.ofNat c.toNat]) = X at *
  have hend : (if X.2 = true then (if c ≥ 48 then (if c ≤ 57 then (if wrap32 (X.1.tdiv 10) = n then (some (n != 0)) else some false) else some false) else some false) else some true) = some true := by
    by_cases hx : X.2 = true
    · obtain ⟨q1, q2, q3, q4⟩ := hb hx
      rw [if_pos hx, if_pos q1, if_pos q2, if_pos q3, q4]
    · rw [if_neg hx]
  have hw : ∀ v, (0, false) = (v : Int × Bool) → v.2 = false := by rintro v rfl; rfl
  simp only [Bool.false_eq_true, if_false, if_true]
  cases hp : parseW (s.extract 0 (mn (s.size : Int) 20).toNat).data.toList with
  | mk b is =>
    cases is with
    | true =>
      have ht := parseW_true hp
      rw [if_pos rfl]
      show (word_Text.f b).bind _ = _
      rw [text_some b ht.2]
      simp only [Option.bind_some]
      rw [if_pos (by rw [ByteArray.toList_eq, ByteArray.toList_eq, ← ht.1])]
      exact hend
    | false =>
      have h0 := parseW_false hp
      subst h0
      rw [if_neg (by simp), if_pos rfl]
      exact hend
end Go.Proofs.YtfiajahppimchaaDoor.Pure
