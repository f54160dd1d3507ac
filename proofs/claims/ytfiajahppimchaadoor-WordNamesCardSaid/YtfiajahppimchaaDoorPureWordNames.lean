/- word.Name, Number, Text, Parse answer what the reference answers: WordNames answers true at any number, any text (its first 20 bytes), any word. No condition. -/
import Derived.Test.YtfiajahppimchaaDoorPrx3
import Derived.Test.YtfiajahppimchaaDoorPrx4
import Derived.Test.YtfiajahppimchaaDoorParse
namespace Go.Proofs.YtfiajahppimchaaDoor.Pure
set_option linter.unusedVariables false
set_option linter.unusedSimpArgs false
open Go.RowKit Go.Proofs.YtfiajahppimchaaDoor.Pr Go.Proofs.YtfiajahppimchaaDoorW.PrintWords Go.Proofs.YtfiajahppimchaaDoorW.PrintLast Go.Proofs.YtfiajahppimchaaDoorW.PrintMore Go.Proofs.YtfiajahppimchaaDoor.Do Go.Proofs.YtfiajahppimchaaDoor.Wl Go.Proofs.YtfiajahppimchaaDoor.Dec

theorem shown_true' : jacquardlaw01_shown.f = some true := by decide +kernel
theorem i32_range' {v : Int} (h : (Lit.int .i32 v).wf = true) : inWord v := by
  simp only [Lit.wf, Bool.and_eq_true, decide_eq_true_eq] at h
  exact h
theorem i64_range {v : Int} (h : (Lit.int .i64 v).wf = true) : -9223372036854775808 ≤ v ∧ v ≤ 9223372036854775807 := by
  simp only [Lit.wf, Bool.and_eq_true, decide_eq_true_eq] at h
  exact h
theorem w64 (n : Int) (h : -9223372036854775808 ≤ n) (h1 : n ≤ 9223372036854775807) : wrap64 n = n := by unfold wrap64; omega
def mkB (l : List UInt8) : ByteArray := ⟨l.toArray⟩
theorem mkB_append (a b : List UInt8) : mkB a ++ mkB b = mkB (a ++ b) := by apply ByteArray.ext; simp [mkB]
theorem mkB_size (l : List UInt8) : (mkB l).size = l.length := by show l.toArray.size = _; simp
theorem mkB_list (l : List UInt8) : (mkB l).data.toList = l := rfl
theorem mkB_of (s : ByteArray) : mkB s.data.toList = s := by apply ByteArray.ext; simp [mkB]

/-! ### Names -/
theorem names_eq : jacquardref01_Names.f = some nameStrs := by decide +kernel
theorem name_same (a : Int) (h : -9223372036854775808 ≤ a ∧ a ≤ 9223372036854775807) : word_Name.f a = jacquardref01_Name.f a := by
  unfold word_Name.f jacquardref01_Name.f
  rw [names_eq]
  simp only [Option.bind_some]
  rw [nameStrs_len]
  by_cases c1 : a < 1
  · rw [if_neg (by omega), if_pos c1]
  rw [if_neg c1]
  by_cases c2 : a > ((18 : Nat) : Int)
  · rw [if_neg (by omega), if_pos c2]
  rw [if_neg c2, if_pos (by omega), w64 (a - 1) (by omega) (by omega), if_pos (by omega), if_pos (by omega)]
  unfold rdOf
  rw [nameStrs_at _ (by omega), show (a - 1).toNat = a.toNat - 1 from by omega]
theorem numbers : ∀ i : Fin 18, word_Number.f (mkB (nameList.getD i.val [])) = some ((i.val : Int) + 1) := by decide +kernel
theorem number_name (i : Int) (h : 0 < i) (h1 : i < 19) : ∃ t, word_Name.f i = some t ∧ word_Number.f t = some i := by
  refine ⟨mkB (nameList.getD (i.toNat - 1) []), ?_, ?_⟩
  · unfold word_Name.f; rw [if_pos (by omega)]; rfl
  · have := numbers ⟨i.toNat - 1, by omega⟩
    rw [this]
    congr 1
    show ((i.toNat - 1 : Nat) : Int) + 1 = i
    omega
theorem number_loop (s : ByteArray) (L : List ByteArray) (hL : L.length ≤ 1000) (d : Nat) : ∀ (k i : Nat), i ≤ L.length → L.length - i = d → d < k →
    jacquardref01_Number.l0 k s L (i : Int) = some (1 + Lib.idxFromS (L.drop i) s i) := by
  induction d with
  | zero =>
    intro k i hi hd hk
    obtain ⟨k, rfl⟩ : ∃ m, k = m + 1 := ⟨k - 1, by omega⟩
    simp only [jacquardref01_Number.l0]
    rw [if_neg (by omega), List.drop_of_length_le (by omega)]
    rfl
  | succ d ih =>
    intro k i hi hd hk
    obtain ⟨k, rfl⟩ : ∃ m, k = m + 1 := ⟨k - 1, by omega⟩
    have hlt : i < L.length := by omega
    simp only [jacquardref01_Number.l0]
    rw [if_pos (by omega), if_pos (by omega), w64 ((i : Int) + 1) (by omega) (by omega)]
    have e : rdOf ByteArray.empty L (i : Int) = L[i] := by
      unfold rdOf
      rw [Int.toNat_natCast, List.getD_eq_getElem?_getD, List.getElem?_eq_getElem hlt]
      rfl
    rw [e, List.drop_eq_getElem_cons hlt]
    unfold Lib.idxFromS
    by_cases c : L[i] = s
    · rw [if_pos c, if_pos (by rw [c])]
      congr 1
      omega
    · rw [if_neg c, if_neg (fun h => c ?_)]
      · have := ih k (i + 1) (by omega) (by omega) (by omega)
        rw [show (((i + 1 : Nat)) : Int) = (i : Int) + 1 from by omega] at this
        exact this
      · rw [ByteArray.toList_eq, ByteArray.toList_eq] at h
        apply ByteArray.ext
        exact Array.toList_inj.mp h
theorem number_same (s : ByteArray) (k : Nat) (hk : 19 < k) : jacquardref01_Number.f k s = word_Number.f s := by
  unfold jacquardref01_Number.f word_Number.f
  rw [names_eq]
  simp only [Option.bind_some]
  have := number_loop s nameStrs (by rw [nameStrs_len]; omega) 18 k 0 (by omega) (by rw [nameStrs_len]) (by omega)
  exact this

/-! ### Text -/
def digs : ByteArray := ⟨#[48, 49, 50, 51, 52, 53, 54, 55, 56, 57]⟩
theorem dig_cut (d : Nat) (h : d < 10) : digs.extract d (d + 1) = mkB [UInt8.ofNat (48 + d)] := by
  have c : d = 0 ∨ d = 1 ∨ d = 2 ∨ d = 3 ∨ d = 4 ∨ d = 5 ∨ d = 6 ∨ d = 7 ∨ d = 8 ∨ d = 9 := by omega
  rcases c with rfl | rfl | rfl | rfl | rfl | rfl | rfl | rfl | rfl | rfl <;> rfl
def decP (u : Nat) : List UInt8 := if u = 0 then [] else Lib.decDigits u
theorem decP_step (u : Nat) (h : 0 < u) : decP u = decP (u / 10) ++ [UInt8.ofNat (48 + u % 10)] := by
  unfold decP
  rw [if_neg (by omega)]
  by_cases c : u < 10
  · rw [if_pos (by omega), dec_small c, show u % 10 = u from by omega]; rfl
  · rw [if_neg (by omega), dec_big c]
theorem text_loop (sg : List UInt8) (hs : sg.length ≤ 1) (d : Nat) : ∀ (k u : Nat) (o : List UInt8), u < 10 ^ d → d + o.length ≤ 100 → d < k → u ≤ 4294967296 →
    jacquardref01_Text.l0 k (u : Int) (mkB sg) digs (mkB o) = some (mkB (sg ++ (decP u ++ o))) := by
  induction d with
  | zero =>
    intro k u o hu ho hk hb
    obtain ⟨k, rfl⟩ : ∃ m, k = m + 1 := ⟨k - 1, by omega⟩
    obtain rfl : u = 0 := by omega
    simp only [jacquardref01_Text.l0]
    rw [if_neg (by omega), mkB_size, mkB_size, if_pos (by omega), mkB_append]
    rfl
  | succ d ih =>
    intro k u o hu ho hk hb
    obtain ⟨k, rfl⟩ : ∃ m, k = m + 1 := ⟨k - 1, by omega⟩
    simp only [jacquardref01_Text.l0]
    by_cases c : u = 0
    · subst c
      rw [if_neg (by omega), mkB_size, mkB_size, if_pos (by omega), mkB_append]
      rfl
    · have e1 : Int.tmod (u : Int) 10 = ((u % 10 : Nat) : Int) := by rw [Int.tmod_eq_emod_of_nonneg (by omega)]; omega
      have e2 : Int.tdiv (u : Int) 10 = ((u / 10 : Nat) : Int) := by rw [Int.tdiv_eq_ediv_of_nonneg (by omega)]; omega
      rw [if_pos (by omega), e1, e2, w64 _ (by omega) (by omega), w64 _ (by omega) (by omega), if_pos (by omega), if_pos (by omega), if_pos (show _ ≤ ((digs.size : Nat) : Int) by have : digs.size = 10 := rfl; omega)]
      rw [show (((u % 10 : Nat) : Int) + 1).toNat = u % 10 + 1 from by omega, Int.toNat_natCast, dig_cut _ (by omega), mkB_size, mkB_size, List.length_singleton, if_pos (by omega), mkB_append]
      rw [ih k (u / 10) _ (by rw [Nat.pow_succ] at hu; omega) (by rw [List.length_append, List.length_singleton]; omega) (by omega) (by omega)]
      rw [decP_step u (by omega), List.append_assoc]
theorem text_j0 (sg : List UInt8) (hs : sg.length ≤ 1) (u : Nat) (hb : u ≤ 4294967295) (k : Nat) (hk : 15 < k) : jacquardref01_Text.j0 k (u : Int) (mkB sg) = some (mkB (sg ++ Lib.decDigits u)) := by
  obtain ⟨k, rfl⟩ : ∃ m, k = m + 1 := ⟨k - 1, by omega⟩
  have e1 : Int.tmod (u : Int) 10 = ((u % 10 : Nat) : Int) := by rw [Int.tmod_eq_emod_of_nonneg (by omega)]; omega
  have e2 : Int.tdiv (u : Int) 10 = ((u / 10 : Nat) : Int) := by rw [Int.tdiv_eq_ediv_of_nonneg (by omega)]; omega
  simp only [jacquardref01_Text.j0]
  rw [e1, e2, w64 _ (by omega) (by omega), w64 _ (by omega) (by omega), if_pos (by omega), if_pos (by omega), if_pos (by omega)]
  have l := text_loop sg hs 10 k (u / 10) [UInt8.ofNat (48 + u % 10)] (by omega) (by simp) (by omega) (by omega)
  rw [show (((u % 10 : Nat) : Int) + 1).toNat = u % 10 + 1 from by omega, Int.toNat_natCast]
  have dc := dig_cut (u % 10) (by omega)
  unfold digs at dc l
  rw [dc, l]
  congr 3
  by_cases c : u < 10
  · unfold decP
    rw [if_pos (by omega), dec_small c, show u % 10 = u from by omega]; rfl
  · unfold decP
    rw [if_neg (by omega), dec_big c]
theorem text_same (v : Int) (h : inWord v) (k : Nat) (hk : 15 < k) : jacquardref01_Text.f k v = some (mkB (Lib.itoa v)) := by
  unfold inWord at h
  unfold jacquardref01_Text.f
  rw [w64 v (by omega) (by omega)]
  unfold Lib.itoa
  by_cases c : v < 0
  · rw [if_pos c, if_pos c, w64 (-v) (by omega) (by omega), show -v = ((v.natAbs : Nat) : Int) from by omega]
    exact text_j0 [45] (by simp) v.natAbs (by omega) k hk
  · rw [if_neg c, if_neg c]
    conv => lhs; rw [show v = ((v.toNat : Nat) : Int) from by omega]
    exact text_j0 [] (by simp) v.toNat (by omega) k hk

/-! ### Parse -/
theorem bt_list (s : ByteArray) (i : Nat) (h : i < s.data.toList.length) : bt s (i : Int) = ((s.data.toList[i]).toNat : Int) := by
  have hs : i < s.size := by rw [Array.length_toList] at h; exact h
  unfold bt
  rw [dif_pos (by rw [Int.toNat_natCast]; exact hs)]
  congr 1
theorem val_bound (l : List UInt8) : ∀ acc d, acc < 10 ^ d → (∀ c ∈ l, isDig c) → valFrom acc l < 10 ^ (d + l.length) := by
  induction l with
  | nil => intro acc d h _; exact h
  | cons c r ih =>
    intro acc d h hd
    have hc := hd c (by simp)
    unfold isDig at hc
    have h2 : acc * 10 + (c.toNat - 48) < 10 ^ (d + 1) := by rw [Nat.pow_succ]; omega
    have := ih _ _ h2 (fun x hx => hd x (by simp [hx]))
    rw [List.length_cons, show d + (r.length + 1) = d + 1 + r.length from by omega]
    exact this
/-- The first eleven bytes, from place i on. -/
theorem scan (s D : ByteArray) (hD : D.size ≤ 30) (m : Nat) : ∀ (k i acc : Nat), i ≤ min D.size 11 → min D.size 11 - i = m → 2 * m < k → acc < 10 ^ i →
    ((∀ c ∈ (D.data.toList.take 11).drop i, isDig c) → jacquardref01_Parse.l0 k s D (acc : Int) (i : Int) = jacquardref01_Parse.l0 (k - 2 * m) s D ((valFrom acc ((D.data.toList.take 11).drop i) : Nat) : Int) ((min D.size 11 : Nat) : Int)) ∧
    ((∃ c ∈ (D.data.toList.take 11).drop i, ¬ isDig c) → jacquardref01_Parse.l0 k s D (acc : Int) (i : Int) = some (0, false)) := by
  have hlen : D.data.toList.length = D.size := by rw [Array.length_toList]; rfl
  induction m with
  | zero =>
    intro k i acc hi hm hk ha
    have hn : (D.data.toList.take 11).drop i = [] := List.drop_of_length_le (by rw [List.length_take, hlen]; omega)
    rw [hn]
    refine ⟨fun _ => ?_, fun ⟨c, hc, _⟩ => by cases hc⟩
    have : i = min D.size 11 := by omega
    rw [← this]
    rfl
  | succ m ih =>
    intro k i acc hi hm hk ha
    obtain ⟨k, rfl⟩ : ∃ q, k = q + 2 := ⟨k - 2, by omega⟩
    have hi' : i + 1 ≤ min D.size 11 := by omega
    have hm' : min D.size 11 - (i + 1) = m := by omega
    have hk' : 2 * m < k := by omega
    have hkk : k + 2 - 2 * (m + 1) = k - 2 * m := by omega
    have h1 : i < D.data.toList.length := by omega
    have h2 : i < (D.data.toList.take 11).length := by rw [List.length_take, hlen]; omega
    have hc : (D.data.toList.take 11).drop i = D.data.toList[i] :: (D.data.toList.take 11).drop (i + 1) := by
      rw [List.drop_eq_getElem_cons h2, List.getElem_take]
    have hp : (10 : Nat) ^ i ≤ 100000000000 := Nat.le_trans (Nat.pow_le_pow_right (by decide) (show i ≤ 11 by omega)) (by decide)
    have ha2 : acc < 100000000000 := Nat.lt_of_lt_of_le ha hp
    have hb := bt_list D i h1
    have hstep : jacquardref01_Parse.l0 (k + 2) s D (acc : Int) (i : Int) = (if (bt D i) < 48 then (some (0, false)) else (if (bt D i) > 57 then (some (0, false)) else (jacquardref01_Parse.l0 k s D (wrap64 ((wrap64 (10 * (acc : Int))) + (((bt D i) - 48) % 256))) (wrap64 ((i : Int) + 1))))) := by
      simp only [jacquardref01_Parse.l0, jacquardref01_Parse.j3]
      rw [if_pos (by omega), if_pos (by simp; omega), if_pos (by omega), if_pos (by omega)]
    rw [hstep, hb, hc]
    have hcl := (D.data.toList[i]).toNat_lt
    generalize hX : D.data.toList[i] = c at *
    have ha' : isDig c → acc * 10 + (c.toNat - 48) < 10 ^ (i + 1) := by
      intro h
      unfold isDig at h
      rw [Nat.pow_succ]
      omega
    clear hp ha
    have hdig : isDig c → (wrap64 ((wrap64 (10 * (acc : Int))) + (((c.toNat : Int) - 48) % 256))) = ((acc * 10 + (c.toNat - 48) : Nat) : Int) := by
      intro h
      unfold isDig at h
      rw [w64 (10 * (acc : Int)) (by omega) (by omega)]
      rw [w64 _ (by omega) (by omega)]
      omega
    have hi1 : wrap64 ((i : Int) + 1) = ((i + 1 : Nat) : Int) := by rw [w64 _ (by omega) (by omega)]; omega
    constructor
    · intro hall
      have hd : isDig c := hall c (by simp)
      have hd' := hd
      unfold isDig at hd'
      rw [if_neg (by omega), if_neg (by omega), hdig hd, hi1]
      have := (ih k (i + 1) (acc * 10 + (c.toNat - 48)) hi' hm' hk' (ha' hd)).1 (fun x hx => hall x (by simp [hx]))
      have ev : valFrom acc (c :: (D.data.toList.take 11).drop (i + 1)) = valFrom (acc * 10 + (c.toNat - 48)) ((D.data.toList.take 11).drop (i + 1)) := rfl
      rw [ev, this, hkk]
    · rintro ⟨x, hx, hn⟩
      by_cases hd : isDig c
      · have hd' := hd
        unfold isDig at hd'
        rw [if_neg (by omega), if_neg (by omega), hdig hd, hi1]
        refine (ih k (i + 1) (acc * 10 + (c.toNat - 48)) hi' hm' hk' (ha' hd)).2 ⟨x, ?_, hn⟩
        rcases List.mem_cons.mp hx with rfl | hx
        · exact absurd hd hn
        · exact hx
      · unfold isDig at hd
        by_cases q : (c.toNat : Int) < 48
        · rw [if_pos q]
        · rw [if_neg q, if_pos (by omega)]
/-- Behind the bytes. -/
theorem tail_of (s D : ByteArray) (x : Nat) (hx : x < 1000000000000) (k : Nat) (hk : 20 < k) (y : Int) (hy : y = if D.size < s.size then -(x : Int) else x) :
    (inWord y → Lib.itoa y = s.data.toList → jacquardref01_Parse.l0 k s D (x : Int) ((min D.size 11 : Nat) : Int) = some (y, true)) ∧
    (¬ (inWord y ∧ Lib.itoa y = s.data.toList) → jacquardref01_Parse.l0 k s D (x : Int) ((min D.size 11 : Nat) : Int) = some (0, false)) := by
  obtain ⟨k, rfl⟩ : ∃ q, k = q + 2 := ⟨k - 2, by omega⟩
  have step : jacquardref01_Parse.l0 (k + 2) s D (x : Int) ((min D.size 11 : Nat) : Int) = jacquardref01_Parse.j3 (k + 1) s D (x : Int) ((min D.size 11 : Nat) : Int) false := by
    conv => lhs; unfold jacquardref01_Parse.l0
    split
    · rw [show decide ((((min D.size 11 : Nat)) : Int) < 11) = false from by simp; omega]
    · rfl
  rw [step]
  have hn : wrap64 (-(x : Int)) = -(x : Int) := w64 _ (by omega) (by omega)
  have main : ∀ z : Int, z = y → (inWord y → Lib.itoa y = s.data.toList → (if z < -2147483648 then some ((0 : Int), false) else (if z ≥ 2147483648 then some (0, false) else ((jacquardref01_Text.f k (wrap32 z)).bind fun t => (if t.toList = s.toList then some (wrap32 z, true) else some (0, false))))) = some (y, true)) ∧
      (¬ (inWord y ∧ Lib.itoa y = s.data.toList) → (if z < -2147483648 then some ((0 : Int), false) else (if z ≥ 2147483648 then some (0, false) else ((jacquardref01_Text.f k (wrap32 z)).bind fun t => (if t.toList = s.toList then some (wrap32 z, true) else some (0, false))))) = some (0, false)) := by
    rintro z rfl
    by_cases c1 : z < -2147483648
    · refine ⟨fun h => ?_, fun _ => by rw [if_pos c1]⟩
      unfold inWord at h; omega
    by_cases c2 : z ≥ 2147483648
    · refine ⟨fun h => ?_, fun _ => by rw [if_neg c1, if_pos c2]⟩
      unfold inWord at h; omega
    have hi : inWord z := ⟨by omega, by omega⟩
    have hw : wrap32 z = z := by unfold wrap32; omega
    rw [if_neg c1, if_neg c2, hw, text_same z hi k (by omega)]
    simp only [Option.bind_some]
    rw [ByteArray.toList_eq, ByteArray.toList_eq, mkB_list]
    exact ⟨fun _ h => by rw [if_pos h], fun h => by rw [if_neg (fun q => h ⟨hi, q⟩)]⟩
  simp only [jacquardref01_Parse.j3]
  rw [if_neg (by simp), hn]
  by_cases c : D.size < s.size
  · rw [if_pos c] at hy
    rw [if_pos (by omega)]
    exact main _ hy.symm
  · rw [if_neg c] at hy
    rw [if_neg (by omega)]
    exact main _ hy.symm
/-- From the digits' text on (D: the text without its sign): what is parsed, is the word whose text it is. -/
theorem from_digits (s D : ByteArray) (hD : D.size ≤ 30) (hDs : s.data.toList = D.data.toList ∨ s.data.toList = 45 :: D.data.toList) (hneg : ∀ r, s.data.toList = 45 :: r → D.data.toList = r) (k : Nat) (hk : 60 < k) :
    jacquardref01_Parse.l0 k s D 0 0 = some (parseW s.data.toList) := by
  have hlen : D.data.toList.length = D.size := by rw [Array.length_toList]; rfl
  have hslen : s.data.toList.length = s.size := by rw [Array.length_toList]; rfl
  have hm : 2 * min D.size 11 < k := by omega
  have sc := scan s D hD (min D.size 11) k 0 0 (by omega) (by omega) hm (by decide)
  rw [List.drop_zero] at sc
  have hz : ((0 : Nat) : Int) = 0 := rfl
  rw [hz] at sc
  by_cases hall : ∀ c ∈ D.data.toList.take 11, isDig c
  · rw [sc.1 hall]
    have hb := val_bound (D.data.toList.take 11) 0 0 (by decide) hall
    have hb2 : valFrom 0 (D.data.toList.take 11) < 1000000000000 := Nat.lt_of_lt_of_le hb (Nat.le_trans (Nat.pow_le_pow_right (by decide) (show 0 + (D.data.toList.take 11).length ≤ 12 by rw [List.length_take]; omega)) (by decide))
    have tl := tail_of s D (valFrom 0 (D.data.toList.take 11)) hb2 (k - 2 * min D.size 11) (by omega) _ rfl
    by_cases hy : inWord (if D.size < s.size then -((valFrom 0 (D.data.toList.take 11) : Nat) : Int) else ((valFrom 0 (D.data.toList.take 11) : Nat) : Int)) ∧ Lib.itoa (if D.size < s.size then -((valFrom 0 (D.data.toList.take 11) : Nat) : Int) else ((valFrom 0 (D.data.toList.take 11) : Nat) : Int)) = s.data.toList
    · rw [tl.1 hy.1 hy.2]
      have := parseW_itoa _ hy.1
      rw [hy.2] at this
      rw [this]
    · rw [tl.2 hy]
      congr 1
      symm
      apply parseW_none
      intro v hv he
      apply hy
      -- then the digits are the word's
      have key : (if D.size < s.size then -((valFrom 0 (D.data.toList.take 11) : Nat) : Int) else ((valFrom 0 (D.data.toList.take 11) : Nat) : Int)) = v := by
        have hv' := hv
        unfold inWord at hv'
        unfold Lib.itoa at he
        by_cases hn : v < 0
        · rw [if_pos hn] at he
          have hd := hneg _ he.symm
          have hl := dec_len v.natAbs 9 (by omega)
          have hsz : D.size < s.size := by rw [← hlen, ← hslen, hd, ← he, List.length_cons]; omega
          rw [if_pos hsz, hd, List.take_of_length_le (by omega), dec_val]
          omega
        · rw [if_neg hn] at he
          have hl := dec_len v.toNat 9 (by omega)
          rcases hDs with h | h
          · have hsz : ¬ D.size < s.size := by rw [← hlen, ← hslen, h]; omega
            rw [if_neg hsz, ← h, ← he, List.take_of_length_le (by omega), dec_val]
            omega
          · rw [h] at he
            exact absurd (dec_first _ _ _ he) (by unfold isDig; decide)
      rw [key]
      exact ⟨hv, he⟩
  · have hex : ∃ c ∈ D.data.toList.take 11, ¬ isDig c := by
      false_or_by_contra
      rename_i hne
      apply hall
      intro c hc
      false_or_by_contra
      rename_i hnc
      exact hne ⟨c, hc, hnc⟩
    rw [sc.2 hex]
    congr 1
    symm
    apply parseW_none
    intro v hv he
    obtain ⟨c, hc, hn⟩ := hex
    have hc2 := List.mem_of_mem_take hc
    apply hn
    unfold Lib.itoa at he
    by_cases hneg' : v < 0
    · rw [if_pos hneg'] at he
      rw [hneg _ he.symm] at hc2
      exact dec_dig _ c hc2
    · rw [if_neg hneg'] at he
      rcases hDs with h | h
      · rw [← h, ← he] at hc2
        exact dec_dig _ c hc2
      · rw [h] at he
        exact absurd (dec_first _ _ _ he) (by unfold isDig; decide)
theorem parse_same (s : ByteArray) (hs : s.size ≤ 30) (k : Nat) (hk : 65 < k) : jacquardref01_Parse.f k s = some (parseW s.data.toList) := by
  have hslen : s.data.toList.length = s.size := by rw [Array.length_toList]; rfl
  unfold jacquardref01_Parse.f
  obtain ⟨k, rfl⟩ : ∃ q, k = q + 2 := ⟨k - 2, by omega⟩
  by_cases c0 : (s.size : Int) > 0
  · rw [if_pos c0, if_pos (by omega)]
    cases hl : s.data.toList with
    | nil => rw [hl] at hslen; simp at hslen; omega
    | cons c r =>
      have h0 : 0 < s.data.toList.length := by omega
      have hb := bt_list s 0 h0
      have hg : s.data.toList[0] = c := by simp [hl]
      rw [hg] at hb
      have hz : ((0 : Nat) : Int) = 0 := rfl
      rw [hz] at hb
      rw [hb]
      have hcl := c.toNat_lt
      by_cases c45 : (c.toNat : Int) = 45
      · have e45 : c = 45 := by apply UInt8.toNat_inj.mp; show c.toNat = 45; omega
        subst e45
        simp only [jacquardref01_Parse.j0, jacquardref01_Parse.j1]
        rw [if_pos (by decide), if_pos (by omega)]
        have hex : (s.extract 1 s.size).data.toList = r := by
          rw [ByteArray.data_extract, Array.toList_extract, hl]
          simp only [List.extract_eq_take_drop, List.drop_succ_cons, List.drop_zero]
          rw [List.take_of_length_le]
          have := congrArg List.length hl
          rw [List.length_cons, hslen] at this
          omega
        rw [← hl]
        refine from_digits s _ (by rw [ByteArray.size_extract]; omega) (Or.inr (by rw [hl, hex])) (fun r' h => ?_) k (by omega)
        rw [hl] at h
        injection h with _ h
        rw [hex, h]
      · simp only [jacquardref01_Parse.j0, jacquardref01_Parse.j1]
        rw [if_neg (by simpa using c45), ← hl]
        refine from_digits s s hs (Or.inl rfl) (fun r' h => ?_) k (by omega)
        rw [hl] at h
        injection h with h _
        subst h
        exact absurd rfl c45
  · rw [if_neg c0]
    simp only [jacquardref01_Parse.j0, jacquardref01_Parse.j1]
    rw [if_neg (by simp)]
    refine from_digits s s hs (Or.inl rfl) (fun r' h => ?_) k (by omega)
    rw [h] at hslen
    rw [List.length_cons] at hslen
    omega

/-! ### The law -/
theorem names_loop (x0 x2 : Int) (t : ByteArray) (ht : t.size ≤ 20) (h0 : -9223372036854775808 ≤ x0 ∧ x0 ≤ 9223372036854775807) (h2 : inWord x2) (d : Nat) : ∀ (k : Nat) (i : Int), -1 ≤ i → i ≤ 20 → (20 : Int) - i = d → d + 70 < k →
    jacquardlaw01_WordNames.l0 k x0 x2 true t i = some true := by
  induction d with
  | zero =>
    intro k i hi hi2 hd hk
    obtain ⟨k, rfl⟩ : ∃ q, k = q + 1 := ⟨k - 1, by omega⟩
    simp only [jacquardlaw01_WordNames.l0]
    obtain ⟨nm, hnm⟩ : ∃ nm, word_Name.f x0 = some nm := ⟨_, rfl⟩
    rw [if_neg (by omega), parse_some t (by omega), parse_same t (by omega) k (by omega), ← name_same x0 h0, hnm, number_same t k (by omega), text_some x2 h2, text_same x2 h2 k (by omega)]
    obtain ⟨nu, hnu⟩ : ∃ nu, word_Number.f t = some nu := ⟨_, rfl⟩
    rw [hnu]
    simp [mkB]
  | succ d ih =>
    intro k i hi hi2 hd hk
    obtain ⟨k, rfl⟩ : ∃ q, k = q + 1 := ⟨k - 1, by omega⟩
    have next := ih k (i + 1) (by omega) (by omega) (by omega) (by omega)
    simp only [jacquardlaw01_WordNames.l0]
    rw [if_pos (by omega), ← name_same i (by omega), w64 (i + 1) (by omega) (by omega), next]
    by_cases c : 0 < i ∧ i < 19
    · obtain ⟨tt, e1, e2⟩ := number_name i c.1 c.2
      rw [e1]
      simp only [Option.bind_some, if_true]
      rw [e2, if_pos (by omega), if_pos (by omega)]
      simp
    · obtain ⟨nm, hnm⟩ : ∃ nm, word_Name.f i = some nm := ⟨_, rfl⟩
      rw [hnm]
      simp only [Option.bind_some, if_true]
      by_cases c1 : i > 0
      · rw [if_pos c1, if_neg (by omega)]
      · rw [if_neg c1]
theorem WordNames : jacquardlaw01_WordNames.Pure := by
  intro op s n hop hs hn
  have hop := i64_range hop
  have hn := i32_range' hn
  refine ⟨100, ?_⟩
  unfold jacquardlaw01_WordNames.f
  have m0 : 0 ≤ mn (s.size : Int) 20 := by unfold mn; split <;> omega
  have m1 : mn (s.size : Int) 20 ≤ s.size := by unfold mn; split <;> omega
  have m2 : mn (s.size : Int) 20 ≤ 20 := by unfold mn; split <;> omega
  rw [shown_true']
  simp only [Option.bind_some]
  rw [if_pos m0, if_pos m1]
  exact names_loop op n _ (by rw [ByteArray.size_extract]; omega) hop hn 21 100 (-1) (by omega) (by omega) (by omega) (by omega)
end Go.Proofs.YtfiajahppimchaaDoor.Pure
