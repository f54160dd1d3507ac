/- Parts of the proof, one behind the other: TxWords, TxLines, Tx, Ins, Nth, Dec. -/
import Derived.Lib.FieldsP
import Derived.Lib.FieldsU
import Derived.Lib.TrimU
import Derived.Lib.Split
import Derived.Lib.SplitLaws
import Derived.Lib.IndexLaws
import Derived.Test.YtlmkhllippobaaaDoorG02
import Derived.Test.YtlmkhllippobaaaDoorG03
import Derived.Lib.ParseIntB
import Derived.Lib.ParseIntBTie
import Derived.Lib.ParseIntBCases
import Derived.Lib.ItoaNum
section
/- The words of a line: what strings.FieldsFunc cuts at blanks and tabs, byte by byte. -/
set_option linter.unusedVariables false
set_option linter.unusedSimpArgs false
namespace Go.Proofs.YtlmkhllippobaaaDoor.TxW
open Go.Lib Go

def blankR (c : Nat) : Bool := c == 32 || c == 9
def blankB (b : UInt8) : Bool := b == 32 || b == 9
def fin (cur : List UInt8) : List (List UInt8) := if cur = [] then [] else [cur]
def wordsGo : List UInt8 → List UInt8 → List (List UInt8)
  | cur, [] => fin cur
  | cur, b :: t => if blankB b then fin cur ++ wordsGo [] t else wordsGo (cur ++ [b]) t
def wordsB (l : List UInt8) : List (List UInt8) := wordsGo [] l

theorem wordsGo_skip : ∀ (xs cur t : List UInt8), (∀ b ∈ xs, blankB b = false) → wordsGo cur (xs ++ t) = wordsGo (cur ++ xs) t
  | [], cur, t, _ => by simp
  | b :: xs, cur, t, h => by
    have hb := h b List.mem_cons_self
    rw [List.cons_append]
    rw [show wordsGo cur (b :: (xs ++ t)) = if blankB b then fin cur ++ wordsGo [] (xs ++ t) else wordsGo (cur ++ [b]) (xs ++ t) from rfl]
    rw [if_neg (by rw [hb]; simp), wordsGo_skip xs _ _ (fun x hx => h x (List.mem_cons_of_mem _ hx)), List.append_assoc]
    rfl

theorem decodeN_bytes (n b0 b1 b2 b3 : Nat) :
    ((decodeN n b0 b1 b2 b3).2 = 1 ∧ ((decodeN n b0 b1 b2 b3).1 = b0 ∨ (128 ≤ b0 ∧ 128 ≤ (decodeN n b0 b1 b2 b3).1))) ∨
    ((decodeN n b0 b1 b2 b3).2 = 2 ∧ 128 ≤ b0 ∧ 128 ≤ b1 ∧ 128 ≤ (decodeN n b0 b1 b2 b3).1) ∨
    ((decodeN n b0 b1 b2 b3).2 = 3 ∧ 128 ≤ b0 ∧ 128 ≤ b1 ∧ 128 ≤ b2 ∧ 128 ≤ (decodeN n b0 b1 b2 b3).1) ∨
    ((decodeN n b0 b1 b2 b3).2 = 4 ∧ 128 ≤ b0 ∧ 128 ≤ b1 ∧ 128 ≤ b2 ∧ 128 ≤ b3 ∧ 128 ≤ (decodeN n b0 b1 b2 b3).1) := by
  unfold decodeN
  repeat' split
  all_goals dsimp only
  all_goals first
    | (refine .inl ⟨rfl, .inl rfl⟩; done)
    | (refine .inl ⟨rfl, .inr ⟨?_, ?_⟩⟩ <;> omega)
    | (refine .inr (.inl ⟨rfl, ?_, ?_, ?_⟩) <;> omega)
    | (refine .inr (.inr (.inl ⟨rfl, ?_, ?_, ?_, ?_⟩)) <;> omega)
    | (refine .inr (.inr (.inr ⟨rfl, ?_, ?_, ?_, ?_, ?_⟩)) <;> omega)

theorem blankB_hi (b : UInt8) (h : 128 ≤ b.toNat) : blankB b = false := by
  unfold blankB
  have h1 : b ≠ 32 := by rintro rfl; simp at h
  have h2 : b ≠ 9 := by rintro rfl; simp at h
  simp [h1, h2]
theorem blank_byte (b : UInt8) : blankR b.toNat = blankB b := by
  unfold blankR blankB
  have h1 : (b.toNat == 32) = (b == 32) := by
    rw [Bool.eq_iff_iff]; simp only [beq_iff_eq]
    exact ⟨fun h => UInt8.toNat_inj.1 (by simpa using h), fun h => by rw [h]; rfl⟩
  have h2 : (b.toNat == 9) = (b == 9) := by
    rw [Bool.eq_iff_iff]; simp only [beq_iff_eq]
    exact ⟨fun h => UInt8.toNat_inj.1 (by simpa using h), fun h => by rw [h]; rfl⟩
  rw [h1, h2]
theorem blankR_hi (c : Nat) (h : 128 ≤ c) : blankR c = false := by
  unfold blankR
  simp; omega

theorem get_at (s : ByteArray) (i : Nat) (h : i < s.size) : s.get! i = s.data.toList[i]'(by simpa using h) := by
  obtain ⟨d⟩ := s
  have h' : i < d.size := h
  show d[i]! = _
  rw [getElem!_pos d i h']
  simp

/-- One rune: what it is, and the bytes that it takes. -/
theorem rune_bytes (s : ByteArray) (pos : Nat) (h : pos < s.size) :
    (blankR (Utf8.decode s pos).1 = true → (Utf8.decode s pos).2 = 1 ∧ blankB (s.get! pos) = true) ∧
    (blankR (Utf8.decode s pos).1 = false → ∀ i, i < (Utf8.decode s pos).2 → blankB (s.get! (pos + i)) = false) := by
  rw [decode_at]
  have hh := decodeN_bytes (s.size - pos) (s.get! pos).toNat (s.get! (pos + 1)).toNat (s.get! (pos + 2)).toNat (s.get! (pos + 3)).toNat
  generalize decodeN (s.size - pos) (s.get! pos).toNat (s.get! (pos + 1)).toNat (s.get! (pos + 2)).toNat (s.get! (pos + 3)).toNat = D at hh ⊢
  rcases hh with ⟨h1, h2 | ⟨h2, h3⟩⟩ | ⟨h1, h2, h3, h4⟩ | ⟨h1, h2, h3, h4, h5⟩ | ⟨h1, h2, h3, h4, h5, h6⟩
  · rw [h1, h2, blank_byte]
    refine ⟨fun hb => ⟨rfl, hb⟩, fun hb i hi => ?_⟩
    have : i = 0 := by omega
    subst this
    exact hb
  · rw [h1]
    refine ⟨fun hb => ?_, fun _ i hi => ?_⟩
    · rw [blankR_hi _ h3] at hb
      cases hb
    have : i = 0 := by omega
    subst this
    exact blankB_hi _ h2
  · rw [h1]
    refine ⟨fun hb => ?_, fun _ i hi => ?_⟩
    · rw [blankR_hi _ h4] at hb
      cases hb
    have : i = 0 ∨ i = 1 := by omega
    rcases this with rfl | rfl
    · exact blankB_hi _ h2
    · exact blankB_hi _ h3
  · rw [h1]
    refine ⟨fun hb => ?_, fun _ i hi => ?_⟩
    · rw [blankR_hi _ h5] at hb
      cases hb
    have : i = 0 ∨ i = 1 ∨ i = 2 := by omega
    rcases this with rfl | rfl | rfl
    · exact blankB_hi _ h2
    · exact blankB_hi _ h3
    · exact blankB_hi _ h4
  · rw [h1]
    refine ⟨fun hb => ?_, fun _ i hi => ?_⟩
    · rw [blankR_hi _ h6] at hb
      cases hb
    have : i = 0 ∨ i = 1 ∨ i = 2 ∨ i = 3 := by omega
    rcases this with rfl | rfl | rfl | rfl
    · exact blankB_hi _ h2
    · exact blankB_hi _ h3
    · exact blankB_hi _ h4
    · exact blankB_hi _ h5

theorem take_drop_blank (s : ByteArray) (pos w : Nat) (hw : pos + w ≤ s.size) (h : ∀ i, i < w → blankB (s.get! (pos + i)) = false) : ∀ b ∈ (s.data.toList.drop pos).take w, blankB b = false := by
  intro b hb
  obtain ⟨i, hi, rfl⟩ := List.getElem_of_mem hb
  rw [List.length_take, List.length_drop] at hi
  rw [List.getElem_take, List.getElem_drop]
  have := h i (by omega)
  rwa [get_at s (pos + i) (by omega)] at this

theorem spans_words (s : ByteArray) : ∀ (f pos : Nat) (st : Option Nat) (acc : List (Nat × Nat)), s.size ≤ pos + f → pos ≤ s.size → (∀ a, st = some a → a < pos) →
    acc.map (fun p => pieceU s.data.toList p.1 p.2) ++ wordsGo (openPiece s.data.toList st pos) (s.data.toList.drop pos) = (closeSpans s (spansFromP blankR s f pos st acc)).map (fun p => pieceU s.data.toList p.1 p.2)
  | 0, pos, st, acc, h, hp, hst => by
    obtain rfl : pos = s.size := by omega
    have hd : s.data.toList.drop s.size = [] := List.drop_eq_nil_of_le (by rw [← size_eq]; exact Nat.le_refl _)
    rw [hd]
    cases st with
    | none => simp [spansFromP, closeSpans, openPiece, wordsGo, fin]
    | some a =>
      have := pieceU_ne s.data.toList a s.size (hst a rfl) (by rw [← size_eq]; exact Nat.le_refl _)
      simp [spansFromP, closeSpans, openPiece, this, wordsGo, fin]
  | f + 1, pos, st, acc, h, hp, hst => by
    by_cases hlt : pos < s.size
    · have hw := width_pos s pos
      have hwn : pos + (Utf8.decode s pos).2 ≤ s.size := by
        have := decodeN_le_n' (s.size - pos) (s.get! pos).toNat (s.get! (pos + 1)).toNat (s.get! (pos + 2)).toNat (s.get! (pos + 3)).toNat (by omega)
        rw [← decode_at] at this
        omega
      obtain ⟨hy, hn⟩ := rune_bytes s pos hlt
      have hsplit : s.data.toList.drop pos = (s.data.toList.drop pos).take (Utf8.decode s pos).2 ++ s.data.toList.drop (pos + (Utf8.decode s pos).2) := by
        rw [← List.drop_drop, List.take_append_drop]
      simp only [spansFromP, if_pos hlt]
      cases hsp : blankR (Utf8.decode s pos).1 with
      | true =>
        obtain ⟨h1, h2⟩ := hy hsp
        have hone : s.data.toList.drop pos = s.get! pos :: s.data.toList.drop (pos + 1) := by
          rw [get_at s pos hlt]
          exact List.drop_eq_getElem_cons (by rw [← size_eq]; exact hlt)
        rw [h1] at hwn
        simp only [if_true, h1]
        cases st with
        | none =>
          have ih := spans_words s f (pos + 1) none acc (by omega) hwn (fun a h => by cases h)
          rw [hone]
          unfold wordsGo
          rw [if_pos h2]
          simpa [openPiece, fin] using ih
        | some a =>
          have hpn := pieceU_ne s.data.toList a pos (hst a rfl) (by rw [← size_eq]; omega)
          have ih := spans_words s f (pos + 1) none (acc ++ [(a, pos)]) (by omega) hwn (fun a h => by cases h)
          rw [hone]
          unfold wordsGo
          rw [if_pos h2]
          simpa [openPiece, hpn, fin] using ih
      | false =>
        have hb := take_drop_blank s pos _ hwn (hn hsp)
        simp only [Bool.false_eq_true, if_false]
        rw [hsplit, wordsGo_skip _ _ _ hb]
        cases st with
        | none =>
          have ih := spans_words s f (pos + (Utf8.decode s pos).2) (some pos) acc (by omega) hwn (fun a h => by cases h; omega)
          have e : ([] : List UInt8) ++ (s.data.toList.drop pos).take (Utf8.decode s pos).2 = pieceU s.data.toList pos (pos + (Utf8.decode s pos).2) := by
            unfold pieceU
            rw [List.nil_append, Nat.add_sub_cancel_left]
          simp only [openPiece] at ih ⊢
          rw [e]
          exact ih
        | some a =>
          have ih := spans_words s f (pos + (Utf8.decode s pos).2) (some a) acc (by omega) hwn (fun b h => by cases h; have := hst a rfl; omega)
          simp only [openPiece] at ih ⊢
          rw [pieceU_grow _ _ _ _ (Nat.le_of_lt (hst a rfl))]
          exact ih
    · obtain rfl : pos = s.size := by omega
      have hd : s.data.toList.drop s.size = [] := List.drop_eq_nil_of_le (by rw [← size_eq]; exact Nat.le_refl _)
      rw [hd, spansFromP_end blankR s _ _ _ _ hlt]
      cases st with
      | none => simp [closeSpans, openPiece, wordsGo, fin]
      | some a =>
        have := pieceU_ne s.data.toList a s.size (hst a rfl) (by rw [← size_eq]; exact Nat.le_refl _)
        simp [closeSpans, openPiece, this, wordsGo, fin]

/-- strings.FieldsFunc at blanks and tabs. -/
theorem goFieldsP_words (s : ByteArray) : (goFieldsP blankR s).map (·.data.toList) = wordsB s.data.toList := by
  have h := spans_words s s.size 0 none [] (by omega) (Nat.zero_le _) (fun a h => by cases h)
  simp only [List.map_nil, List.nil_append, openPiece, List.drop_zero] at h
  unfold wordsB goFieldsP spansOfP
  rw [h, List.map_map]
  congr 1
  funext p
  simp [pieceU]
end Go.Proofs.YtlmkhllippobaaaDoor.TxW
end
section
/- The lines of a text, and what stands ahead of a line's first number sign: strings.Split, Cut, Count at one byte. -/
set_option linter.unusedVariables false
set_option linter.unusedSimpArgs false
namespace Go.Proofs.YtlmkhllippobaaaDoor.TxW
open Go.Lib Go

theorem index_none {c : UInt8} : ∀ {l : List UInt8}, c ∉ l → index l [c] = -1
  | [], _ => rfl
  | b :: l, h => by
    have hb : ¬ c = b := fun e => h (e ▸ List.mem_cons_self)
    have ih := index_none (l := l) (fun hm => h (List.mem_cons_of_mem _ hm))
    unfold index
    rw [if_neg (by simp [hb]), if_pos (by rw [ih]; rfl)]
theorem index_mid {c : UInt8} : ∀ {a t : List UInt8}, c ∉ a → index (a ++ c :: t) [c] = (a.length : Int)
  | [], t, _ => by
    rw [List.nil_append]
    unfold index
    rw [if_pos (by simp)]
    rfl
  | b :: a, t, h => by
    have hb : ¬ c = b := fun e => h (e ▸ List.mem_cons_self)
    have ih := index_mid (a := a) (t := t) (fun hm => h (List.mem_cons_of_mem _ hm))
    rw [List.cons_append]
    unfold index
    rw [if_neg (by simp [hb]), if_neg (by rw [ih]; simp), ih, List.length_cons]
    omega

def linesGo : List UInt8 → List UInt8 → List (List UInt8)
  | cur, [] => [cur]
  | cur, b :: t => if b = 10 then cur :: linesGo [] t else linesGo (cur ++ [b]) t
def linesB (l : List UInt8) : List (List UInt8) := linesGo [] l

theorem linesGo_split : ∀ (l cur : List UInt8), 10 ∉ cur → linesGo cur l = splitK [10] 0 (count (cur ++ l) [10]) (cur ++ l)
  | [], cur, h => by
    rw [List.append_nil, count_miss (index_none h)]
    rfl
  | b :: t, cur, h => by
    unfold linesGo
    by_cases hb : b = 10
    · subst hb
      rw [if_pos rfl, linesGo_split t [] (by simp)]
      have hi := index_mid (t := t) h
      rw [count_hit (i := cur.length) (by simp) hi]
      have hd : (cur ++ (10 : UInt8) :: t).drop (cur.length + [(10 : UInt8)].length) = t := by
        rw [List.length_singleton, ← List.drop_drop, List.drop_left]
        rfl
      rw [hd, Nat.add_comm 1, List.nil_append]
      unfold splitK
      rw [if_neg (by rw [hi]; simp), hi, Int.toNat_natCast, hd, Nat.add_zero, List.take_left]
      cases count t [10] <;> rfl
    · rw [if_neg hb, linesGo_split t (cur ++ [b]) (by simp [h]; exact fun e => hb e.symm), List.append_assoc]
      rfl

theorem split_lines (s : ByteArray) : (splitB ⟨#[10]⟩ 0 (countB s ⟨#[10]⟩) s).map (·.data.toList) = linesB s.data.toList := by
  rw [splitB_data]
  unfold linesB
  rw [linesGo_split _ [] (by simp), List.nil_append]
theorem linesGo_count : ∀ (l cur : List UInt8), (linesGo cur l).length = l.count 10 + 1
  | [], cur => by simp [linesGo]
  | b :: t, cur => by
    unfold linesGo
    by_cases hb : b = 10
    · subst hb
      rw [if_pos rfl, List.length_cons, linesGo_count t, List.count_cons_self]
    · rw [if_neg hb, linesGo_count t, List.count_cons_of_ne hb]

/-- What stands ahead of a line's first number sign. -/
def headOf (l : List UInt8) : List UInt8 := l.takeWhile (· != 35)
theorem split_first (c : UInt8) : ∀ (l : List UInt8), c ∉ l ∨ ∃ a t, l = a ++ c :: t ∧ c ∉ a
  | [] => .inl (by simp)
  | b :: l => by
    by_cases hb : b = c
    · exact .inr ⟨[], l, by rw [hb]; rfl, by simp⟩
    · rcases split_first c l with h | ⟨a, t, rfl, h⟩
      · exact .inl (by simp [h]; exact fun e => hb e.symm)
      · exact .inr ⟨b :: a, t, rfl, by simp [h]; exact fun e => hb e.symm⟩
theorem cut_headOf (l : List UInt8) : (cut l [35]).1 = headOf l := by
  unfold cut headOf
  rcases split_first 35 l with h | ⟨a, t, rfl, h⟩
  · rw [index_none h, if_neg (by decide)]
    have h2 := List.takeWhile_append_of_pos (p := (· != 35)) (l₁ := l) (l₂ := []) (fun x hx => by
      simp only [bne_iff_ne]
      rintro rfl
      exact h hx)
    rw [List.append_nil] at h2
    rw [h2]
    simp
  · rw [index_mid h, if_pos (by omega)]
    simp only [Int.toNat_natCast, List.take_left]
    rw [List.takeWhile_append_of_pos (fun x hx => by
      simp only [bne_iff_ne]
      rintro rfl
      exact h hx), List.takeWhile_cons_of_neg (by simp), List.append_nil]
/-- A word that has one colon: what stands ahead of it, and behind. -/
theorem cut_one (l : List UInt8) (h : l.count 58 = 1) : ∃ a t, l = a ++ 58 :: t ∧ 58 ∉ a ∧ 58 ∉ t ∧ cut l [58] = (a, t, true) := by
  rcases split_first 58 l with hn | ⟨a, t, rfl, ha⟩
  · rw [List.count_eq_zero_of_not_mem hn] at h
    omega
  · refine ⟨a, t, rfl, ha, ?_, ?_⟩
    · rw [List.count_append, List.count_cons_self, List.count_eq_zero_of_not_mem ha] at h
      intro hm
      have := List.count_pos_iff.2 hm
      omega
    · unfold cut
      rw [index_mid ha, if_pos (by omega)]
      simp only [Int.toNat_natCast, List.take_left, List.length_singleton]
      rw [← List.drop_drop, List.drop_left]
      rfl
end Go.Proofs.YtlmkhllippobaaaDoor.TxW
end
section
/- What a text is: the plain meaning of text.Parse and text.Func, no program in sight. -/
set_option linter.unusedVariables false
namespace Go.Proofs.YtlmkhllippobaaaDoor.Tx
open Go.RowKit Go.Proofs.YtlmkhllippobaaaDoor.Wl Go.Proofs.YtlmkhllippobaaaDoor.Kd Go.Proofs.YtlmkhllippobaaaDoor.TxW

abbrev TFunc := S28
abbrev TBlock := S52
abbrev TPhi := S76
abbrev TIn := S79
abbrev TIns := S46
abbrev TTerm := S49

/-! ### numbers -/
def numW (s : ByteArray) : Option Int := if (parseW s.data.toList).2 then some (parseW s.data.toList).1 else none
def numsW : List ByteArray → Option (List Int)
  | [] => some []
  | s :: t => match numW s, numsW t with
    | some n, some l => some (n :: l)
    | _, _ => none
theorem numsW_len : ∀ {l : List ByteArray} {n : List Int}, numsW l = some n → n.length = l.length
  | [], n, h => by cases h; rfl
  | s :: t, n, h => by
    unfold numsW at h
    split at h
    · rename_i m l h1 h2
      cases h
      rw [List.length_cons, List.length_cons, numsW_len h2]
    · cases h

/-! ### a line -/
structure St where
  params : Int
  blocks : List TBlock
  at_ : Int
def st0 : St := ⟨0, [], 0⟩

def insAll : List ByteArray → Option (List TIn)
  | [] => some []
  | s :: t => match numW ⟨(Lib.cut s.data.toList [58]).1.toArray⟩, numW ⟨(Lib.cut s.data.toList [58]).2.1.toArray⟩, insAll t with
    | some a, some b, some l => some (⟨a, b⟩ :: l)
    | _, _, _ => none
def oneColon (s : ByteArray) : Bool := Lib.countByte s.data.toList 58 == 1
def phiW : List ByteArray → Except Int TPhi
  | [] => .error 70
  | d :: t => if t.all oneColon then
      (match numW d, insAll t with
        | some n, some l => .ok ⟨n, l⟩
        | _, _ => .error 71)
    else .error 70
def counts (op : Int) : Int × Int := if op = 1 then (2, 2) else if op = 17 then (2, 6) else if op = 18 then (4, 4) else (3, 3)
def mkIns (op : Int) (n : List Int) : TIns :=
  if op = 1 then ⟨op, n.getD 0 0, 0, [], n.getD 1 0⟩
  else if op = 15 then ⟨op, n.getD 0 0, 0, (n.drop 1).take 1, n.getD 2 0⟩
  else if op = 16 then ⟨op, 0, 0, n.take 2, n.getD 2 0⟩
  else if op = 17 then ⟨op, n.getD 0 0, 0, n.drop 2, n.getD 1 0⟩
  else if op = 18 then ⟨op, n.getD 0 0, n.getD 1 0, n.drop 2, 0⟩
  else ⟨op, n.getD 0 0, 0, n.drop 1, 0⟩
def insW (op : Int) (l : List ByteArray) : Except Int TIns :=
  if (counts op).1 ≤ l.length ∧ l.length ≤ (counts op).2 then
    (match numsW l with
      | some n => .ok (mkIns op n)
      | none => .error 71)
  else .error 70
def tcounts (kind : Int) (n : Nat) : Int × Int := if kind = 1 then (1, 1) else if kind = 2 then (3, 3) else if kind = 3 then (2, n) else if kind = 4 then (0, 1) else if kind = 5 then (1, 1) else (0, 0)
def mkTerm (kind : Int) (n : List Int) : TTerm :=
  if kind = 1 then ⟨kind, [], n, 0⟩
  else if kind = 4 then ⟨kind, n, [], 0⟩
  else if kind = 5 then ⟨kind, [], [], n.getD 0 0⟩
  else ⟨kind, n.take 1, n.drop 1, 0⟩
def termW (kind : Int) (l : List ByteArray) : Except Int TTerm :=
  if (tcounts kind l.length).1 ≤ l.length ∧ l.length ≤ (tcounts kind l.length).2 then
    (match numsW l with
      | some n => .ok (mkTerm kind n)
      | none => .error 71)
  else .error 70

def bFunc : ByteArray := ⟨#[102, 117, 110, 99]⟩
def bBlock : ByteArray := ⟨#[98, 108, 111, 99, 107]⟩
def bPhi : ByteArray := ⟨#[112, 104, 105]⟩
def termList : List (List UInt8) := Lib.fields [106, 117, 109, 112, 32, 98, 114, 97, 110, 99, 104, 32, 115, 119, 105, 116, 99, 104, 32, 114, 101, 116, 32, 116, 114, 97, 112]
def termStrs : List ByteArray := termList.map (fun l => ⟨l.toArray⟩)
def zTerm : TTerm := ⟨0, [], [], 0⟩
def zBlock : TBlock := ⟨[], [], zTerm⟩
/-- The last block, turned. -/
def onLast (f : TBlock → TBlock) (l : List TBlock) : List TBlock := l.set (l.length - 1) (f (l.getD (l.length - 1) zBlock))
def kindOf (s : ByteArray) : Int := 1 + Lib.idxOfS termStrs s
def opOf (s : ByteArray) : Int := 1 + Lib.idxOfS nameStrs s

def stepW (st : St) (first : ByteArray) (rest : List ByteArray) : Except Int St :=
  if first = bFunc then
    (if st.at_ = 0 ∧ rest.length = 1 then
      (match numsW rest with
        | some n => .ok ⟨n.getD 0 0, st.blocks, 1⟩
        | none => .error 71)
    else .error 70)
  else if first = bBlock then
    (if st.at_ = 1 ∧ rest.length = 1 then
      (match numsW rest with
        | some n => if n.getD 0 0 = st.blocks.length then .ok ⟨st.params, st.blocks ++ [zBlock], 2⟩ else .error 70
        | none => .error 71)
    else .error 70)
  else if first = bPhi then
    (if st.at_ = 2 then
      (match phiW rest with
        | .ok x => .ok ⟨st.params, onLast (fun b => ⟨b.f0 ++ [x], b.f1, b.f2⟩) st.blocks, 2⟩
        | .error e => .error e)
    else .error 70)
  else if 0 < opOf first then
    (if 2 ≤ st.at_ then
      (match insW (opOf first) rest with
        | .ok x => .ok ⟨st.params, onLast (fun b => ⟨b.f0, b.f1 ++ [x], b.f2⟩) st.blocks, 3⟩
        | .error e => .error e)
    else .error 70)
  else if 0 < kindOf first then
    (if 2 ≤ st.at_ then
      (match termW (kindOf first) rest with
        | .ok x => .ok ⟨st.params, onLast (fun b => ⟨b.f0, b.f1, x⟩) st.blocks, 1⟩
        | .error e => .error e)
    else .error 70)
  else .error 72

/-! ### a text -/
def wordsOf (l : List UInt8) : List ByteArray := (wordsB (headOf l)).map (fun x => ⟨x.toArray⟩)
/-- The lines that have words; i: the number of the first one. -/
def scan {σ : Type} (f : σ → ByteArray → List ByteArray → Except Int σ) : Nat → σ → List (List UInt8) → Except (Nat × Int) σ
  | _, s, [] => .ok s
  | i, s, l :: t => match wordsOf l with
    | [] => scan f (i + 1) s t
    | w :: ws => match f s w ws with
      | .ok s' => scan f (i + 1) s' t
      | .error e => .error (i, e)
def zFunc : TFunc := ⟨0, []⟩
def parseT (s : List UInt8) : TFunc × Int × Int :=
  match scan stepW 1 st0 (linesB s) with
  | .error (n, e) => (zFunc, n, e)
  | .ok st => if st.at_ = 1 ∧ st.blocks ≠ [] then (⟨st.params, st.blocks⟩, 0, 0) else (zFunc, (linesB s).length, 70)

/-! ### a function as text -/
def d (n : Int) : List UInt8 := 32 :: Lib.itoa n
def ds (l : List Int) : List UInt8 := l.flatMap d
def nameL (op : Int) : List UInt8 := if 1 ≤ op ∧ op ≤ 18 then nameList.getD (op.toNat - 1) [] else []
def insText (x : TIns) : List UInt8 :=
  if x.f0 = 1 then nameL x.f0 ++ d x.f1 ++ d x.f4
  else if 2 ≤ x.f0 ∧ x.f0 ≤ 14 then nameL x.f0 ++ d x.f1 ++ ds x.f3
  else if x.f0 = 15 then nameL x.f0 ++ d x.f1 ++ ds x.f3 ++ d x.f4
  else if x.f0 = 16 then nameL x.f0 ++ ds x.f3 ++ d x.f4
  else if x.f0 = 17 then nameL x.f0 ++ d x.f1 ++ d x.f4 ++ ds x.f3
  else if x.f0 = 18 then nameL x.f0 ++ d x.f1 ++ d x.f2 ++ ds x.f3
  else [63]
def termText (t : TTerm) : List UInt8 :=
  if t.f0 < 1 ∨ 5 < t.f0 then [63]
  else if t.f0 = 5 then [116, 114, 97, 112] ++ d t.f3
  else termList.getD (t.f0.toNat - 1) [] ++ ds t.f1 ++ ds t.f2
def inText (x : TIn) : List UInt8 := 32 :: (Lib.itoa x.f0 ++ 58 :: Lib.itoa x.f1)
def phiText (p : TPhi) : List UInt8 := [112, 104, 105] ++ d p.f0 ++ p.f1.flatMap inText ++ [10]
def blockText (i : Nat) (b : TBlock) : List UInt8 :=
  [98, 108, 111, 99, 107] ++ d i ++ [10] ++ b.f0.flatMap phiText ++ b.f1.flatMap (fun x => insText x ++ [10]) ++ termText b.f2 ++ [10]
def blocksText : Nat → List TBlock → List UInt8
  | _, [] => []
  | i, b :: t => blockText i b ++ blocksText (i + 1) t
def funcText (f : TFunc) : List UInt8 := [102, 117, 110, 99] ++ d f.f0 ++ [10] ++ blocksText 0 f.f1
end Go.Proofs.YtlmkhllippobaaaDoor.Tx
end
section
/- text.writer.ins: an instruction's line, walked. -/
set_option linter.unusedVariables false
set_option linter.unusedSimpArgs false
namespace Go.Proofs.YtlmkhllippobaaaDoor.Wb
open Go.RowKit Go.Proofs.YtlmkhllippobaaaDoorW.PrintWords Go.Proofs.YtlmkhllippobaaaDoor.Wl Go.Proofs.YtlmkhllippobaaaDoor.Tx Go.Proofs.YtlmkhllippobaaaDoor.Kd

theorem own_items (W : World) (B : Nat) (items : List Item) (hB : B ≤ W.heap.size) (hm : items.length ≤ 9223372036854775807) :
    (W.alloc (.cells (items.map Item.cell).toArray 20)).ownsRow B 20 1 (.slice (some ⟨W.heap.size, 0, none⟩) items.length items.length) items.length (items.map Item.cell) :=
  own_lit_of (enc := Item.cell) W B 20 items hB hm
/-- A line whose words stand in a slice made for it. -/
theorem line_lit (B b : Nat) (l : List UInt8) (first : ByteArray) (items : List Item) (w : World)
    (HG : ∀ w', Below B w w' → LaidT w') (hW : Wr B b l w) (hB : B ≤ w.heap.size) (hm : items.length ≤ 9223372036854775807)
    (hread : ∀ it ∈ items, ∀ w', Below B w w' → it.ok w')
    (hlen : l.length + (lineText first.data.toList items).length ≤ 140737488355328) :
    Calls Tryd.prog 21 #[.pointer (some ⟨b, 0, none⟩), .string first, .slice (some ⟨w.heap.size, 0, none⟩) items.length items.length] (w.alloc (.cells (items.map Item.cell).toArray 20)) fun e w' => e = .returned (.tuple #[]) ∧ Wr B b (l ++ lineText first.data.toList items) w' ∧ Below B w w' ∧ Lib.OthersKept 5 (some b) w w' := by
  have hb : Below B w (w.alloc (.cells (items.map Item.cell).toArray 20)) := (Below.refl B w).alloc hB _
  refine (line_calls B b l first _ items _ ⟨fun w' h => HG w' (hb.trans h)⟩ (wr_below hW ((Below.refl _ w).alloc (Nat.le_refl _) _)) (Nat.le_trans hB hb.size) (own_items w B items hB hm) ⟨fun it hi w' h => hread it hi w' (hb.trans h)⟩ hlen).mono ?_
  rintro e w1 ⟨rfl, h1, h2, h3⟩
  exact ⟨rfl, h1, hb.trans h2, (others_below ((Below.refl _ w).alloc (Nat.le_refl _) _)).trans h3⟩

/-- The numbers of an instruction are such. -/
structure InsOK (x : TIns) : Prop where
  op : -9223372036854775808 ≤ x.f0 ∧ x.f0 ≤ 9223372036854775807
  dst : -9223372036854775808 ≤ x.f1 ∧ x.f1 ≤ 9223372036854775807
  two : -9223372036854775808 ≤ x.f2 ∧ x.f2 ≤ 9223372036854775807
  args : ∀ n ∈ x.f3, -9223372036854775808 ≤ n ∧ n ≤ 9223372036854775807
  imm : -2147483648 ≤ x.f4 ∧ x.f4 ≤ 2147483647

theorem d_eq : d = dL := rfl
theorem nameL_f (op : Int) : word_Name.f op = some ⟨(nameL op).toArray⟩ := by
  unfold word_Name.f nameL
  split <;> rfl


set_option maxHeartbeats 8000000 in
set_option maxRecDepth 1000000 in
theorem ins_calls (B b : Nat) (l : List UInt8) (op dst two imm : Int) (xs : List Int) (A3 : Option Addr) (c3 : Nat) (w : World)
    (HG : Aside0 (∀ w', Below B w w' → Laid w')) (hW : Wr B b l w) (hB : B ≤ w.heap.size)
    (hC : Aside0 (∀ w', Below B w w' → (Kd.int .i64).C w' A3 xs.length xs)) (hok : Aside0 (InsOK ⟨op, dst, two, xs, imm⟩))
    (hlen : l.length + (insText ⟨op, dst, two, xs, imm⟩).length + 1 ≤ 140737488355328) :
    Calls Tryd.prog 23 #[.pointer (some ⟨b, 0, none⟩), .agg #[.int .i64 op, .int .i64 dst, .int .i64 two, .slice A3 xs.length c3, .int .i32 imm]] w fun e w' => e = .returned (.tuple #[]) ∧ Wr B b (l ++ insText ⟨op, dst, two, xs, imm⟩ ++ [10]) w' ∧ Below B w w' ∧ Lib.OthersKept 5 (some b) w w' := by
  by_cases q0 : op = 1
  · subst q0
    have hT : insText ⟨1, dst, two, xs, imm⟩ ++ [10] = lineText (nameL 1) [Item.int dst, Item.w32 imm] := by
      unfold insText lineText
      simp [Item.text, d_eq, ds, List.append_assoc]
    have hlen2 : l.length + (lineText (nameL 1) [Item.int dst, Item.w32 imm]).length ≤ 140737488355328 := by rw [← hT, List.length_append, List.length_singleton]; omega
    have HT := Lib.hid hT
    have HL := Lib.hid hlen2
    clear hT hlen hlen2
    go_enter Tryd.func23, Tryd.ntmps23
    go_wp2_with fail
    have hb0 : Below B w (w.alloc (.cells #[.int .i64 1, .int .i64 dst, .int .i64 two, .slice A3 xs.length c3, .int .i32 imm] 46)) := (Below.refl B w).alloc hB _
    refine (word_Name.calls 1 _ _ ⟨HG.out _ hb0⟩ (nameL_f 1)).mono ?_
    rintro e w2 ⟨rfl, hb2⟩
    have hbox := blk_below (heap_alloc_new w (.cells #[.int .i64 1, .int .i64 dst, .int .i64 two, .slice A3 xs.length c3, .int .i32 imm] 46)) hb2
    have HB0 : Aside0 (Below B w w2) := ⟨hb0.trans (hb2.mono (Nat.le_trans hB hb0.size))⟩
    have HW2 : Aside0 (Wr B b l w2) := ⟨wr_below (wr_below hW ((Below.refl _ w).alloc (Nat.le_refl _) _)) hb2⟩
    have HO2 : Aside0 (Lib.OthersKept 5 (some b) w w2) := ⟨(others_below ((Below.refl _ w).alloc (Nat.le_refl _) _)).trans (others_below hb2)⟩
    have HS2 : Aside0 (B ≤ w2.heap.size) := ⟨Nat.le_trans hB HB0.out.size⟩
    have k0 : w2.cell? ⟨w.heap.size, 0, none⟩ = some (.int .i64 1) := by rw [Lib.cell_of_heap hbox]; rfl
    have k1 : w2.cell? ⟨w.heap.size, 1, none⟩ = some (.int .i64 dst) := by rw [Lib.cell_of_heap hbox]; rfl
    have k2 : w2.cell? ⟨w.heap.size, 2, none⟩ = some (.int .i64 two) := by rw [Lib.cell_of_heap hbox]; rfl
    have k3 : w2.cell? ⟨w.heap.size, 3, none⟩ = some (.slice A3 xs.length c3) := by rw [Lib.cell_of_heap hbox]; rfl
    have k4 : w2.cell? ⟨w.heap.size, 4, none⟩ = some (.int .i32 imm) := by rw [Lib.cell_of_heap hbox]; rfl
    clear hb0 hb2 hbox hW hB
    obtain ⟨nm, hnm⟩ : ∃ nm : ByteArray, nm = ⟨(nameL 1).toArray⟩ := ⟨_, rfl⟩
    have hnl : nm.data.toList = nameL 1 := by rw [hnm]
    rw [← hnm]
    have HNL := Lib.hid hnl
    clear hnl hnm
    go_wp2_with fail
    refine (line_lit B b l nm [Item.int dst, Item.w32 imm] w2 (fun w' hb' => (HG.out w' (HB0.out.trans hb')).t) HW2.out HS2.out (by simp) ?ok0 (by rw [HNL.out]; exact HL.out)).mono ?_
    case ok0 =>
      intro it hit w' hb'
      simp only [List.mem_cons, List.mem_nil_iff, or_false] at hit
      rcases hit with rfl | rfl
      · exact hok.out.dst
      · exact hok.out.imm
    rintro e w3 ⟨rfl, h1, h2, h3⟩
    go_wp2
    go_end0
    rw [HNL.out, ← HT.out, ← List.append_assoc] at h1
    exact ⟨rfl, h1, HB0.out.trans h2, HO2.out.trans h3⟩
  by_cases q1 : 2 ≤ op ∧ op ≤ 14
  · have e1 : (op == 1) = false := by rw [beq_eq_false_iff_ne]; omega
    have e2 : decide (2 ≤ op) = true := by simp; omega
    have e3 : decide (op ≤ 14) = true := by simp; omega
    have hT : insText ⟨op, dst, two, xs, imm⟩ ++ [10] = lineText (nameL op) [Item.int dst, Item.ints (.slice A3 xs.length c3) xs] := by
      unfold insText lineText
      rw [if_neg (by simp; omega), if_pos (by simpa using q1)]
      simp [Item.text, d_eq, ds, List.append_assoc]
    have hlen2 : l.length + (lineText (nameL op) [Item.int dst, Item.ints (.slice A3 xs.length c3) xs]).length ≤ 140737488355328 := by rw [← hT, List.length_append, List.length_singleton]; omega
    have HT := Lib.hid hT
    have HL := Lib.hid hlen2
    clear hT hlen hlen2
    go_enter Tryd.func23, Tryd.ntmps23
    go_wp2_with fail
    have hb0 : Below B w (w.alloc (.cells #[.int .i64 op, .int .i64 dst, .int .i64 two, .slice A3 xs.length c3, .int .i32 imm] 46)) := (Below.refl B w).alloc hB _
    refine (word_Name.calls op _ _ ⟨HG.out _ hb0⟩ (nameL_f op)).mono ?_
    rintro e w2 ⟨rfl, hb2⟩
    have hbox := blk_below (heap_alloc_new w (.cells #[.int .i64 op, .int .i64 dst, .int .i64 two, .slice A3 xs.length c3, .int .i32 imm] 46)) hb2
    have HB0 : Aside0 (Below B w w2) := ⟨hb0.trans (hb2.mono (Nat.le_trans hB hb0.size))⟩
    have HW2 : Aside0 (Wr B b l w2) := ⟨wr_below (wr_below hW ((Below.refl _ w).alloc (Nat.le_refl _) _)) hb2⟩
    have HO2 : Aside0 (Lib.OthersKept 5 (some b) w w2) := ⟨(others_below ((Below.refl _ w).alloc (Nat.le_refl _) _)).trans (others_below hb2)⟩
    have HS2 : Aside0 (B ≤ w2.heap.size) := ⟨Nat.le_trans hB HB0.out.size⟩
    have k0 : w2.cell? ⟨w.heap.size, 0, none⟩ = some (.int .i64 op) := by rw [Lib.cell_of_heap hbox]; rfl
    have k1 : w2.cell? ⟨w.heap.size, 1, none⟩ = some (.int .i64 dst) := by rw [Lib.cell_of_heap hbox]; rfl
    have k2 : w2.cell? ⟨w.heap.size, 2, none⟩ = some (.int .i64 two) := by rw [Lib.cell_of_heap hbox]; rfl
    have k3 : w2.cell? ⟨w.heap.size, 3, none⟩ = some (.slice A3 xs.length c3) := by rw [Lib.cell_of_heap hbox]; rfl
    have k4 : w2.cell? ⟨w.heap.size, 4, none⟩ = some (.int .i32 imm) := by rw [Lib.cell_of_heap hbox]; rfl
    clear hb0 hb2 hbox hW hB
    obtain ⟨nm, hnm⟩ : ∃ nm : ByteArray, nm = ⟨(nameL op).toArray⟩ := ⟨_, rfl⟩
    have hnl : nm.data.toList = nameL op := by rw [hnm]
    rw [← hnm]
    have HNL := Lib.hid hnl
    clear hnl hnm
    go_wp2_with fail
    refine (line_lit B b l nm [Item.int dst, Item.ints (.slice A3 xs.length c3) xs] w2 (fun w' hb' => (HG.out w' (HB0.out.trans hb')).t) HW2.out HS2.out (by simp) ?ok1 (by rw [HNL.out]; exact HL.out)).mono ?_
    case ok1 =>
      intro it hit w' hb'
      simp only [List.mem_cons, List.mem_nil_iff, or_false] at hit
      rcases hit with rfl | rfl
      · exact hok.out.dst
      · exact ⟨A3, c3, rfl, hC.out w' (HB0.out.trans hb'), hok.out.args⟩
    rintro e w3 ⟨rfl, h1, h2, h3⟩
    go_wp2
    go_end0
    rw [HNL.out, ← HT.out, ← List.append_assoc] at h1
    exact ⟨rfl, h1, HB0.out.trans h2, HO2.out.trans h3⟩
  by_cases q2 : op = 15
  · subst q2
    have hT : insText ⟨15, dst, two, xs, imm⟩ ++ [10] = lineText (nameL 15) [Item.int dst, Item.ints (.slice A3 xs.length c3) xs, Item.w32 imm] := by
      unfold insText lineText
      simp [Item.text, d_eq, ds, List.append_assoc]
    have hlen2 : l.length + (lineText (nameL 15) [Item.int dst, Item.ints (.slice A3 xs.length c3) xs, Item.w32 imm]).length ≤ 140737488355328 := by rw [← hT, List.length_append, List.length_singleton]; omega
    have HT := Lib.hid hT
    have HL := Lib.hid hlen2
    clear hT hlen hlen2
    go_enter Tryd.func23, Tryd.ntmps23
    go_wp2_with fail
    have hb0 : Below B w (w.alloc (.cells #[.int .i64 15, .int .i64 dst, .int .i64 two, .slice A3 xs.length c3, .int .i32 imm] 46)) := (Below.refl B w).alloc hB _
    refine (word_Name.calls 15 _ _ ⟨HG.out _ hb0⟩ (nameL_f 15)).mono ?_
    rintro e w2 ⟨rfl, hb2⟩
    have hbox := blk_below (heap_alloc_new w (.cells #[.int .i64 15, .int .i64 dst, .int .i64 two, .slice A3 xs.length c3, .int .i32 imm] 46)) hb2
    have HB0 : Aside0 (Below B w w2) := ⟨hb0.trans (hb2.mono (Nat.le_trans hB hb0.size))⟩
    have HW2 : Aside0 (Wr B b l w2) := ⟨wr_below (wr_below hW ((Below.refl _ w).alloc (Nat.le_refl _) _)) hb2⟩
    have HO2 : Aside0 (Lib.OthersKept 5 (some b) w w2) := ⟨(others_below ((Below.refl _ w).alloc (Nat.le_refl _) _)).trans (others_below hb2)⟩
    have HS2 : Aside0 (B ≤ w2.heap.size) := ⟨Nat.le_trans hB HB0.out.size⟩
    have k0 : w2.cell? ⟨w.heap.size, 0, none⟩ = some (.int .i64 15) := by rw [Lib.cell_of_heap hbox]; rfl
    have k1 : w2.cell? ⟨w.heap.size, 1, none⟩ = some (.int .i64 dst) := by rw [Lib.cell_of_heap hbox]; rfl
    have k2 : w2.cell? ⟨w.heap.size, 2, none⟩ = some (.int .i64 two) := by rw [Lib.cell_of_heap hbox]; rfl
    have k3 : w2.cell? ⟨w.heap.size, 3, none⟩ = some (.slice A3 xs.length c3) := by rw [Lib.cell_of_heap hbox]; rfl
    have k4 : w2.cell? ⟨w.heap.size, 4, none⟩ = some (.int .i32 imm) := by rw [Lib.cell_of_heap hbox]; rfl
    clear hb0 hb2 hbox hW hB
    obtain ⟨nm, hnm⟩ : ∃ nm : ByteArray, nm = ⟨(nameL 15).toArray⟩ := ⟨_, rfl⟩
    have hnl : nm.data.toList = nameL 15 := by rw [hnm]
    rw [← hnm]
    have HNL := Lib.hid hnl
    clear hnl hnm
    go_wp2_with fail
    refine (line_lit B b l nm [Item.int dst, Item.ints (.slice A3 xs.length c3) xs, Item.w32 imm] w2 (fun w' hb' => (HG.out w' (HB0.out.trans hb')).t) HW2.out HS2.out (by simp) ?ok2 (by rw [HNL.out]; exact HL.out)).mono ?_
    case ok2 =>
      intro it hit w' hb'
      simp only [List.mem_cons, List.mem_nil_iff, or_false] at hit
      rcases hit with rfl | rfl | rfl
      · exact hok.out.dst
      · exact ⟨A3, c3, rfl, hC.out w' (HB0.out.trans hb'), hok.out.args⟩
      · exact hok.out.imm
    rintro e w3 ⟨rfl, h1, h2, h3⟩
    go_wp2
    go_end0
    rw [HNL.out, ← HT.out, ← List.append_assoc] at h1
    exact ⟨rfl, h1, HB0.out.trans h2, HO2.out.trans h3⟩
  by_cases q3 : op = 16
  · subst q3
    have hT : insText ⟨16, dst, two, xs, imm⟩ ++ [10] = lineText (nameL 16) [Item.ints (.slice A3 xs.length c3) xs, Item.w32 imm] := by
      unfold insText lineText
      simp [Item.text, d_eq, ds, List.append_assoc]
    have hlen2 : l.length + (lineText (nameL 16) [Item.ints (.slice A3 xs.length c3) xs, Item.w32 imm]).length ≤ 140737488355328 := by rw [← hT, List.length_append, List.length_singleton]; omega
    have HT := Lib.hid hT
    have HL := Lib.hid hlen2
    clear hT hlen hlen2
    go_enter Tryd.func23, Tryd.ntmps23
    go_wp2_with fail
    have hb0 : Below B w (w.alloc (.cells #[.int .i64 16, .int .i64 dst, .int .i64 two, .slice A3 xs.length c3, .int .i32 imm] 46)) := (Below.refl B w).alloc hB _
    refine (word_Name.calls 16 _ _ ⟨HG.out _ hb0⟩ (nameL_f 16)).mono ?_
    rintro e w2 ⟨rfl, hb2⟩
    have hbox := blk_below (heap_alloc_new w (.cells #[.int .i64 16, .int .i64 dst, .int .i64 two, .slice A3 xs.length c3, .int .i32 imm] 46)) hb2
    have HB0 : Aside0 (Below B w w2) := ⟨hb0.trans (hb2.mono (Nat.le_trans hB hb0.size))⟩
    have HW2 : Aside0 (Wr B b l w2) := ⟨wr_below (wr_below hW ((Below.refl _ w).alloc (Nat.le_refl _) _)) hb2⟩
    have HO2 : Aside0 (Lib.OthersKept 5 (some b) w w2) := ⟨(others_below ((Below.refl _ w).alloc (Nat.le_refl _) _)).trans (others_below hb2)⟩
    have HS2 : Aside0 (B ≤ w2.heap.size) := ⟨Nat.le_trans hB HB0.out.size⟩
    have k0 : w2.cell? ⟨w.heap.size, 0, none⟩ = some (.int .i64 16) := by rw [Lib.cell_of_heap hbox]; rfl
    have k1 : w2.cell? ⟨w.heap.size, 1, none⟩ = some (.int .i64 dst) := by rw [Lib.cell_of_heap hbox]; rfl
    have k2 : w2.cell? ⟨w.heap.size, 2, none⟩ = some (.int .i64 two) := by rw [Lib.cell_of_heap hbox]; rfl
    have k3 : w2.cell? ⟨w.heap.size, 3, none⟩ = some (.slice A3 xs.length c3) := by rw [Lib.cell_of_heap hbox]; rfl
    have k4 : w2.cell? ⟨w.heap.size, 4, none⟩ = some (.int .i32 imm) := by rw [Lib.cell_of_heap hbox]; rfl
    clear hb0 hb2 hbox hW hB
    obtain ⟨nm, hnm⟩ : ∃ nm : ByteArray, nm = ⟨(nameL 16).toArray⟩ := ⟨_, rfl⟩
    have hnl : nm.data.toList = nameL 16 := by rw [hnm]
    rw [← hnm]
    have HNL := Lib.hid hnl
    clear hnl hnm
    go_wp2_with fail
    refine (line_lit B b l nm [Item.ints (.slice A3 xs.length c3) xs, Item.w32 imm] w2 (fun w' hb' => (HG.out w' (HB0.out.trans hb')).t) HW2.out HS2.out (by simp) ?ok3 (by rw [HNL.out]; exact HL.out)).mono ?_
    case ok3 =>
      intro it hit w' hb'
      simp only [List.mem_cons, List.mem_nil_iff, or_false] at hit
      rcases hit with rfl | rfl
      · exact ⟨A3, c3, rfl, hC.out w' (HB0.out.trans hb'), hok.out.args⟩
      · exact hok.out.imm
    rintro e w3 ⟨rfl, h1, h2, h3⟩
    go_wp2
    go_end0
    rw [HNL.out, ← HT.out, ← List.append_assoc] at h1
    exact ⟨rfl, h1, HB0.out.trans h2, HO2.out.trans h3⟩
  by_cases q4 : op = 17
  · subst q4
    have hT : insText ⟨17, dst, two, xs, imm⟩ ++ [10] = lineText (nameL 17) [Item.int dst, Item.w32 imm, Item.ints (.slice A3 xs.length c3) xs] := by
      unfold insText lineText
      simp [Item.text, d_eq, ds, List.append_assoc]
    have hlen2 : l.length + (lineText (nameL 17) [Item.int dst, Item.w32 imm, Item.ints (.slice A3 xs.length c3) xs]).length ≤ 140737488355328 := by rw [← hT, List.length_append, List.length_singleton]; omega
    have HT := Lib.hid hT
    have HL := Lib.hid hlen2
    clear hT hlen hlen2
    go_enter Tryd.func23, Tryd.ntmps23
    go_wp2_with fail
    have hb0 : Below B w (w.alloc (.cells #[.int .i64 17, .int .i64 dst, .int .i64 two, .slice A3 xs.length c3, .int .i32 imm] 46)) := (Below.refl B w).alloc hB _
    refine (word_Name.calls 17 _ _ ⟨HG.out _ hb0⟩ (nameL_f 17)).mono ?_
    rintro e w2 ⟨rfl, hb2⟩
    have hbox := blk_below (heap_alloc_new w (.cells #[.int .i64 17, .int .i64 dst, .int .i64 two, .slice A3 xs.length c3, .int .i32 imm] 46)) hb2
    have HB0 : Aside0 (Below B w w2) := ⟨hb0.trans (hb2.mono (Nat.le_trans hB hb0.size))⟩
    have HW2 : Aside0 (Wr B b l w2) := ⟨wr_below (wr_below hW ((Below.refl _ w).alloc (Nat.le_refl _) _)) hb2⟩
    have HO2 : Aside0 (Lib.OthersKept 5 (some b) w w2) := ⟨(others_below ((Below.refl _ w).alloc (Nat.le_refl _) _)).trans (others_below hb2)⟩
    have HS2 : Aside0 (B ≤ w2.heap.size) := ⟨Nat.le_trans hB HB0.out.size⟩
    have k0 : w2.cell? ⟨w.heap.size, 0, none⟩ = some (.int .i64 17) := by rw [Lib.cell_of_heap hbox]; rfl
    have k1 : w2.cell? ⟨w.heap.size, 1, none⟩ = some (.int .i64 dst) := by rw [Lib.cell_of_heap hbox]; rfl
    have k2 : w2.cell? ⟨w.heap.size, 2, none⟩ = some (.int .i64 two) := by rw [Lib.cell_of_heap hbox]; rfl
    have k3 : w2.cell? ⟨w.heap.size, 3, none⟩ = some (.slice A3 xs.length c3) := by rw [Lib.cell_of_heap hbox]; rfl
    have k4 : w2.cell? ⟨w.heap.size, 4, none⟩ = some (.int .i32 imm) := by rw [Lib.cell_of_heap hbox]; rfl
    clear hb0 hb2 hbox hW hB
    obtain ⟨nm, hnm⟩ : ∃ nm : ByteArray, nm = ⟨(nameL 17).toArray⟩ := ⟨_, rfl⟩
    have hnl : nm.data.toList = nameL 17 := by rw [hnm]
    rw [← hnm]
    have HNL := Lib.hid hnl
    clear hnl hnm
    go_wp2_with fail
    refine (line_lit B b l nm [Item.int dst, Item.w32 imm, Item.ints (.slice A3 xs.length c3) xs] w2 (fun w' hb' => (HG.out w' (HB0.out.trans hb')).t) HW2.out HS2.out (by simp) ?ok4 (by rw [HNL.out]; exact HL.out)).mono ?_
    case ok4 =>
      intro it hit w' hb'
      simp only [List.mem_cons, List.mem_nil_iff, or_false] at hit
      rcases hit with rfl | rfl | rfl
      · exact hok.out.dst
      · exact hok.out.imm
      · exact ⟨A3, c3, rfl, hC.out w' (HB0.out.trans hb'), hok.out.args⟩
    rintro e w3 ⟨rfl, h1, h2, h3⟩
    go_wp2
    go_end0
    rw [HNL.out, ← HT.out, ← List.append_assoc] at h1
    exact ⟨rfl, h1, HB0.out.trans h2, HO2.out.trans h3⟩
  by_cases q5 : op = 18
  · subst q5
    have hT : insText ⟨18, dst, two, xs, imm⟩ ++ [10] = lineText (nameL 18) [Item.int dst, Item.int two, Item.ints (.slice A3 xs.length c3) xs] := by
      unfold insText lineText
      simp [Item.text, d_eq, ds, List.append_assoc]
    have hlen2 : l.length + (lineText (nameL 18) [Item.int dst, Item.int two, Item.ints (.slice A3 xs.length c3) xs]).length ≤ 140737488355328 := by rw [← hT, List.length_append, List.length_singleton]; omega
    have HT := Lib.hid hT
    have HL := Lib.hid hlen2
    clear hT hlen hlen2
    go_enter Tryd.func23, Tryd.ntmps23
    go_wp2_with fail
    have hb0 : Below B w (w.alloc (.cells #[.int .i64 18, .int .i64 dst, .int .i64 two, .slice A3 xs.length c3, .int .i32 imm] 46)) := (Below.refl B w).alloc hB _
    refine (word_Name.calls 18 _ _ ⟨HG.out _ hb0⟩ (nameL_f 18)).mono ?_
    rintro e w2 ⟨rfl, hb2⟩
    have hbox := blk_below (heap_alloc_new w (.cells #[.int .i64 18, .int .i64 dst, .int .i64 two, .slice A3 xs.length c3, .int .i32 imm] 46)) hb2
    have HB0 : Aside0 (Below B w w2) := ⟨hb0.trans (hb2.mono (Nat.le_trans hB hb0.size))⟩
    have HW2 : Aside0 (Wr B b l w2) := ⟨wr_below (wr_below hW ((Below.refl _ w).alloc (Nat.le_refl _) _)) hb2⟩
    have HO2 : Aside0 (Lib.OthersKept 5 (some b) w w2) := ⟨(others_below ((Below.refl _ w).alloc (Nat.le_refl _) _)).trans (others_below hb2)⟩
    have HS2 : Aside0 (B ≤ w2.heap.size) := ⟨Nat.le_trans hB HB0.out.size⟩
    have k0 : w2.cell? ⟨w.heap.size, 0, none⟩ = some (.int .i64 18) := by rw [Lib.cell_of_heap hbox]; rfl
    have k1 : w2.cell? ⟨w.heap.size, 1, none⟩ = some (.int .i64 dst) := by rw [Lib.cell_of_heap hbox]; rfl
    have k2 : w2.cell? ⟨w.heap.size, 2, none⟩ = some (.int .i64 two) := by rw [Lib.cell_of_heap hbox]; rfl
    have k3 : w2.cell? ⟨w.heap.size, 3, none⟩ = some (.slice A3 xs.length c3) := by rw [Lib.cell_of_heap hbox]; rfl
    have k4 : w2.cell? ⟨w.heap.size, 4, none⟩ = some (.int .i32 imm) := by rw [Lib.cell_of_heap hbox]; rfl
    clear hb0 hb2 hbox hW hB
    obtain ⟨nm, hnm⟩ : ∃ nm : ByteArray, nm = ⟨(nameL 18).toArray⟩ := ⟨_, rfl⟩
    have hnl : nm.data.toList = nameL 18 := by rw [hnm]
    rw [← hnm]
    have HNL := Lib.hid hnl
    clear hnl hnm
    go_wp2_with fail
    refine (line_lit B b l nm [Item.int dst, Item.int two, Item.ints (.slice A3 xs.length c3) xs] w2 (fun w' hb' => (HG.out w' (HB0.out.trans hb')).t) HW2.out HS2.out (by simp) ?ok5 (by rw [HNL.out]; exact HL.out)).mono ?_
    case ok5 =>
      intro it hit w' hb'
      simp only [List.mem_cons, List.mem_nil_iff, or_false] at hit
      rcases hit with rfl | rfl | rfl
      · exact hok.out.dst
      · exact hok.out.two
      · exact ⟨A3, c3, rfl, hC.out w' (HB0.out.trans hb'), hok.out.args⟩
    rintro e w3 ⟨rfl, h1, h2, h3⟩
    go_wp2
    go_end0
    rw [HNL.out, ← HT.out, ← List.append_assoc] at h1
    exact ⟨rfl, h1, HB0.out.trans h2, HO2.out.trans h3⟩
  have e1 : (op == 1) = false := by rw [beq_eq_false_iff_ne]; omega
  have e15 : (op == 15) = false := by rw [beq_eq_false_iff_ne]; omega
  have e16 : (op == 16) = false := by rw [beq_eq_false_iff_ne]; omega
  have e17 : (op == 17) = false := by rw [beq_eq_false_iff_ne]; omega
  have e18 : (op == 18) = false := by rw [beq_eq_false_iff_ne]; omega
  have hT : insText ⟨op, dst, two, xs, imm⟩ ++ [10] = lineText [63] [] := by
    unfold insText lineText
    rw [if_neg q0, if_neg (by simpa using q1), if_neg q2, if_neg q3, if_neg q4, if_neg q5]
    rfl
  have hlen2 : l.length + (lineText [63] []).length ≤ 140737488355328 := by rw [← hT, List.length_append, List.length_singleton]; omega
  have HT := Lib.hid hT
  have HL := Lib.hid hlen2
  clear hT hlen hlen2
  have hg : (decide (2 ≤ op) = false) ∨ (decide (2 ≤ op) = true ∧ decide (op ≤ 14) = false) := by simp; omega
  clear q0 q1 q2 q3 q4 q5
  rcases hg with g1 | ⟨g1, g2⟩
  · go_enter Tryd.func23, Tryd.ntmps23
    go_wp2_with fail
    have hb0 : Below B w (w.alloc (.cells #[.int .i64 op, .int .i64 dst, .int .i64 two, .slice A3 xs.length c3, .int .i32 imm] 46)) := (Below.refl B w).alloc hB _
    refine (word_Name.calls op _ _ ⟨HG.out _ hb0⟩ (nameL_f op)).mono ?_
    rintro e w2 ⟨rfl, hb2⟩
    have hbox := blk_below (heap_alloc_new w (.cells #[.int .i64 op, .int .i64 dst, .int .i64 two, .slice A3 xs.length c3, .int .i32 imm] 46)) hb2
    have HB0 : Aside0 (Below B w w2) := ⟨hb0.trans (hb2.mono (Nat.le_trans hB hb0.size))⟩
    have HW2 : Aside0 (Wr B b l w2) := ⟨wr_below (wr_below hW ((Below.refl _ w).alloc (Nat.le_refl _) _)) hb2⟩
    have HO2 : Aside0 (Lib.OthersKept 5 (some b) w w2) := ⟨(others_below ((Below.refl _ w).alloc (Nat.le_refl _) _)).trans (others_below hb2)⟩
    have HS2 : Aside0 (B ≤ w2.heap.size) := ⟨Nat.le_trans hB HB0.out.size⟩
    have k0 : w2.cell? ⟨w.heap.size, 0, none⟩ = some (.int .i64 op) := by rw [Lib.cell_of_heap hbox]; rfl
    clear hb0 hb2 hbox hW hB
    go_wp2_with fail
    refine (line_calls B b l ⟨#[63]⟩ (.slice none 0 0) [] w2 ⟨fun w' hb' => (HG.out w' (HB0.out.trans hb')).t⟩ HW2.out HS2.out (own_nil _ _ _ _) ⟨fun it hit => by cases hit⟩ HL.out).mono ?_
    rintro e w3 ⟨rfl, h1, h2, h3⟩
    go_wp2
    go_end0
    have h1 : Wr B b (l ++ lineText [63] []) w3 := h1
    rw [← HT.out, ← List.append_assoc] at h1
    exact ⟨rfl, h1, HB0.out.trans h2, HO2.out.trans h3⟩
  · go_enter Tryd.func23, Tryd.ntmps23
    go_wp2_with fail
    have hb0 : Below B w (w.alloc (.cells #[.int .i64 op, .int .i64 dst, .int .i64 two, .slice A3 xs.length c3, .int .i32 imm] 46)) := (Below.refl B w).alloc hB _
    refine (word_Name.calls op _ _ ⟨HG.out _ hb0⟩ (nameL_f op)).mono ?_
    rintro e w2 ⟨rfl, hb2⟩
    have hbox := blk_below (heap_alloc_new w (.cells #[.int .i64 op, .int .i64 dst, .int .i64 two, .slice A3 xs.length c3, .int .i32 imm] 46)) hb2
    have HB0 : Aside0 (Below B w w2) := ⟨hb0.trans (hb2.mono (Nat.le_trans hB hb0.size))⟩
    have HW2 : Aside0 (Wr B b l w2) := ⟨wr_below (wr_below hW ((Below.refl _ w).alloc (Nat.le_refl _) _)) hb2⟩
    have HO2 : Aside0 (Lib.OthersKept 5 (some b) w w2) := ⟨(others_below ((Below.refl _ w).alloc (Nat.le_refl _) _)).trans (others_below hb2)⟩
    have HS2 : Aside0 (B ≤ w2.heap.size) := ⟨Nat.le_trans hB HB0.out.size⟩
    have k0 : w2.cell? ⟨w.heap.size, 0, none⟩ = some (.int .i64 op) := by rw [Lib.cell_of_heap hbox]; rfl
    clear hb0 hb2 hbox hW hB
    go_wp2_with fail
    refine (line_calls B b l ⟨#[63]⟩ (.slice none 0 0) [] w2 ⟨fun w' hb' => (HG.out w' (HB0.out.trans hb')).t⟩ HW2.out HS2.out (own_nil _ _ _ _) ⟨fun it hit => by cases hit⟩ HL.out).mono ?_
    rintro e w3 ⟨rfl, h1, h2, h3⟩
    go_wp2
    go_end0
    have h1 : Wr B b (l ++ lineText [63] []) w3 := h1
    rw [← HT.out, ← List.append_assoc] at h1
    exact ⟨rfl, h1, HB0.out.trans h2, HO2.out.trans h3⟩
end Go.Proofs.YtlmkhllippobaaaDoor.Wb
end
section
/- text.nth at the names of the terms. -/
set_option linter.unusedVariables false
set_option linter.unusedSimpArgs false
namespace Go.Proofs.YtlmkhllippobaaaDoor.Wb
open Go.RowKit Go.Proofs.YtlmkhllippobaaaDoorW.PrintWords Go.Proofs.YtlmkhllippobaaaDoor.Wl Go.Proofs.YtlmkhllippobaaaDoor.Tx Go.Proofs.YtlmkhllippobaaaDoor.Kd

def termsText : ByteArray := ⟨#[106, 117, 109, 112, 32, 98, 114, 97, 110, 99, 104, 32, 115, 119, 105, 116, 99, 104, 32, 114, 101, 116, 32, 116, 114, 97, 112]⟩
theorem termList_eq : termList = ["jump", "branch", "switch", "ret", "trap"].map (fun s => s.toUTF8.data.toList) := by decide +kernel
theorem termList_len : termList.length = 5 := by rw [termList_eq]; rfl
theorem terms_ascii : ∀ (j : Nat) (b : UInt8), termsText.data.toList[j]? = some b → b.toNat < 128 := by
  have h : termsText.data.toList.all (fun b => decide (b.toNat < 128)) = true := by decide +kernel
  intro j b hj
  have := List.all_eq_true.mp h b (List.mem_of_getElem? hj)
  simpa using this
def termVals : List Value := termList.map (fun l => .string ⟨l.toArray⟩)
theorem termVals_len : termVals.length = 5 := by unfold termVals; rw [List.length_map, termList_len]
theorem fields_terms (w : World) (HG : Aside0 (Laid w)) :
    Calls Tryd.prog 18 #[.string termsText] w fun e w' => e = .returned (.slice (some ⟨w.heap.size, 0, none⟩) 5 5) ∧ w' = w.alloc (.cells termVals.toArray 9) := by
  refine (Tryd.strings_Fields_laid termsText w (by decide) terms_ascii HG.out.asc).mono ?_
  rintro e w1 ⟨rfl, rfl⟩
  have e1 : Lib.fields termsText.data.toList = termList := rfl
  refine ⟨?_, ?_⟩
  · rw [e1, termList_len]
  · rw [e1]; rfl
theorem term_cell (w : World) (i : Nat) (h : i < 5) : (w.alloc (.cells termVals.toArray 9)).cell? ⟨w.heap.size, i, none⟩ = some (.string ⟨(termList.getD i []).toArray⟩) := by
  have h1 : i < termList.length := by rw [termList_len]; exact h
  have e : termVals.toArray[i]? = some (.string ⟨(termList.getD i []).toArray⟩) := by
    unfold termVals
    rw [List.getElem?_toArray, List.getElem?_map, List.getElem?_eq_getElem h1, List.getD_eq_getElem?_getD, List.getElem?_eq_getElem h1]
    rfl
  have hh := heap_alloc_new w (.cells termVals.toArray 9)
  simp only [World.cell?, hh]
  exact e
def nthL (k : Int) : List UInt8 := if 1 ≤ k ∧ k ≤ 5 then termList.getD (k.toNat - 1) [] else [63]
set_option maxHeartbeats 1000000 in
set_option maxRecDepth 100000 in
theorem nth_calls (a0 : Int) (w : World) (HG : Aside0 (Laid w)) :
    Calls Tryd.prog 24 #[.string termsText, .int .i64 a0] w fun e w' => e = .returned (.string ⟨(nthL a0).toArray⟩) ∧ Below w.heap.size w w' := by
  have fn := fields_terms w HG
  unfold termsText at fn ⊢
  by_cases c : 1 ≤ a0 ∧ a0 ≤ 5
  · have hn : nthL a0 = termList.getD (a0.toNat - 1) [] := by unfold nthL; rw [if_pos c]
    rw [hn]
    clear hn
    obtain ⟨c1, c2⟩ := c
    have hc := term_cell w (a0.toNat - 1) (by omega)
    have b0 : decide (a0 < 1) = false := by simp; omega
    have b1 : decide (5 < a0) = false := by simp; omega
    go_enter Tryd.func24, Tryd.ntmps24
    go_wp2_with fail
    refine fn.mono ?_
    rintro e w1 ⟨rfl, rfl⟩
    go_wp2
    go_ret
    exact ⟨rfl, (Below.refl _ _).alloc (Nat.le_refl _) _⟩
  · have hn : nthL a0 = [63] := by unfold nthL; rw [if_neg c]
    rw [hn]
    clear hn
    by_cases c1 : a0 < 1
    · have b0 : decide (a0 < 1) = true := by simp; omega
      go_enter Tryd.func24, Tryd.ntmps24
      go_wp2_with fail
      refine fn.mono ?_
      rintro e w1 ⟨rfl, rfl⟩
      go_wp2
      go_ret
      exact ⟨rfl, (Below.refl _ _).alloc (Nat.le_refl _) _⟩
    · have b0 : decide (a0 < 1) = false := by simp; omega
      have b1 : decide (5 < a0) = true := by simp; omega
      go_enter Tryd.func24, Tryd.ntmps24
      go_wp2_with fail
      refine fn.mono ?_
      rintro e w1 ⟨rfl, rfl⟩
      go_wp2
      go_ret
      exact ⟨rfl, (Below.refl _ _).alloc (Nat.le_refl _) _⟩
end Go.Proofs.YtlmkhllippobaaaDoor.Wb
end
section
/- Plain facts on decimal texts: what Lib.itoa, Lib.decDigits, Lib.parseIntB say of one another. -/
namespace Go.Proofs.YtlmkhllippobaaaDoor.Dec
open Go

/-- The value of digits, from an accumulated number on. -/
def valFrom (acc : Nat) (l : List UInt8) : Nat := l.foldl (fun a c => a * 10 + (c.toNat - 48)) acc
def isDig (c : UInt8) : Prop := 48 ≤ c.toNat ∧ c.toNat ≤ 57

theorem dig_toNat (d : Nat) (h : d < 10) : (UInt8.ofNat (48 + d)).toNat = 48 + d := by
  rw [UInt8.toNat_ofNat']; omega
theorem dec_small {u : Nat} (h : u < 10) : Lib.decDigits u = [UInt8.ofNat (48 + u)] := by rw [Lib.decDigits, dif_pos h]
theorem dec_big {u : Nat} (h : ¬ u < 10) : Lib.decDigits u = Lib.decDigits (u / 10) ++ [UInt8.ofNat (48 + u % 10)] := by
  rw [Lib.decDigits, dif_neg h]
theorem dec_ne (u : Nat) : Lib.decDigits u ≠ [] := by
  by_cases h : u < 10
  · rw [dec_small h]; simp
  · rw [dec_big h]; simp
theorem dec_dig (u : Nat) : ∀ c ∈ Lib.decDigits u, isDig c := by
  induction u using Nat.strongRecOn with
  | _ u ih =>
    intro c hc
    by_cases h : u < 10
    · rw [dec_small h, List.mem_singleton] at hc
      subst hc
      unfold isDig; rw [dig_toNat _ h]; omega
    · rw [dec_big h, List.mem_append, List.mem_singleton] at hc
      rcases hc with hc | hc
      · exact ih (u / 10) (by omega) c hc
      · subst hc
        unfold isDig; rw [dig_toNat _ (by omega)]; omega
theorem valFrom_append (acc : Nat) (l m : List UInt8) : valFrom acc (l ++ m) = valFrom (valFrom acc l) m := List.foldl_append
theorem dec_val (u : Nat) : valFrom 0 (Lib.decDigits u) = u := by
  induction u using Nat.strongRecOn with
  | _ u ih =>
    by_cases h : u < 10
    · rw [dec_small h]
      show 0 * 10 + ((UInt8.ofNat (48 + u)).toNat - 48) = u
      rw [dig_toNat _ h]; omega
    · rw [dec_big h, valFrom_append, ih (u / 10) (by omega)]
      show u / 10 * 10 + ((UInt8.ofNat (48 + u % 10)).toNat - 48) = u
      rw [dig_toNat _ (by omega)]; omega
theorem dec_inj {u v : Nat} (h : Lib.decDigits u = Lib.decDigits v) : u = v := by rw [← dec_val u, ← dec_val v, h]
/-- No nought ahead, but of nought itself. -/
theorem dec_head (u : Nat) (r : List UInt8) (h : Lib.decDigits u = 48 :: r) : u = 0 ∧ r = [] := by
  induction u using Nat.strongRecOn generalizing r with
  | _ u ih =>
    by_cases hu : u < 10
    · rw [dec_small hu] at h
      injection h with h1 h2
      have := congrArg UInt8.toNat h1
      rw [dig_toNat _ hu] at this
      have h3 : (48 : UInt8).toNat = 48 := rfl
      exact ⟨by omega, h2.symm⟩
    · rw [dec_big hu] at h
      cases hd : Lib.decDigits (u / 10) with
      | nil => exact absurd hd (dec_ne _)
      | cons a r' =>
        rw [hd, List.cons_append] at h
        injection h with h1 h2
        subst h1
        have := ih (u / 10) (by omega) r' hd
        omega
theorem dec_first (u : Nat) (c : UInt8) (r : List UInt8) (h : Lib.decDigits u = c :: r) : isDig c := dec_dig u c (by rw [h]; simp)
theorem itoa_ne (v : Int) : Lib.itoa v ≠ [] := by
  unfold Lib.itoa
  split
  · simp
  · exact dec_ne _
theorem itoa_inj {v w : Int} (h : Lib.itoa v = Lib.itoa w) : v = w := by
  unfold Lib.itoa at h
  split at h <;> split at h
  · injection h with _ h; have := dec_inj h; omega
  · exact absurd (dec_first _ _ _ h.symm) (by unfold isDig; decide)
  · exact absurd (dec_first _ _ _ h) (by unfold isDig; decide)
  · have := dec_inj h; omega

/-! ### Parsing -/
theorem valFrom_mono (l : List UInt8) : ∀ acc, acc ≤ valFrom acc l := by
  induction l with
  | nil => intro acc; exact Nat.le_refl _
  | cons c r ih =>
    intro acc
    have := ih (acc * 10 + (c.toNat - 48))
    show acc ≤ valFrom (acc * 10 + (c.toNat - 48)) r
    omega
theorem parseM_digits (M : Nat) (hM : M < 1844674407370955162) (l : List UInt8) : ∀ acc, acc ≤ M → (∀ c ∈ l, isDig c) → valFrom acc l ≤ M → Lib.parseUintM M acc l = .ok (valFrom acc l) := by
  induction l with
  | nil => intro acc _ _ _; rfl
  | cons c r ih =>
    intro acc ha hd hv
    have hc : isDig c := hd c (by simp)
    have hm : acc * 10 + (c.toNat - 48) ≤ M := Nat.le_trans (valFrom_mono r _) hv
    unfold Lib.parseUintM
    unfold isDig at hc
    rw [if_pos hc, if_neg (by omega), if_neg (by omega)]
    exact ih _ hm (fun x hx => hd x (by simp [hx])) hv
theorem parseU_dec (u : Nat) (h : u ≤ 4294967295) : Lib.parseUintB 32 (Lib.decDigits u) = .ok u := by
  unfold Lib.parseUintB
  rw [if_neg (dec_ne u), parseM_digits _ (by decide) _ 0 (by omega) (dec_dig u) (by rw [dec_val]; exact h), dec_val]
/-- A word comes back from its text. -/
theorem parse_itoa (v : Int) (h0 : -2147483648 ≤ v) (h1 : v ≤ 2147483647) : Lib.parseIntB 32 (Lib.itoa v) = .ok v := by
  unfold Lib.itoa
  split
  · rename_i hn
    rw [Lib.parseIntB_minus, parseU_dec _ (by omega)]
    show (if _ then _ else _) = _
    rw [if_neg (by simp; omega)]
    congr 1
    omega
  · rename_i hn
    have hp := parseU_dec v.toNat (by omega)
    cases hd : Lib.decDigits v.toNat with
    | nil => exact absurd hd (dec_ne _)
    | cons c r =>
      have hc := dec_first _ _ _ hd
      unfold isDig at hc
      rw [hd] at hp
      rw [Lib.parseIntB_plain 32 c r (by omega) (by omega), hp]
      show (if _ then _ else _) = _
      rw [if_neg (by simp; omega)]
      congr 1
      omega
end Go.Proofs.YtlmkhllippobaaaDoor.Dec
end
