/- word.Text, word.Parse, word.Name, word.Number, walked by the shelf's contracts of strconv, strings, slices. -/
import Derived.Test.YtfiajahppimchaaDoorLaid
import Derived.WalkKit
import Derived.KernelRfl
import Derived.Lib.Hide
import Derived.Outline
import Derived.WideLaws
import Derived.MapKept
import Derived.Laws.Slices
import Derived.Test.YtfiajahppimchaaDoorWWords
import Derived.Test.YtfiajahppimchaaDoorWLast
import Derived.Test.YtfiajahppimchaaDoorWMore
namespace Go.Proofs.YtfiajahppimchaaDoor.Wl
open Go.RowKit Go.Proofs.YtfiajahppimchaaDoorW.PrintWords Go.Proofs.YtfiajahppimchaaDoorW.PrintLast Go.Proofs.YtfiajahppimchaaDoorW.PrintMore

/-- What 'word.Text' computes. -/
def word_Text.f (a0 : Int) : Option ByteArray := if -2147483648 ≤ a0 ∧ a0 ≤ 2147483647 then some ⟨(Lib.itoa a0).toArray⟩ else none

theorem below_grow' (w : World) (k : Nat) (os : Array Obj) : Below w.heap.size w (Sort.grow (w.drewN k) os) := Lib.below_grow _ w (Nat.le_refl _) k os

set_option maxHeartbeats 1000000 in
set_option maxRecDepth 100000 in
theorem word_Text.calls (a0 : Int) (r : ByteArray) (w : World) (HG : Aside0 (LaidT w)) (h : word_Text.f a0 = some r) :
    Calls Tryd.prog 7 #[.int .i32 a0] w fun e w' => e = .returned (.string r) ∧ Below w.heap.size w w' := by
  unfold word_Text.f at h
  split at h
  case isFalse => cases h
  case isTrue hc =>
  obtain ⟨h0, h1⟩ := hc
  obtain rfl := Option.some.inj h
  go_enter Tryd.func7, Tryd.ntmps7
  go_wp2_with fail
  refine (Tryd.strconv_Itoa a0 (by omega) (by omega) _ HG.out.pow10).mono ?_
  rintro e w1 ⟨rfl, k, os, rfl⟩
  go_wp2
  go_ret
  exact ⟨rfl, below_grow' _ _ _⟩

/-- What 'word.Parse' makes of a text's bytes. -/
def parseW (l : List UInt8) : Int × Bool := match Lib.parseIntB 32 l with
  | .ok v => if Lib.itoa v = l then (v, true) else (0, false)
  | _ => (0, false)
def word_Parse.f (a0 : ByteArray) : Option (Int × Bool) := if a0.size ≤ 281474976710656 then some (parseW a0.data.toList) else none

set_option maxHeartbeats 1000000 in
set_option maxRecDepth 100000 in
theorem word_Parse.calls (a0 : ByteArray) (r1 : Int) (r2 : Bool) (w : World) (HG : Aside0 (LaidT w)) (h : word_Parse.f a0 = some (r1, r2)) :
    Calls Tryd.prog 6 #[.string a0] w fun e w' => e = .returned (.tuple #[.int .i32 r1, .bool r2]) ∧ Below w.heap.size w w' := by
  unfold word_Parse.f at h
  split at h
  case isFalse => cases h
  case isTrue hc =>
  have h := Option.some.inj h
  unfold parseW at h
  cases hp : Lib.parseIntB 32 a0.data.toList with
  | «syntax» =>
    rw [hp] at h
    obtain ⟨rfl, rfl⟩ := Prod.mk.inj h
    obtain ⟨tp, p, hv⟩ := HG.out.syn
    go_enter Tryd.func6, Tryd.ntmps6
    go_wp2_with fail
    refine (Tryd.strconv_ParseInt_10_at32_syntax_var a0 hc hp tp p _ hv).mono ?_
    rintro e w1 ⟨N, rfl, hN, hh, hb⟩
    go_wp2
    go_ret2
    exact ⟨rfl, hb⟩
  | range =>
    rw [hp] at h
    obtain ⟨rfl, rfl⟩ := Prod.mk.inj h
    obtain ⟨tp, p, hv⟩ := HG.out.ran
    go_enter Tryd.func6, Tryd.ntmps6
    go_wp2_with fail
    refine (Tryd.strconv_ParseInt_10_at32_range_var a0 hc hp tp p _ hv).mono ?_
    rintro e w1 ⟨N, rfl, hN, hh, hb⟩
    go_wp2
    go_ret2
    exact ⟨rfl, hb⟩
  | ok v =>
    rw [hp] at h
    have hv := Lib.parseIntB_bounds hp
    have h0 : -2147483648 ≤ v := by have := hv.1; simpa using this
    have h1 : v ≤ 2147483647 := by have := hv.2; simp at this; omega
    have HH := Lib.hid h
    clear h hv
    have HT : Hid (word_Text.f v = some ⟨(Lib.itoa v).toArray⟩) := by show _ = _; unfold word_Text.f; rw [if_pos ⟨h0, h1⟩]
    go_enter Tryd.func6, Tryd.ntmps6
    go_wp2_with fail
    refine (Tryd.strconv_ParseInt_10_at32_ok a0 (by omega) v hp _).mono ?_
    rintro e w1 ⟨rfl, hw⟩
    have hb : Aside0 (Below w.heap.size w w1) := ⟨by rcases hw with rfl | ⟨t, rfl⟩; exact Below.refl _ _; exact Lib.bytesWorld_below _ _ _⟩
    clear hw
    go_wp2_with fail
    refine (word_Text.calls v _ _ ⟨HG.out.below hb.out⟩ HT.out).mono ?_
    rintro e w2 ⟨rfl, hb2⟩
    have hb2 := Aside0.mk (hb.out.trans (hb2.mono hb.out.size))
    go_wp2
    · have t : (!Lib.itoa v == a0.toList) = true := by assumption
      have e := HH.out
      rw [if_neg (by rw [← ByteArray.toList_eq]; simpa using t)] at e
      obtain ⟨rfl, rfl⟩ := Prod.mk.inj e
      go_ret2
      exact ⟨rfl, hb2.out⟩
    · have t : (!Lib.itoa v == a0.toList) = false := by assumption
      have e := HH.out
      rw [if_pos (by rw [← ByteArray.toList_eq]; simpa using t)] at e
      obtain ⟨rfl, rfl⟩ := Prod.mk.inj e
      go_ret2
      exact ⟨rfl, hb2.out⟩

/-! ### names -/
def nameList : List (List UInt8) := Lib.fields [99, 111, 110, 115, 116, 32, 97, 100, 100, 32, 115, 117, 98, 32, 109, 117, 108, 32, 97, 110, 100, 32, 111, 114, 32, 120, 111, 114, 32, 115, 104, 108, 32, 115, 104, 114, 32, 115, 97, 114, 32, 101, 113, 32, 108, 116, 32, 108, 116, 117, 32, 100, 105, 118, 32, 108, 111, 97, 100, 32, 115, 116, 111, 114, 101, 32, 99, 97, 108, 108, 32, 109, 117, 108, 119]
theorem nameList_eq : nameList = ["const", "add", "sub", "mul", "and", "or", "xor", "shl", "shr", "sar", "eq", "lt", "ltu", "div", "load", "store", "call", "mulw"].map (fun s => s.toUTF8.data.toList) := by decide +kernel
theorem nameList_len : nameList.length = 18 := by rw [nameList_eq]; rfl
def namesText : ByteArray := ⟨#[99, 111, 110, 115, 116, 32, 97, 100, 100, 32, 115, 117, 98, 32, 109, 117, 108, 32, 97, 110, 100, 32, 111, 114, 32, 120, 111, 114, 32, 115, 104, 108, 32, 115, 104, 114, 32, 115, 97, 114, 32, 101, 113, 32, 108, 116, 32, 108, 116, 117, 32, 100, 105, 118, 32, 108, 111, 97, 100, 32, 115, 116, 111, 114, 101, 32, 99, 97, 108, 108, 32, 109, 117, 108, 119]⟩
theorem names_ascii : ∀ (j : Nat) (b : UInt8), namesText.data.toList[j]? = some b → b.toNat < 128 := by
  have h : namesText.data.toList.all (fun b => decide (b.toNat < 128)) = true := by decide +kernel
  intro j b hj
  have := List.all_eq_true.mp h b (List.mem_of_getElem? hj)
  simpa using this
def nameVals : List Value := nameList.map (fun l => .string ⟨l.toArray⟩)
theorem nameVals_len : nameVals.length = 18 := by unfold nameVals; rw [List.length_map, nameList_len]
theorem fields_names (w : World) (HG : Aside0 (Laid w)) :
    Calls Tryd.prog 18 #[.string namesText] w fun e w' => e = .returned (.slice (some ⟨w.heap.size, 0, none⟩) 18 18) ∧ w' = w.alloc (.cells nameVals.toArray 9) := by
  refine (Tryd.strings_Fields_laid namesText w (by decide) names_ascii HG.out.asc).mono ?_
  rintro e w1 ⟨rfl, rfl⟩
  have e1 : Lib.fields namesText.data.toList = nameList := rfl
  refine ⟨?_, ?_⟩
  · rw [e1, nameList_len]
  · rw [e1]; rfl
theorem name_cell (w : World) (i : Nat) (h : i < 18) : (w.alloc (.cells nameVals.toArray 9)).cell? ⟨w.heap.size, i, none⟩ = some (.string ⟨(nameList.getD i []).toArray⟩) := by
  have h1 : i < nameList.length := by rw [nameList_len]; exact h
  have e : nameVals.toArray[i]? = some (.string ⟨(nameList.getD i []).toArray⟩) := by
    unfold nameVals
    rw [List.getElem?_toArray, List.getElem?_map, List.getElem?_eq_getElem h1, List.getD_eq_getElem?_getD, List.getElem?_eq_getElem h1]
    rfl
  have hh := (MapKept.heap_alloc w (.cells nameVals.toArray 9)).1
  simp only [World.cell?, hh]
  exact e
/-- What 'word.Name' computes. -/
def word_Name.f (a0 : Int) : Option ByteArray := some (if 1 ≤ a0 ∧ a0 ≤ 18 then ⟨(nameList.getD (a0.toNat - 1) []).toArray⟩ else ⟨#[]⟩)
set_option maxHeartbeats 1000000 in
set_option maxRecDepth 100000 in
theorem word_Name.calls (a0 : Int) (r : ByteArray) (w : World) (HG : Aside0 (Laid w)) (h : word_Name.f a0 = some r) :
    Calls Tryd.prog 8 #[.int .i64 a0] w fun e w' => e = .returned (.string r) ∧ Below w.heap.size w w' := by
  have h := Option.some.inj h
  have fn := fields_names w HG
  unfold namesText at fn
  by_cases c : 1 ≤ a0 ∧ a0 ≤ 18
  · rw [if_pos c] at h
    subst h
    obtain ⟨c1, c2⟩ := c
    have hc := name_cell w (a0.toNat - 1) (by omega)
    have b0 : decide (a0 < 1) = false := by simp; omega
    have b1 : decide (18 < a0) = false := by simp; omega
    go_enter Tryd.func8, Tryd.ntmps8
    go_wp2_with fail
    refine fn.mono ?_
    rintro e w1 ⟨rfl, rfl⟩
    go_wp2
    go_ret
    exact ⟨rfl, (Below.refl _ _).alloc (Nat.le_refl _) _⟩
  · rw [if_neg c] at h
    subst h
    by_cases c1 : a0 < 1
    · have b0 : decide (a0 < 1) = true := by simp; omega
      go_enter Tryd.func8, Tryd.ntmps8
      go_wp2_with fail
      refine fn.mono ?_
      rintro e w1 ⟨rfl, rfl⟩
      go_wp2
      go_ret
      exact ⟨rfl, (Below.refl _ _).alloc (Nat.le_refl _) _⟩
    · have b0 : decide (a0 < 1) = false := by simp; omega
      have b1 : decide (18 < a0) = true := by simp; omega
      go_enter Tryd.func8, Tryd.ntmps8
      go_wp2_with fail
      refine fn.mono ?_
      rintro e w1 ⟨rfl, rfl⟩
      go_wp2
      go_ret
      exact ⟨rfl, (Below.refl _ _).alloc (Nat.le_refl _) _⟩
/-- What 'word.Number' computes. -/
def nameStrs : List ByteArray := nameList.map (fun l => ⟨l.toArray⟩)
theorem nameStrs_len : nameStrs.length = 18 := by unfold nameStrs; rw [List.length_map, nameList_len]
theorem nameStrs_at (j : Nat) (h : j < 18) : nameStrs.getD j ByteArray.empty = ⟨(nameList.getD j []).toArray⟩ := by
  have h1 : j < nameList.length := by rw [nameList_len]; exact h
  unfold nameStrs
  rw [List.getD_eq_getElem?_getD, List.getElem?_map, List.getElem?_eq_getElem h1, List.getD_eq_getElem?_getD, List.getElem?_eq_getElem h1]
  rfl
theorem idx_from (x : ByteArray) : ∀ (l : List ByteArray) (i : Nat), -1 ≤ Lib.idxFromS l x i ∧ Lib.idxFromS l x i < ((i + l.length : Nat) : Int) := by
  intro l
  induction l with
  | nil => intro i; unfold Lib.idxFromS; omega
  | cons z l ih =>
    intro i
    have h := ih (i + 1)
    unfold Lib.idxFromS
    rw [List.length_cons]
    split
    · omega
    · omega
theorem idx_bounds (l : List ByteArray) (x : ByteArray) : -1 ≤ Lib.idxOfS l x ∧ Lib.idxOfS l x < l.length := by
  have h := idx_from x l 0
  rw [Nat.zero_add] at h
  exact h
def word_Number.f (a0 : ByteArray) : Option Int := some (1 + Lib.idxOfS nameStrs a0)
set_option maxHeartbeats 1000000 in
set_option maxRecDepth 100000 in
theorem word_Number.calls (a0 : ByteArray) (r : Int) (w : World) (HG : Aside0 (Laid w)) (h : word_Number.f a0 = some r) :
    Calls Tryd.prog 10 #[.string a0] w fun e w' => e = .returned (.int .i64 r) ∧ Below w.heap.size w w' := by
  have h := Option.some.inj h
  have fn := fields_names w HG
  unfold namesText at fn
  have HH := Lib.hid h
  clear h
  go_enter Tryd.func10, Tryd.ntmps10
  go_wp2_with fail
  refine fn.mono ?_
  rintro e w1 ⟨rfl, rfl⟩
  go_wp2_with fail
  refine (Tryd.slices_Index_string w.heap.size 0 18 18 nameStrs a0 _ (by rw [nameStrs_len]; exact Nat.le_refl _) (by omega) ?cells).mono ?_
  case cells =>
    intro j hj
    rw [nameStrs_len] at hj
    rw [Nat.zero_add, name_cell w j hj, nameStrs_at j hj]
  rintro e w1 ⟨rfl, rfl⟩
  rw [List.take_of_length_le (by rw [nameStrs_len]; exact Nat.le_refl _)]
  have hi := idx_bounds nameStrs a0
  rw [nameStrs_len] at hi
  obtain ⟨hi0, hi1⟩ := hi
  go_wp2
  go_ret
  exact ⟨by rw [← HH.out]; rfl, (Below.refl _ _).alloc (Nat.le_refl _) _⟩
end Go.Proofs.YtfiajahppimchaaDoor.Wl
