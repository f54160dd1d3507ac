/- Parts of the proof, one behind the other: Parse, Fn. -/
import Derived.Test.YtlmkhllippobaaaDoorG04
import Derived.Test.YtlmkhllippobaaaDoorG03
section
/- What is parsed is the word whose text it is; and no other text than a word's is parsed. -/
namespace Go.Proofs.YtlmkhllippobaaaDoor.Dec
open Go Go.RowKit Go.Proofs.YtlmkhllippobaaaDoorW.PrintWords Go.Proofs.YtlmkhllippobaaaDoor.Wl

def inWord (v : Int) : Prop := -2147483648 ≤ v ∧ v ≤ 2147483647
theorem parseW_itoa (v : Int) (h : inWord v) : parseW (Lib.itoa v) = (v, true) := by
  unfold parseW
  rw [parse_itoa v h.1 h.2]
  exact if_pos rfl
theorem parseW_true {l : List UInt8} {v : Int} (h : parseW l = (v, true)) : Lib.itoa v = l ∧ inWord v := by
  unfold parseW at h
  split at h
  · rename_i u hu
    split at h
    · rename_i he
      obtain ⟨rfl, _⟩ := Prod.mk.inj h
      have hb := Lib.parseIntB_bounds hu
      have h0 := hb.1
      have h1 := hb.2
      simp only [show ((2 ^ (32 - 1) : Nat) : Int) = 2147483648 from rfl] at h0 h1
      exact ⟨he, by unfold inWord; omega⟩
    · cases (Prod.mk.inj h).2
  · cases (Prod.mk.inj h).2
theorem parseW_false {l : List UInt8} {v : Int} (h : parseW l = (v, false)) : v = 0 := by
  unfold parseW at h
  split at h
  · split at h
    · cases (Prod.mk.inj h).2
    · exact (Prod.mk.inj h).1.symm
  · exact (Prod.mk.inj h).1.symm
/-- No word has this text: nothing is parsed. -/
theorem parseW_none {l : List UInt8} (h : ∀ v, inWord v → Lib.itoa v ≠ l) : parseW l = (0, false) := by
  cases hp : parseW l with
  | mk v b =>
    cases b with
    | true => exact absurd (parseW_true hp).1 (h v (parseW_true hp).2)
    | false => rw [parseW_false hp]
theorem dec_len (u : Nat) : ∀ d, u < 10 ^ (d + 1) → (Lib.decDigits u).length ≤ d + 1 := by
  induction u using Nat.strongRecOn with
  | _ u ih =>
    intro d hd
    by_cases h : u < 10
    · rw [dec_small h, List.length_singleton]; omega
    · rw [dec_big h, List.length_append, List.length_singleton]
      cases d with
      | zero => omega
      | succ d =>
        have := ih (u / 10) (by omega) d (by rw [Nat.pow_succ] at hd; omega)
        omega
theorem itoa_len (v : Int) (h : inWord v) : (Lib.itoa v).length ≤ 11 := by
  unfold inWord at h
  unfold Lib.itoa
  split
  · have := dec_len v.natAbs 9 (by omega)
    rw [List.length_cons]
    omega
  · have := dec_len v.toNat 9 (by omega)
    omega
theorem text_some (v : Int) (h : inWord v) : word_Text.f v = some ⟨(Lib.itoa v).toArray⟩ := by unfold word_Text.f; exact if_pos h
theorem parse_some (s : ByteArray) (h : s.size ≤ 281474976710656) : word_Parse.f s = some (parseW s.data.toList) := by unfold word_Parse.f; exact if_pos h
/-- A nought ahead. -/
theorem no_led (v : Int) : parseW (48 :: Lib.itoa v) = (0, false) := by
  apply parseW_none
  intro u _ h
  unfold Lib.itoa at h
  split at h
  · injection h with h1 _; exact absurd h1 (by decide)
  · have := (dec_head _ _ h).2
    exact itoa_ne v (by unfold Lib.itoa; exact this)
theorem no_signed (v : Int) : parseW (43 :: Lib.itoa v) = (0, false) := by
  apply parseW_none
  intro u _ h
  unfold Lib.itoa at h
  split at h
  · injection h with h1 _; exact absurd h1 (by decide)
  · exact absurd (dec_first _ _ _ h) (by unfold isDig; decide)
/-- A byte behind. -/
theorem behind (v d : Int) (c : UInt8) (h : Lib.itoa d = Lib.itoa v ++ [c]) : isDig c ∧ Int.tdiv d 10 = v ∧ v ≠ 0 := by
  unfold Lib.itoa at h
  by_cases hd : d < 0
  · rw [if_pos hd] at h
    by_cases hv : v < 0
    · rw [if_pos hv, List.cons_append] at h
      injection h with _ h
      by_cases hs : d.natAbs < 10
      · rw [dec_small hs] at h
        have := congrArg List.length h
        have hn := List.length_pos_iff.mpr (dec_ne v.natAbs)
        rw [List.length_append, List.length_singleton, List.length_singleton] at this
        omega
      · rw [dec_big hs] at h
        obtain ⟨h1, h2⟩ := List.append_inj' h rfl
        have h3 := dec_inj h1
        injection h2 with h2
        subst h2
        refine ⟨by unfold isDig; rw [dig_toNat _ (by omega)]; omega, ?_, by omega⟩
        have e : d.tdiv 10 = -(((d.natAbs : Nat) : Int) / 10) := by
          conv => lhs; rw [show d = -((d.natAbs : Nat) : Int) from by omega]
          rw [Int.neg_tdiv, Int.tdiv_eq_ediv_of_nonneg (by omega)]
        omega
    · rw [if_neg hv] at h
      cases hq : Lib.decDigits v.toNat with
      | nil => exact absurd hq (dec_ne _)
      | cons a r =>
        have ha := dec_first _ _ _ hq
        rw [hq, List.cons_append] at h
        injection h with h1 _
        subst h1
        exact absurd ha (by unfold isDig; decide)
  · rw [if_neg hd] at h
    by_cases hv : v < 0
    · rw [if_pos hv, List.cons_append] at h
      exact absurd (dec_first _ _ _ h) (by unfold isDig; decide)
    · rw [if_neg hv] at h
      by_cases hs : d.toNat < 10
      · rw [dec_small hs] at h
        have := congrArg List.length h
        have hn := List.length_pos_iff.mpr (dec_ne v.toNat)
        rw [List.length_append, List.length_singleton, List.length_singleton] at this
        omega
      · rw [dec_big hs] at h
        obtain ⟨h1, h2⟩ := List.append_inj' h rfl
        have h3 := dec_inj h1
        injection h2 with h2
        subst h2
        refine ⟨by unfold isDig; rw [dig_toNat _ (by omega)]; omega, ?_, by omega⟩
        rw [Int.tdiv_eq_ediv_of_nonneg (by omega)]
        omega
end Go.Proofs.YtlmkhllippobaaaDoor.Dec
end
section
/- text.Func: a function as text, walked. -/
set_option linter.unusedVariables false
set_option linter.unusedSimpArgs false
namespace Go.Proofs.YtlmkhllippobaaaDoor.Wb
open Go.RowKit Go.Proofs.YtlmkhllippobaaaDoorW.PrintWords Go.Proofs.YtlmkhllippobaaaDoor.Wl Go.Proofs.YtlmkhllippobaaaDoor.Tx Go.Proofs.YtlmkhllippobaaaDoor.Kd

abbrev LW (B b : Nat) (l : List UInt8) (w0 w : World) : Prop := LI B b l (.slice none 0 0) [] w0 w
theorem LW.start {B b : Nat} {l : List UInt8} {w : World} (h : Wr B b l w) (hB : B ≤ w.heap.size) : LW B b l w w :=
  ⟨h, own_nil _ _ _ _, Below.refl _ _, hB, Lib.OthersKept.refl _ _ _⟩
/-- From a later world on. -/
theorem LW.again {B b : Nat} {l : List UInt8} {w0 w : World} (h : LW B b l w0 w) : LW B b l w w := LW.start h.wr h.size
theorem LW.trans {B b : Nat} {l l' : List UInt8} {w0 w w1 : World} (h : LW B b l w0 w) (k : LW B b l' w w1) : LW B b l' w0 w1 :=
  ⟨k.wr, own_nil _ _ _ _, h.bel.trans k.bel, k.size, h.oth.trans k.oth⟩
/-- A line, where the writer stands. -/
theorem line_lw {B b : Nat} {l : List UInt8} {w0 w : World} (h : LW B b l w0 w) (first : ByteArray) (x : List UInt8) (hx : first.data.toList = x) (items : List Item)
    (HG : ∀ w', Below B w w' → LaidT w') (hm : items.length ≤ 9223372036854775807)
    (hread : ∀ it ∈ items, ∀ w', Below B w w' → it.ok w')
    (hlen : l.length + (lineText x items).length ≤ 140737488355328) :
    Calls Tryd.prog 21 #[.pointer (some ⟨b, 0, none⟩), .string first, .slice (some ⟨w.heap.size, 0, none⟩) items.length items.length] (w.alloc (.cells (items.map Item.cell).toArray 20)) fun e w' => (∃ r, e = .returned r) ∧ LW B b (l ++ lineText x items) w0 w' := by
  refine (line_lit B b l first items w HG h.wr h.size hm hread (by rw [hx]; exact hlen)).mono ?_
  rintro e w1 ⟨rfl, h1, h2, h3⟩
  rw [hx] at h1
  exact ⟨⟨_, rfl⟩, h.wrote h1 h2 h3⟩

def I64 (n : Int) : Prop := -9223372036854775808 ≤ n ∧ n ≤ 9223372036854775807
def I32 (n : Int) : Prop := -2147483648 ≤ n ∧ n ≤ 2147483647
structure BlockOK (x : TBlock) : Prop where
  phis : ∀ p ∈ x.f0, I64 p.f0 ∧ ∀ i ∈ p.f1, I64 i.f0 ∧ I64 i.f1
  ins : ∀ i ∈ x.f1, InsOK i
  kind : I64 x.f2.f0
  args : ∀ n ∈ x.f2.f1, I64 n
  tos : ∀ n ∈ x.f2.f2, I64 n
  imm : I32 x.f2.f3
structure FuncOK (f : TFunc) : Prop where
  params : I64 f.f0
  blocks : ∀ x ∈ f.f1, BlockOK x

def inItem (y : TIn) : Item := .str ⟨(Lib.itoa y.f0 ++ 58 :: Lib.itoa y.f1).toArray⟩
def insItems (l : List TIn) : List Item := l.map inItem
theorem ins_row {l : List TIn} {i : Nat} {y : TIn} {v1 v2 : Int} {t1 t2 : ByteArray} {w : World} {base : Nat} {v : Value} (h : l[i]? = some y) (hy : y = ⟨v1, v2⟩) (h1 : t1 = ⟨(Lib.itoa v1).toArray⟩) (h2 : t2 = ⟨(Lib.itoa v2).toArray⟩)
    (ho : w.ownsRow base 20 1 v ((insItems (l.take i)).length + 1) (encs Item.cell (insItems (l.take i)) ++ [Value.iface 9 (.string (t1 ++ { data := #[58] } ++ t2))])) :
    w.ownsRow base 20 1 v (insItems (l.take (i + 1))).length (encs Item.cell (insItems (l.take (i + 1)))) := by
  have e : insItems (l.take (i + 1)) = insItems (l.take i) ++ [inItem y] := by
    unfold insItems
    rw [List.take_add_one, h, List.map_append]
    rfl
  have e2 : (inItem y).cell = Value.iface 9 (.string (t1 ++ { data := #[58] } ++ t2)) := by
    subst hy h1 h2
    have e3 : (⟨(Lib.itoa v1 ++ 58 :: Lib.itoa v2).toArray⟩ : ByteArray) = ⟨(Lib.itoa v1).toArray⟩ ++ { data := #[58] } ++ ⟨(Lib.itoa v2).toArray⟩ := by
      apply ByteArray.ext
      apply Array.toList_inj.1
      simp
    show Value.iface _ (.string ⟨(Lib.itoa v1 ++ 58 :: Lib.itoa v2).toArray⟩) = _
    rw [e3]
  rw [e, encs_append, List.length_append]
  simp only [encs, List.map_cons, List.map_nil, List.length_singleton] at ho ⊢
  rw [e2]
  exact ho
theorem blocksText_cons (i : Nat) (y : TBlock) (t : List TBlock) : blocksText i (y :: t) = blockText i y ++ blocksText (i + 1) t := rfl
theorem blocksText_app : ∀ (l : List TBlock) (i : Nat) (x : TBlock) (t : List TBlock), blocksText i (l ++ x :: t) = blocksText i l ++ blockText (i + l.length) x ++ blocksText (i + l.length + 1) t
  | [], i, x, t => by simp [blocksText]
  | y :: l, i, x, t => by
    rw [List.cons_append, blocksText_cons, blocksText_cons, blocksText_app l (i + 1) x t, List.length_cons]
    simp only [List.append_assoc, Nat.add_assoc, Nat.add_comm 1, Nat.add_left_comm 1]
theorem split_at {α : Type} {l : List α} {k : Nat} {x : α} (h : l[k]? = some x) : l = l.take k ++ x :: l.drop (k + 1) := by
  obtain ⟨hl, rfl⟩ := List.getElem?_eq_some_iff.1 h
  rw [← List.drop_eq_getElem_cons hl, List.take_append_drop]
theorem blocks_bound {f : TFunc} {k : Nat} {x : TBlock} {pre : List UInt8} (h : (funcText f).length ≤ 140737488355328) (hx : f.f1[k]? = some x)
    (hpre : [] ++ lineText [102, 117, 110, 99] [Item.int f.f0] ++ blocksText 0 (f.f1.take k) = pre) : pre.length + (blockText k x).length ≤ 140737488355328 := by
  have hk := (List.getElem?_eq_some_iff.1 hx).1
  unfold funcText at h
  rw [split_at hx, blocksText_app, List.length_take, Nat.min_eq_left (by omega), Nat.zero_add, d_eq] at h
  rw [← hpre]
  simp only [lineText, List.length_append, List.flatMap_cons, List.flatMap_nil, Item.text, List.append_nil, List.nil_append] at h ⊢
  omega

theorem phi_line (p : TPhi) : lineText [112, 104, 105] ([Item.int p.f0] ++ insItems p.f1) = phiText p := by
  unfold lineText phiText insItems
  rw [List.flatMap_append, List.flatMap_map, d_eq]
  simp only [List.flatMap_cons, List.flatMap_nil, List.append_nil, List.append_assoc]
  rfl
theorem phis_step {l : List TPhi} {j : Nat} {p : TPhi} (h : l[j]? = some p) : (l.take (j + 1)).flatMap phiText = (l.take j).flatMap phiText ++ phiText p := by
  rw [List.take_add_one, h, List.flatMap_append]
  simp
theorem phi_bound {pre : List UInt8} {k : Nat} {x : TBlock} {j : Nat} {p : TPhi} (h : pre.length + (blockText k x).length ≤ 140737488355328) (hp : x.f0[j]? = some p) :
    (pre ++ lineText [98, 108, 111, 99, 107] [Item.int (k : Int)] ++ (x.f0.take j).flatMap phiText).length + (phiText p).length ≤ 140737488355328 := by
  unfold blockText at h
  rw [split_at hp, List.flatMap_append, List.flatMap_cons, d_eq] at h
  simp only [lineText, List.length_append, List.flatMap_cons, List.flatMap_nil, Item.text, List.append_nil] at h ⊢
  omega
theorem inss_step {l : List TIns} {j : Nat} {p : TIns} (h : l[j]? = some p) : (l.take (j + 1)).flatMap (fun x => insText x ++ [10]) = (l.take j).flatMap (fun x => insText x ++ [10]) ++ (insText p ++ [10]) := by
  rw [List.take_add_one, h, List.flatMap_append]
  simp
theorem ins_bound {pre L2 : List UInt8} {k : Nat} {x : TBlock} {j : Nat} {p : TIns} (h : pre.length + (blockText k x).length ≤ 140737488355328) (hL : pre ++ lineText [98, 108, 111, 99, 107] [Item.int (k : Int)] ++ x.f0.flatMap phiText = L2) (hp : x.f1[j]? = some p) :
    (L2 ++ (x.f1.take j).flatMap (fun x => insText x ++ [10])).length + (insText p).length + 1 ≤ 140737488355328 := by
  unfold blockText at h
  rw [split_at hp, List.flatMap_append, List.flatMap_cons, d_eq] at h
  rw [← hL]
  simp only [lineText, List.length_append, List.flatMap_cons, List.flatMap_nil, Item.text, List.append_nil, List.length_singleton] at h ⊢
  omega
theorem phi_ok {p : TPhi} {B : Nat} {w : World} (h : I64 p.f0 ∧ ∀ i ∈ p.f1, I64 i.f0 ∧ I64 i.f1) : ∀ it ∈ [Item.int p.f0] ++ insItems p.f1, ∀ w', Below B w w' → it.ok w' := by
  intro it hit w' _
  rcases List.mem_append.1 hit with h1 | h1
  · rw [List.mem_singleton.1 h1]
    exact h.1
  · obtain ⟨y, _, rfl⟩ := List.mem_map.1 h1
    trivial

theorem itoa_len64 (v : Int) (h0 : -9223372036854775808 ≤ v) (h1 : v ≤ 9223372036854775807) : (Lib.itoa v).length ≤ 20 := by
  have h := Dec.dec_len v.natAbs 18 (by omega)
  unfold Lib.itoa
  split
  · rw [List.length_cons]; omega
  · rw [show v.toNat = v.natAbs by omega]; omega
theorem flat_mem {α : Type} {f : α → List UInt8} : ∀ {l : List α} {x : α}, x ∈ l → (f x).length ≤ (l.flatMap f).length
  | a :: l, x, h => by
    rw [List.flatMap_cons, List.length_append]
    rcases List.mem_cons.1 h with h | h
    · rw [h]; omega
    · have := flat_mem (f := f) h; omega
theorem flat_count {α : Type} {f : α → List UInt8} (hf : ∀ x, 1 ≤ (f x).length) : ∀ l : List α, l.length ≤ (l.flatMap f).length
  | [] => Nat.le_refl _
  | a :: l => by
    rw [List.flatMap_cons, List.length_append, List.length_cons]
    have := hf a
    have := flat_count hf l
    omega
theorem blocks_mem : ∀ {l : List TBlock} {i : Nat} {x : TBlock}, x ∈ l → ∃ k, (blockText k x).length ≤ (blocksText i l).length
  | a :: l, i, x, h => by
    rw [blocksText_cons, List.length_append]
    rcases List.mem_cons.1 h with h | h
    · exact ⟨i, by rw [h]; omega⟩
    · obtain ⟨k, hk⟩ := blocks_mem (i := i + 1) h
      exact ⟨k, by omega⟩
theorem phi_count {f : TFunc} {x : TBlock} {p : TPhi} (hx : x ∈ f.f1) (hp : p ∈ x.f0) : p.f1.length ≤ (funcText f).length := by
  obtain ⟨k, hk⟩ := blocks_mem (i := 0) hx
  have h1 : (phiText p).length ≤ (blockText k x).length := by
    unfold blockText
    have := flat_mem (f := phiText) hp
    simp only [List.length_append]
    omega
  have h2 : p.f1.length ≤ (phiText p).length := by
    unfold phiText
    have := flat_count (f := inText) (fun y => by unfold inText; simp) p.f1
    simp only [List.length_append]
    omega
  have h3 : (blocksText 0 f.f1).length ≤ (funcText f).length := by unfold funcText; simp only [List.length_append]; omega
  omega
theorem term_bound {pre L2 : List UInt8} {k : Nat} {x : TBlock} (h : pre.length + (blockText k x).length ≤ 140737488355328) (hL : pre ++ lineText [98, 108, 111, 99, 107] [Item.int (k : Int)] ++ x.f0.flatMap phiText = L2) :
    (L2 ++ x.f1.flatMap (fun x => insText x ++ [10])).length + (termText x.f2).length + 1 ≤ 140737488355328 := by
  unfold blockText at h
  rw [d_eq] at h
  rw [← hL]
  simp only [lineText, List.length_append, List.flatMap_cons, List.flatMap_nil, Item.text, List.append_nil, List.length_singleton] at h ⊢
  omega
theorem block_step {f : TFunc} {k : Nat} {x : TBlock} {pre L2 : List UInt8} (hx : f.f1[k]? = some x) (hpre : [] ++ lineText [102, 117, 110, 99] [Item.int f.f0] ++ blocksText 0 (f.f1.take k) = pre)
    (hL : pre ++ lineText [98, 108, 111, 99, 107] [Item.int (k : Int)] ++ x.f0.flatMap phiText = L2) :
    L2 ++ x.f1.flatMap (fun x => insText x ++ [10]) ++ (termText x.f2 ++ [10]) = [] ++ lineText [102, 117, 110, 99] [Item.int f.f0] ++ blocksText 0 (f.f1.take (k + 1)) := by
  have hk := (List.getElem?_eq_some_iff.1 hx).1
  have e : f.f1.take (k + 1) = f.f1.take k ++ x :: [] := by rw [List.take_add_one, hx]; rfl
  rw [e, blocksText_app, List.length_take, Nat.min_eq_left (by omega), Nat.zero_add, ← hL, ← hpre]
  unfold blockText
  rw [d_eq]
  simp [lineText, Item.text, blocksText, List.append_assoc]

set_option maxHeartbeats 8000000 in
set_option maxRecDepth 1000000 in
theorem Func_calls (f : TFunc) (A : Option Addr) (c : Nat) (w : World) (HG : Aside0 (Laid w)) (hK : k52.C w A f.f1.length f.f1)
    (hok : Aside0 (FuncOK f)) (hlen0 : (funcText f).length ≤ 1099511627776) :
    Calls Tryd.prog 13 #[.agg #[.int .i64 f.f0, .slice A f.f1.length c]] w fun e w' => e = .returned (.string ⟨(funcText f).toArray⟩) ∧ Below w.heap.size w w' := by
  have HGB : Aside0 (∀ w', Below w.heap.size w w' → Laid w') := ⟨fun w' h => HG.out.below h⟩
  have HK : Aside0 (∀ w', Below w.heap.size w w' → k52.C w' A f.f1.length f.f1) := ⟨fun w' h => Kd.C_below hK h⟩
  have hlen : (funcText f).length ≤ 140737488355328 := by omega
  have HL := Lib.hid hlen
  have HLS := Lib.hid hlen0
  have HK0 := Aside0.mk hK
  clear hlen hlen0 hK HG
  go_enter Tryd.func13, Tryd.ntmps13
  go_wp2_with fail
  obtain ⟨W1, hW1⟩ : ∃ W1, (w.alloc (.cells #[.int .i64 f.f0, .slice A f.f1.length c] 28)).alloc (.cells #[.pointer none, .slice none 0 0] 71) = W1 := ⟨_, rfl⟩
  have hs : w.heap.size + 1 + 1 = W1.heap.size := by rw [← hW1]; simp
  have hbel : Below w.heap.size w W1 := by rw [← hW1]; exact (((Below.refl _ w).alloc (Nat.le_refl _) _).alloc (by simp) _)
  have hbox : W1.heap[w.heap.size]? = some (.cells #[.int .i64 f.f0, .slice A f.f1.length c] 28 (0, 0)) := by rw [← hW1]; exact blk_alloc (heap_alloc_new w _) _
  have hwb : W1.heap[w.heap.size + 1]? = some (.cells #[.pointer none, .slice none 0 0] 71 (0, 0)) := by
    rw [← hW1]
    have := heap_alloc_new (w.alloc (.cells #[.int .i64 f.f0, .slice A f.f1.length c] 28)) (.cells #[.pointer none, .slice none 0 0] 71)
    simpa using this
  rw [hW1, hs]
  obtain ⟨b, hb⟩ : ∃ b, w.heap.size + 1 = b := ⟨_, rfl⟩
  rw [hb] at hwb ⊢
  have hWr : Wr w.heap.size b [] W1 := .inl ⟨by omega, _, hwb, own_nil _ _ _ _, by simp [Value.ownBlock]⟩
  have hlw : LW w.heap.size b [] W1 W1 := LW.start hWr hbel.size
  have HBb := Lib.hid hb
  clear hwb hW1 hs hb hWr
  refine (line_lw hlw ⟨#[102, 117, 110, 99]⟩ [102, 117, 110, 99] rfl [.int f.f0] (fun w' h => (HGB.out w' (hbel.trans h)).t) (by simp) (by
    intro it hit w' h
    simp only [List.mem_singleton] at hit
    subst hit
    exact hok.out.params) ?len).mono ?_
  case len =>
    have := HL.out
    unfold funcText at this
    simp only [List.length_append] at this
    simp only [lineText, List.nil_append, List.length_append, List.flatMap_cons, List.flatMap_nil, Item.text, List.append_nil]
    rw [← d_eq]
    simp only [List.length_nil]
    omega
  rintro e w2 ⟨⟨r, rfl⟩, hlw2⟩
  have hbox2 := hlw2.oth _ _ hbox (by have := HBb.out; intro e; injection e with e; omega) (by intro c fz e; injection e with _ e; cases e)
  have HB2 := Aside0.mk (hbel.trans hlw2.bel)
  have c0 : w2.cell? ⟨w.heap.size, 0, none⟩ = some (.int .i64 f.f0) := by rw [Lib.cell_of_heap hbox2]; rfl
  have c1 : w2.cell? ⟨w.heap.size, 1, none⟩ = some (.slice A f.f1.length c) := by rw [Lib.cell_of_heap hbox2]; rfl
  have H2 := Aside0.mk hlw2.again
  clear hlw2 hlw hbox hbox2 hbel
  have hcnt : f.f1.length ≤ 9223372036854775807 := Kd.C_max (HK.out _ HB2.out)
  go_wp2
  go_loopg [25] f.f1.length (fun gk s25 wx => ∃ k : Nat, s25 = .int .i64 (k : Int) ∧ k + gk = f.f1.length ∧ LW w.heap.size b ([] ++ lineText [102, 117, 110, 99] [.int f.f0] ++ blocksText 0 (f.f1.take k)) w2 wx)
  case atStart => exact ⟨0, rfl, by omega, by simpa [blocksText] using H2.out⟩
  case round =>
    obtain ⟨k, rfl, hk, hI⟩ := hrel
    by_cases hlt : k < f.f1.length
    · obtain ⟨g', rfl⟩ : ∃ g', gk = g' + 1 := ⟨gk - 1, by omega⟩
      obtain ⟨ad, A0, n0, A1, n1, A3, n3, A4, n4, rfl, hc0, hc1, hc2, hc3, hc4, hc5, hl0, hC0, hl1, hC1, hl3, hC3, hl4, hC4⟩ := at_T52 HK0.out (k : Int) (by omega) (by omega)
      rw [Int.toNat_natCast] at hc0 hc1 hc2 hc3 hc4 hc5
      have hbw := HB2.out.trans hI.bel
      have hc0 := pw_cell_below hbw hc0
      have hc1 := pw_cell_below hbw hc1
      have hc2 := pw_cell_below hbw hc2
      have hc3 := pw_cell_below hbw hc3
      have hc4 := pw_cell_below hbw hc4
      have hc5 := pw_cell_below hbw hc5
      obtain ⟨x, hx⟩ : ∃ x, rd_T52 f.f1 (k : Int) = x := ⟨_, rfl⟩
      have hxk : f.f1[k]? = some x := by
        rw [← hx, List.getElem?_eq_getElem hlt]
        simp [rd_T52, List.getD_eq_getElem?_getD, List.getElem?_eq_getElem hlt]
      rw [hx] at hc0 hc1 hc2 hc3 hc4 hc5 hl0 hC0 hl1 hC1 hl3 hC3 hl4 hC4
      have hxok := Aside0.mk (hok.out.blocks x (List.mem_of_getElem? hxk))
      have HXK := Lib.hid hxk
      have HC0 := Aside0.mk hC0
      have HC1 := Aside0.mk hC1
      have HC3 := Aside0.mk hC3
      have HC4 := Aside0.mk hC4
      have HBW := Aside0.mk hbw
      have hI := Aside0.mk hI
      have hm0 : x.f0.length ≤ 9223372036854775807 := Kd.C_max hC0
      have hm1 : x.f1.length ≤ 9223372036854775807 := Kd.C_max hC1
      obtain ⟨pre, hpre⟩ : ∃ pre, [] ++ lineText [102, 117, 110, 99] [Item.int f.f0] ++ blocksText 0 (f.f1.take k) = pre := ⟨_, rfl⟩
      rw [hpre] at hI
      have hbd : pre.length + (blockText k x).length ≤ 140737488355328 := blocks_bound HL.out hxk hpre
      have HBD := Lib.hid hbd
      have HPRE := Lib.hid hpre
      clear hx hxk hC0 hC1 hC3 hC4 hbw hpre hbd
      go_wp2_with fail
      obtain ⟨W2, hW2⟩ : ∃ W2, wr.alloc (.cells #[.slice A0 x.f0.length n0, .slice A1 x.f1.length n1, .int .i64 x.f2.f0, .slice A3 x.f2.f1.length n3, .slice A4 x.f2.f2.length n4, .int .i32 x.f2.f3] 52) = W2 := ⟨_, rfl⟩
      have hs2 : wr.heap.size + 1 = W2.heap.size := by rw [← hW2]; simp
      have hbx : W2.heap[wr.heap.size]? = some (.cells #[.slice A0 x.f0.length n0, .slice A1 x.f1.length n1, .int .i64 x.f2.f0, .slice A3 x.f2.f1.length n3, .slice A4 x.f2.f2.length n4, .int .i32 x.f2.f3] 52 (0, 0)) := by rw [← hW2]; exact heap_alloc_new wr _
      have hI2 : LW w.heap.size b pre w2 W2 := by rw [← hW2]; exact hI.out.below ((Below.refl _ wr).alloc (Nat.le_refl _) _)
      have hne : wr.heap.size ≠ b := by
        obtain ⟨_, cs, hcs⟩ := wr_typed hI.out.wr
        have := blk_lt hcs
        omega
      rw [hW2, hs2]
      obtain ⟨g5, hg5⟩ : ∃ g5, wr.heap.size = g5 := ⟨_, rfl⟩
      rw [hg5] at hbx hne ⊢
      have HNE := Lib.hid hne
      clear hW2 hs2 hg5
      refine (line_lw hI2.again ⟨#[98, 108, 111, 99, 107]⟩ [98, 108, 111, 99, 107] rfl [.int (k : Int)] (fun w' h => (HGB.out w' ((HB2.out.trans hI2.bel).trans h)).t) (by simp) (by
        intro it hit w' h
        simp only [List.mem_singleton] at hit
        subst hit
        exact ⟨by omega, by omega⟩) ?len2).mono ?_
      case len2 =>
        have := HBD.out
        unfold blockText at this
        rw [d_eq] at this
        simp only [List.length_append] at this
        simp only [lineText, List.length_append, List.flatMap_cons, List.flatMap_nil, Item.text, List.append_nil]
        omega
      rintro e w3 ⟨⟨r3, rfl⟩, hlw3⟩
      have hbx3 := hlw3.oth _ _ hbx (by intro e; injection e with e; exact hne e) (by intro c fz e; injection e with _ e; cases e)
      have H3 := Aside0.mk hlw3.again
      have HB3 := Aside0.mk ((HB2.out.trans hI2.bel).trans hlw3.bel)
      have HO3 := Aside0.mk ((hI2.trans hlw3).oth)
      have HT3 := Aside0.mk (hI2.trans hlw3)
      have e0 : w3.cell? ⟨g5, 0, none⟩ = some (.slice A0 x.f0.length n0) := by rw [Lib.cell_of_heap hbx3]; rfl
      have HBX := Lib.hid hbx3
      clear hbx hI2 hlw3 hbx3
      go_wp2
      go_loopg [38] x.f0.length (fun gk s38 wx => ∃ j : Nat, s38 = .int .i64 (j : Int) ∧ j + gk = x.f0.length ∧ LW w.heap.size b (pre ++ lineText [98, 108, 111, 99, 107] [.int (k : Int)] ++ (x.f0.take j).flatMap phiText) w3 wx)
      case atStart => exact ⟨0, rfl, by omega, by simpa using H3.out⟩
      case round =>
        obtain ⟨j, rfl, hj, hI⟩ := hrel
        by_cases hjl : j < x.f0.length
        · obtain ⟨g2, rfl⟩ : ∃ g2, gk = g2 + 1 := ⟨gk - 1, by omega⟩
          obtain ⟨pd, P1, m1, rfl, d0, d1, hl5, hC5⟩ := at_T76 HC0.out (j : Int) (by omega) (by omega)
          rw [Int.toNat_natCast] at d0 d1
          have hbw := HB3.out.trans hI.bel
          have d0 := pw_cell_below hbw d0
          have d1 := pw_cell_below hbw d1
          obtain ⟨p, hp⟩ : ∃ p, rd_T76 x.f0 (j : Int) = p := ⟨_, rfl⟩
          have hpj : x.f0[j]? = some p := by
            rw [← hp, List.getElem?_eq_getElem hjl]
            simp [rd_T76, List.getD_eq_getElem?_getD, List.getElem?_eq_getElem hjl]
          rw [hp] at d0 d1 hl5 hC5
          have HPJ := Lib.hid hpj
          have HPOK := Lib.hid (hxok.out.phis p (List.mem_of_getElem? hpj))
          have HIN := Lib.hid (show p.f1.length ≤ 1099511627776 from Nat.le_trans (phi_count (List.mem_of_getElem? HXK.out) (List.mem_of_getElem? hpj)) HLS.out)
          have HC5 := Aside0.mk hC5
          have hm5 : p.f1.length ≤ 9223372036854775807 := Kd.C_max hC5
          have HBW2 := Aside0.mk hbw
          have hI := Aside0.mk hI
          clear hp hpj hC5 hbw
          go_wp2_with fail
          obtain ⟨W4, hW4⟩ : ∃ W4, wr.alloc (.cells #[.int .i64 p.f0, .slice P1 p.f1.length m1] 76) = W4 := ⟨_, rfl⟩
          have hby : W4.heap[wr.heap.size]? = some (.cells #[.int .i64 p.f0, .slice P1 p.f1.length m1] 76 (0, 0)) := by rw [← hW4]; exact heap_alloc_new wr _
          have hI4 := Aside0.mk (show LW w.heap.size b (pre ++ lineText [98, 108, 111, 99, 107] [.int (k : Int)] ++ (x.f0.take j).flatMap phiText) w3 W4 by rw [← hW4]; exact hI.out.below ((Below.refl _ wr).alloc (Nat.le_refl _) _))
          have hne4 : wr.heap.size ≠ b := by
            obtain ⟨_, cs, hcs⟩ := wr_typed hI.out.wr
            have := blk_lt hcs
            omega
          obtain ⟨gp, hgp⟩ : ∃ gp, wr.heap.size = gp := ⟨_, rfl⟩
          rw [hgp] at hby hne4
          rw [hW4, hgp]
          have HBY := Lib.hid hby
          have HNE4 := Lib.hid hne4
          clear hW4 hgp hby hne4
          go_loopg [8, 45] p.f1.length (fun gk s8 s45 wy => ∃ i : Nat, s45 = .int .i64 (i : Int) ∧ i + gk = p.f1.length ∧ Below W4.heap.size W4 wy ∧ wy.ownsRow W4.heap.size 20 1 s8 (insItems (p.f1.take i)).length (encs Item.cell (insItems (p.f1.take i))))
          case atStart => exact ⟨0, rfl, by omega, Below.refl _ _, own_nil _ _ _ _⟩
          case round =>
            obtain ⟨i, rfl, hi, hbl, hrow⟩ := hrel
            by_cases hil : i < p.f1.length
            · obtain ⟨g3, rfl⟩ : ∃ g3, gk = g3 + 1 := ⟨gk - 1, by omega⟩
              obtain ⟨yd, rfl, y0, y1⟩ := at_T79 HC5.out (i : Int) (by omega) (by omega)
              rw [Int.toNat_natCast] at y0 y1
              have hbw := (HB3.out.trans hI4.out.bel).trans (hbl.mono hI4.out.size)
              have y0 := pw_cell_below hbw y0
              have y1 := pw_cell_below hbw y1
              obtain ⟨y, hy⟩ : ∃ y, rd_T79 p.f1 (i : Int) = y := ⟨_, rfl⟩
              have hyi : p.f1[i]? = some y := by
                rw [← hy, List.getElem?_eq_getElem hil]
                simp [rd_T79, List.getD_eq_getElem?_getD, List.getElem?_eq_getElem hil]
              rw [hy] at y0 y1
              have HYI := Lib.hid hyi
              have HYOK := Lib.hid (HPOK.out.2 y (List.mem_of_getElem? hyi))
              have HSZ := Aside0.mk (show W4.heap.size ≤ wr.heap.size from hbl.size)
              have HBL := Aside0.mk hbl
              have HROW := Aside0.mk hrow
              obtain ⟨v1, hn1⟩ : ∃ v1, y.f0 = v1 := ⟨_, rfl⟩
              obtain ⟨v2, hn2⟩ : ∃ v2, y.f1 = v2 := ⟨_, rfl⟩
              rw [hn1] at y0
              rw [hn2] at y1
              have HY1 := Lib.hid (show I64 v1 by rw [← hn1]; exact HYOK.out.1)
              have HY2 := Lib.hid (show I64 v2 by rw [← hn2]; exact HYOK.out.2)
              have HYE := Lib.hid (show y = ⟨v1, v2⟩ by rw [← hn1, ← hn2])
              clear hy hyi hbw hrow hn1 hn2 hbl
              obtain ⟨t1, ht1⟩ : ∃ t1 : ByteArray, t1 = ⟨(Lib.itoa v1).toArray⟩ := ⟨_, rfl⟩
              obtain ⟨t2, ht2⟩ : ∃ t2 : ByteArray, t2 = ⟨(Lib.itoa v2).toArray⟩ := ⟨_, rfl⟩
              have hs1 : t1.size ≤ 1000000 := by have := itoa_len64 v1 HY1.out.1 HY1.out.2; rw [ht1, Lib.size_eq]; show (Lib.itoa v1).length ≤ 1000000; omega
              have hs2 : t2.size ≤ 1000000 := by have := itoa_len64 v2 HY2.out.1 HY2.out.2; rw [ht2, Lib.size_eq]; show (Lib.itoa v2).length ≤ 1000000; omega
              have no1 : ¬ (9223372036854775807 < t1.size + 1) := by omega
              have no2 : ¬ (9223372036854775807 < t1.size + 1 + t2.size) := by omega
              have HT1 := Lib.hid ht1
              have HT2 := Lib.hid ht2
              clear ht1 ht2 hs1 hs2
              go_wp2_with fail
              obtain ⟨W6, hW6⟩ : ∃ W6, wr.alloc (.cells #[.int .i64 v1, .int .i64 v2] 79) = W6 := ⟨_, rfl⟩
              have HBL := Aside0.mk (show Below W4.heap.size W4 W6.drew by rw [← hW6]; exact (HBL.out.alloc HBL.out.size _).drew)
              have HROW := Aside0.mk (show W6.drew.ownsRow W4.heap.size 20 1 u8 (insItems (p.f1.take i)).length (encs Item.cell (insItems (p.f1.take i))) by rw [← hW6]; exact pw_own_below (w1 := wr.alloc (.cells #[.int .i64 v1, .int .i64 v2] 79)) HROW.out ((Below.refl _ wr).alloc (Nat.le_refl _) _))
              have hbz : W6.heap[wr.heap.size]? = some (.cells #[.int .i64 v1, .int .i64 v2] 79 (0, 0)) := by rw [← hW6]; exact heap_alloc_new wr _
              obtain ⟨gz, hgz⟩ : ∃ gz, wr.heap.size = gz := ⟨_, rfl⟩
              rw [hgz] at hbz
              have z0 : W6.drew.cell? ⟨gz, 0, none⟩ = some (.int .i64 v1) := by show W6.cell? _ = _; rw [Lib.cell_of_heap hbz]; rfl
              have z1 : W6.drew.cell? ⟨gz, 1, none⟩ = some (.int .i64 v2) := by show W6.cell? _ = _; rw [Lib.cell_of_heap hbz]; rfl
              rw [hW6, hgz]
              clear hW6 hgz hbz
              have hcap : ((insItems (p.f1.take i)).length + 1) * 16 ≤ 140737488355328 := by unfold insItems; rw [List.length_map, List.length_take]; have := HIN.out; omega
              have hitem : ∀ u ∈ [Value.iface 9 (.string (t1 ++ { data := #[58] } ++ t2))], u.oneCell' = true := by intro u hu; simp at hu; subst hu; rfl
              have HITEM := Lib.hid hitem
              have HCAP := Lib.hid hcap
              clear hitem hcap
              go_region_law (first
                | (refine step_append_cells (w0 := W4) W4.heap.size ?_ (.tmp 49) (.tmp 59) 77 20 .nilIface 1 16 ?_ (by kernel_rfl) (by kernel_rfl) rfl (by decide) (by decide) u8 _ (encs Item.cell (insItems (p.f1.take i))) [Value.iface 9 (.string (t1 ++ { data := #[58] } ++ t2))] ?_ ?_ rfl HITEM.out HROW.out HBL.out HBL.out.size HCAP.out ?_; rfl; rfl; rfl; rfl; intro s1 w7 hown7 hb7 hg7 hat7; have HOWN7 := Aside0.mk hown7; have HB7 := Aside0.mk hb7; clear hown7 hg7 hb7 hat7)
                | (go_simp; go_at_call 19; refine (itoa_calls v1 _ ⟨(HGB.out _ ((HB3.out.trans hI4.out.bel).trans (HBL.out.mono hI4.out.size))).t⟩ HY1.out.1 HY1.out.2).mono ?_; rw [← HT1.out]; rintro e w5 ⟨rfl, hb5⟩; have z0 := pw_cell_below hb5 z0; have z1 := pw_cell_below hb5 z1; have HROW := Aside0.mk (pw_own_below HROW.out hb5); have HBL := Aside0.mk (HBL.out.trans (hb5.mono HBL.out.size)); clear hb5)
                | (go_simp; go_at_call 19; refine (itoa_calls v2 _ ⟨(HGB.out _ ((HB3.out.trans hI4.out.bel).trans (HBL.out.mono hI4.out.size))).t⟩ HY2.out.1 HY2.out.2).mono ?_; rw [← HT2.out]; rintro e w5 ⟨rfl, hb5⟩; have z0 := pw_cell_below hb5 z0; have z1 := pw_cell_below hb5 z1; have HROW := Aside0.mk (pw_own_below HROW.out hb5); have HBL := Aside0.mk (HBL.out.trans (hb5.mono HBL.out.size)); clear hb5))
              all_goals
                go_wp2
                go_roundg g3
                case measure => omega
                case rel => exact ⟨i + 1, by first | (simp; done) | (simp; unfold wrap64; omega), by omega, HB7.out, ins_row HYI.out HYE.out HT1.out HT2.out HOWN7.out⟩
            · have hie : i = p.f1.length := by omega
              subst hie
              rw [List.take_length] at hrow
              have HROW := Aside0.mk hrow
              have HBL := Aside0.mk hbl
              obtain ⟨A8, c8, rfl⟩ := own_slice hrow
              have hby := blk_below HBY.out hbl
              have q0 : wr.cell? ⟨gp, 0, none⟩ = some (.int .i64 p.f0) := by rw [Lib.cell_of_heap hby]; rfl
              clear hrow hbl hby
              have hO : (wr.alloc (.cells #[Value.iface 3 (.int .i64 p.f0)] 20)).ownsRow W4.heap.size 20 1 (.slice (some ⟨wr.heap.size, 0, none⟩) 1 1) [Item.int p.f0].length (encs Item.cell [Item.int p.f0]) :=
                own_lit_of (enc := Item.cell) wr W4.heap.size 20 [Item.int p.f0] HBL.out.size (by simp)
              have hR : ReadsOf Item.cell (Item.int 0) (wr.alloc (.cells #[Value.iface 3 (.int .i64 p.f0)] 20)) A8 (insItems p.f1).length (insItems p.f1) :=
                (own_reads_of' (d := Item.int 0) HROW.out).below ((Below.refl _ wr).alloc (Nat.le_refl _) _)
              have hB9 : Below W4.heap.size W4 (wr.alloc (.cells #[Value.iface 3 (.int .i64 p.f0)] 20)) := HBL.out.alloc HBL.out.size _
              have hS9 : W4.heap.size ≤ (wr.alloc (.cells #[Value.iface 3 (.int .i64 p.f0)] 20)).heap.size := hB9.size
              have hcap9 : ([Item.int p.f0].length + (insItems p.f1).length) * 16 ≤ 140737488355328 := by unfold insItems; rw [List.length_map, List.length_singleton]; have := HIN.out; omega
              have HO9 := Aside0.mk hO
              have HR9 := Aside0.mk hR
              have HB9 := Aside0.mk hB9
              have HS9 := Aside0.mk hS9
              have HCAP9 := Lib.hid hcap9
              clear hO hR hB9 hS9 hcap9
              go_wp2_with (at_builtin; refine print_append_row_of (w0 := W4) Item.cell (Item.int 0) W4.heap.size rfl (.tmp 66) (.tmp 67) 77 20 .nilIface 16 rfl (by kernel_rfl) (by kernel_rfl) rfl (by decide) (fun x => by cases x <;> rfl) (.slice (some ⟨wr.heap.size, 0, none⟩) 1 1) [Item.int p.f0] (insItems p.f1) A8 _ c8 rfl rfl HO9.out HR9.out HB9.out HS9.out HCAP9.out ?_; intro s9 w9 hown9 hb9 hg9 hat9; have HOWN9 := Aside0.mk hown9; have HB10 := Aside0.mk hb9; clear hown9 hb9 hg9 hat9)
              have hLW := hI4.out.below HB10.out
              have hbd : (pre ++ lineText [98, 108, 111, 99, 107] [Item.int (k : Int)] ++ (x.f0.take j).flatMap phiText).length + (lineText [112, 104, 105] ([Item.int p.f0] ++ insItems p.f1)).length ≤ 140737488355328 := by
                rw [phi_line]
                exact phi_bound HBD.out HPJ.out
              refine (line_calls w.heap.size b (pre ++ lineText [98, 108, 111, 99, 107] [Item.int (k : Int)] ++ (x.f0.take j).flatMap phiText) ⟨#[112, 104, 105]⟩ s9 ([Item.int p.f0] ++ insItems p.f1) w9 ⟨fun w' h => (HGB.out w' ((HB3.out.trans hLW.bel).trans h)).t⟩ hLW.wr hLW.size (own_weaken HOWN9.out hI4.out.size) ⟨phi_ok HPOK.out⟩ hbd).mono ?_
              rintro e w10 ⟨rfl, h1, h2, h3⟩
              have hLX := Aside0.mk (hLW.wrote h1 h2 h3)
              clear hLW hbd h1 h2 h3
              go_wp2
              go_roundg g2
              case measure => omega
              case rel => exact ⟨j + 1, by first | (simp; done) | (simp; unfold wrap64; omega), by omega, by have := hLX.out; rw [phi_line, List.append_assoc, ← phis_step HPJ.out] at this; exact this⟩
        · have hje : j = x.f0.length := by omega
          subst hje
          rw [List.take_length] at hI
          have hbx4 := hI.oth _ _ HBX.out (by intro e; injection e with e; exact HNE.out e) (by intro c fz e; injection e with _ e; cases e)
          have e1 : wr.cell? ⟨g5, 1, none⟩ = some (.slice A1 x.f1.length n1) := by rw [Lib.cell_of_heap hbx4]; rfl
          obtain ⟨L2, hL2⟩ : ∃ L2, pre ++ lineText [98, 108, 111, 99, 107] [Item.int (k : Int)] ++ x.f0.flatMap phiText = L2 := ⟨_, rfl⟩
          rw [hL2] at hI
          have HL2 := Lib.hid hL2
          have HBX4 := Lib.hid hbx4
          have HB4 := Aside0.mk (HB3.out.trans hI.bel)
          have HI0 := Aside0.mk hI.again
          have HT4 := Aside0.mk (HT3.out.trans hI)
          clear hbx4 hL2 hI
          go_wp2
          go_loopg [74] x.f1.length (fun gk s74 wx => ∃ j : Nat, s74 = .int .i64 (j : Int) ∧ j + gk = x.f1.length ∧ LW w.heap.size b (L2 ++ (x.f1.take j).flatMap (fun x => insText x ++ [10])) wr wx)
          case atStart => exact ⟨0, rfl, by omega, by simpa using HI0.out⟩
          case round =>
            obtain ⟨j, rfl, hj, hI⟩ := hrel
            by_cases hjl : j < x.f1.length
            · obtain ⟨g2, rfl⟩ : ∃ g2, gk = g2 + 1 := ⟨gk - 1, by omega⟩
              obtain ⟨pd, P1, m1, rfl, d0, d1, d2, d3, d4, hl5, hC5⟩ := at_T46 HC1.out (j : Int) (by omega) (by omega)
              rw [Int.toNat_natCast] at d0 d1 d2 d3 d4
              have hbw := HB4.out.trans hI.bel
              have d0 := pw_cell_below hbw d0
              have d1 := pw_cell_below hbw d1
              have d2 := pw_cell_below hbw d2
              have d3 := pw_cell_below hbw d3
              have d4 := pw_cell_below hbw d4
              obtain ⟨p, hp⟩ : ∃ p, rd_T46 x.f1 (j : Int) = p := ⟨_, rfl⟩
              have hpj : x.f1[j]? = some p := by
                rw [← hp, List.getElem?_eq_getElem hjl]
                simp [rd_T46, List.getD_eq_getElem?_getD, List.getElem?_eq_getElem hjl]
              rw [hp] at d0 d1 d2 d3 d4 hl5 hC5
              have HPJ := Lib.hid hpj
              have HPOK := Aside0.mk (hxok.out.ins p (List.mem_of_getElem? hpj))
              have HC5 := Aside0.mk hC5
              have hI := Aside0.mk hI
              clear hp hpj hC5 hbw
              go_wp2_with fail
              have hI2 := hI.out.below ((Below.refl _ _).alloc (Nat.le_refl _) (.cells #[.int .i64 p.f0, .int .i64 p.f1, .int .i64 p.f2, .slice P1 p.f3.length m1, .int .i32 p.f4] 46))
              refine (ins_calls w.heap.size b (L2 ++ (x.f1.take j).flatMap (fun x => insText x ++ [10])) p.f0 p.f1 p.f2 p.f4 p.f3 P1 m1 _ ⟨fun w' h => HGB.out w' ((HB4.out.trans hI2.bel).trans h)⟩ hI2.wr hI2.size ⟨fun w' h => Kd.C_below HC5.out ((HB4.out.trans hI2.bel).trans h)⟩ HPOK (ins_bound HBD.out HL2.out HPJ.out)).mono ?_
              rintro e w10 ⟨rfl, h1, h2, h3⟩
              have hLX := Aside0.mk (hI2.wrote h1 h2 h3)
              clear hI2 h1 h2 h3
              go_wp2
              go_roundg g2
              case measure => omega
              case rel => exact ⟨j + 1, by first | (simp; done) | (simp; unfold wrap64; omega), by omega, by have := hLX.out; rw [inss_step HPJ.out, ← List.append_assoc, ← List.append_assoc]; exact this⟩
            · have hje : j = x.f1.length := by omega
              subst hje
              rw [List.take_length] at hI
              have hbx5 := hI.oth _ _ HBX4.out (by intro e; injection e with e; exact HNE.out e) (by intro c fz e; injection e with _ e; cases e)
              have f2 : wr.cell? ⟨g5, 2, none⟩ = some (.int .i64 x.f2.f0) := by rw [Lib.cell_of_heap hbx5]; rfl
              have HBX5 := Lib.hid hbx5
              have HB5 := Aside0.mk (HB4.out.trans hI.bel)
              have HI1 := Aside0.mk hI
              have HT5 := Aside0.mk (HT4.out.trans hI)
              have hn := nth_calls x.f2.f0 wr ⟨HGB.out _ HB5.out⟩
              unfold termsText at hn
              clear hbx5 hI
              go_wp2_with fail
              refine hn.mono ?_
              rintro e w11 ⟨rfl, hb11⟩
              have hbx6 := blk_below HBX5.out hb11
              have HI2 := Aside0.mk (HI1.out.below hb11)
              have HT6 := Aside0.mk (HT5.out.below hb11)
              have f3 : w11.cell? ⟨g5, 3, none⟩ = some (.slice A3 x.f2.f1.length n3) := by rw [Lib.cell_of_heap hbx6]; rfl
              have f4 : w11.cell? ⟨g5, 4, none⟩ = some (.slice A4 x.f2.f2.length n4) := by rw [Lib.cell_of_heap hbx6]; rfl
              have f5 : w11.cell? ⟨g5, 5, none⟩ = some (.int .i32 x.f2.f3) := by rw [Lib.cell_of_heap hbx6]; rfl
              clear hn hbx6 hb11
              by_cases hkd : x.f2.f0 = 5
              · have hnm : nthL x.f2.f0 = [116, 114, 97, 112] := by rw [hkd]; decide +kernel
                have htx : lineText [116, 114, 97, 112] [Item.w32 x.f2.f3] = termText x.f2 ++ [10] := by unfold termText lineText; rw [if_neg (by omega), if_pos hkd, d_eq]; simp [Item.text]
                have HTX := Lib.hid htx
                have hln : (L2 ++ x.f1.flatMap (fun x => insText x ++ [10])).length + (lineText [116, 114, 97, 112] [Item.w32 x.f2.f3]).length ≤ 140737488355328 := by
                  have := term_bound HBD.out HL2.out; rw [htx]; simp only [List.length_append, List.length_singleton] at this ⊢; omega
                have HLN := Lib.hid hln
                clear htx hln
                rw [hnm]
                go_wp2_with fail
                refine (line_lw (LW.again HI2.out) ⟨#[116, 114, 97, 112]⟩ [116, 114, 97, 112] rfl [.w32 x.f2.f3] (fun w' h => (HGB.out w' ((HB4.out.trans HI2.out.bel).trans h)).t) (by simp) (by
                  intro it hit w' h
                  simp only [List.mem_singleton] at hit
                  subst hit
                  exact hxok.out.imm) HLN.out).mono ?_
                rintro e w12 ⟨⟨r12, rfl⟩, hlw12⟩
                have HLW12 := Aside0.mk (LW.trans HT6.out hlw12)
                clear hlw12
                go_wp2
                go_roundg g'
                case measure => omega
                case rel => exact ⟨k + 1, by first | (simp; done) | (simp; unfold wrap64; omega), by omega, by have := HLW12.out; rw [HTX.out, block_step HXK.out HPRE.out HL2.out] at this; exact this⟩
              · by_cases hk1 : x.f2.f0 = 1
                · have hnm : nthL x.f2.f0 = [106, 117, 109, 112] := by rw [hk1]; decide +kernel
                  have htl : termList.getD (x.f2.f0.toNat - 1) [] = [106, 117, 109, 112] := by rw [hk1]; decide +kernel
                  have htx : lineText [106, 117, 109, 112] [Item.ints (.slice A3 x.f2.f1.length n3) x.f2.f1, Item.ints (.slice A4 x.f2.f2.length n4) x.f2.f2] = termText x.f2 ++ [10] := by unfold termText lineText; rw [if_neg (by omega), if_neg hkd, htl]; simp [Item.text, ds, d_eq]
                  have HTX := Lib.hid htx
                  have hln : (L2 ++ x.f1.flatMap (fun x => insText x ++ [10])).length + (lineText [106, 117, 109, 112] [Item.ints (.slice A3 x.f2.f1.length n3) x.f2.f1, Item.ints (.slice A4 x.f2.f2.length n4) x.f2.f2]).length ≤ 140737488355328 := by
                    have := term_bound HBD.out HL2.out; rw [htx]; simp only [List.length_append, List.length_singleton] at this ⊢; omega
                  have HLN := Lib.hid hln
                  clear htx hln htl
                  rw [hnm]
                  clear hk1 hkd hnm
                  go_wp2_with fail
                  refine (line_lw (LW.again HI2.out) ⟨#[106, 117, 109, 112]⟩ [106, 117, 109, 112] rfl [Item.ints (.slice A3 x.f2.f1.length n3) x.f2.f1, Item.ints (.slice A4 x.f2.f2.length n4) x.f2.f2] (fun w' h => (HGB.out w' ((HB4.out.trans HI2.out.bel).trans h)).t) (by simp) (by
                    intro it hit w' h
                    have hbw := (HB4.out.trans HI2.out.bel).trans h
                    simp only [List.mem_cons, List.not_mem_nil, or_false] at hit
                    rcases hit with rfl | rfl
                    · exact ⟨A3, n3, rfl, Kd.C_below HC3.out hbw, hxok.out.args⟩
                    · exact ⟨A4, n4, rfl, Kd.C_below HC4.out hbw, hxok.out.tos⟩) HLN.out).mono ?_
                  rintro e w12 ⟨⟨r12, rfl⟩, hlw12⟩
                  have HLW12 := Aside0.mk (LW.trans HT6.out hlw12)
                  clear hlw12
                  go_wp2
                  go_roundg g'
                  case measure => omega
                  case rel => exact ⟨k + 1, by first | (simp; done) | (simp; unfold wrap64; omega), by omega, by have := HLW12.out; rw [HTX.out, block_step HXK.out HPRE.out HL2.out] at this; exact this⟩
                by_cases hk2 : x.f2.f0 = 2
                · have hnm : nthL x.f2.f0 = [98, 114, 97, 110, 99, 104] := by rw [hk2]; decide +kernel
                  have htl : termList.getD (x.f2.f0.toNat - 1) [] = [98, 114, 97, 110, 99, 104] := by rw [hk2]; decide +kernel
                  have htx : lineText [98, 114, 97, 110, 99, 104] [Item.ints (.slice A3 x.f2.f1.length n3) x.f2.f1, Item.ints (.slice A4 x.f2.f2.length n4) x.f2.f2] = termText x.f2 ++ [10] := by unfold termText lineText; rw [if_neg (by omega), if_neg hkd, htl]; simp [Item.text, ds, d_eq]
                  have HTX := Lib.hid htx
                  have hln : (L2 ++ x.f1.flatMap (fun x => insText x ++ [10])).length + (lineText [98, 114, 97, 110, 99, 104] [Item.ints (.slice A3 x.f2.f1.length n3) x.f2.f1, Item.ints (.slice A4 x.f2.f2.length n4) x.f2.f2]).length ≤ 140737488355328 := by
                    have := term_bound HBD.out HL2.out; rw [htx]; simp only [List.length_append, List.length_singleton] at this ⊢; omega
                  have HLN := Lib.hid hln
                  clear htx hln htl
                  rw [hnm]
                  clear hk2 hkd hnm
                  go_wp2_with fail
                  refine (line_lw (LW.again HI2.out) ⟨#[98, 114, 97, 110, 99, 104]⟩ [98, 114, 97, 110, 99, 104] rfl [Item.ints (.slice A3 x.f2.f1.length n3) x.f2.f1, Item.ints (.slice A4 x.f2.f2.length n4) x.f2.f2] (fun w' h => (HGB.out w' ((HB4.out.trans HI2.out.bel).trans h)).t) (by simp) (by
                    intro it hit w' h
                    have hbw := (HB4.out.trans HI2.out.bel).trans h
                    simp only [List.mem_cons, List.not_mem_nil, or_false] at hit
                    rcases hit with rfl | rfl
                    · exact ⟨A3, n3, rfl, Kd.C_below HC3.out hbw, hxok.out.args⟩
                    · exact ⟨A4, n4, rfl, Kd.C_below HC4.out hbw, hxok.out.tos⟩) HLN.out).mono ?_
                  rintro e w12 ⟨⟨r12, rfl⟩, hlw12⟩
                  have HLW12 := Aside0.mk (LW.trans HT6.out hlw12)
                  clear hlw12
                  go_wp2
                  go_roundg g'
                  case measure => omega
                  case rel => exact ⟨k + 1, by first | (simp; done) | (simp; unfold wrap64; omega), by omega, by have := HLW12.out; rw [HTX.out, block_step HXK.out HPRE.out HL2.out] at this; exact this⟩
                by_cases hk3 : x.f2.f0 = 3
                · have hnm : nthL x.f2.f0 = [115, 119, 105, 116, 99, 104] := by rw [hk3]; decide +kernel
                  have htl : termList.getD (x.f2.f0.toNat - 1) [] = [115, 119, 105, 116, 99, 104] := by rw [hk3]; decide +kernel
                  have htx : lineText [115, 119, 105, 116, 99, 104] [Item.ints (.slice A3 x.f2.f1.length n3) x.f2.f1, Item.ints (.slice A4 x.f2.f2.length n4) x.f2.f2] = termText x.f2 ++ [10] := by unfold termText lineText; rw [if_neg (by omega), if_neg hkd, htl]; simp [Item.text, ds, d_eq]
                  have HTX := Lib.hid htx
                  have hln : (L2 ++ x.f1.flatMap (fun x => insText x ++ [10])).length + (lineText [115, 119, 105, 116, 99, 104] [Item.ints (.slice A3 x.f2.f1.length n3) x.f2.f1, Item.ints (.slice A4 x.f2.f2.length n4) x.f2.f2]).length ≤ 140737488355328 := by
                    have := term_bound HBD.out HL2.out; rw [htx]; simp only [List.length_append, List.length_singleton] at this ⊢; omega
                  have HLN := Lib.hid hln
                  clear htx hln htl
                  rw [hnm]
                  clear hk3 hkd hnm
                  go_wp2_with fail
                  refine (line_lw (LW.again HI2.out) ⟨#[115, 119, 105, 116, 99, 104]⟩ [115, 119, 105, 116, 99, 104] rfl [Item.ints (.slice A3 x.f2.f1.length n3) x.f2.f1, Item.ints (.slice A4 x.f2.f2.length n4) x.f2.f2] (fun w' h => (HGB.out w' ((HB4.out.trans HI2.out.bel).trans h)).t) (by simp) (by
                    intro it hit w' h
                    have hbw := (HB4.out.trans HI2.out.bel).trans h
                    simp only [List.mem_cons, List.not_mem_nil, or_false] at hit
                    rcases hit with rfl | rfl
                    · exact ⟨A3, n3, rfl, Kd.C_below HC3.out hbw, hxok.out.args⟩
                    · exact ⟨A4, n4, rfl, Kd.C_below HC4.out hbw, hxok.out.tos⟩) HLN.out).mono ?_
                  rintro e w12 ⟨⟨r12, rfl⟩, hlw12⟩
                  have HLW12 := Aside0.mk (LW.trans HT6.out hlw12)
                  clear hlw12
                  go_wp2
                  go_roundg g'
                  case measure => omega
                  case rel => exact ⟨k + 1, by first | (simp; done) | (simp; unfold wrap64; omega), by omega, by have := HLW12.out; rw [HTX.out, block_step HXK.out HPRE.out HL2.out] at this; exact this⟩
                by_cases hk4 : x.f2.f0 = 4
                · have hnm : nthL x.f2.f0 = [114, 101, 116] := by rw [hk4]; decide +kernel
                  have htl : termList.getD (x.f2.f0.toNat - 1) [] = [114, 101, 116] := by rw [hk4]; decide +kernel
                  have htx : lineText [114, 101, 116] [Item.ints (.slice A3 x.f2.f1.length n3) x.f2.f1, Item.ints (.slice A4 x.f2.f2.length n4) x.f2.f2] = termText x.f2 ++ [10] := by unfold termText lineText; rw [if_neg (by omega), if_neg hkd, htl]; simp [Item.text, ds, d_eq]
                  have HTX := Lib.hid htx
                  have hln : (L2 ++ x.f1.flatMap (fun x => insText x ++ [10])).length + (lineText [114, 101, 116] [Item.ints (.slice A3 x.f2.f1.length n3) x.f2.f1, Item.ints (.slice A4 x.f2.f2.length n4) x.f2.f2]).length ≤ 140737488355328 := by
                    have := term_bound HBD.out HL2.out; rw [htx]; simp only [List.length_append, List.length_singleton] at this ⊢; omega
                  have HLN := Lib.hid hln
                  clear htx hln htl
                  rw [hnm]
                  clear hk4 hkd hnm
                  go_wp2_with fail
                  refine (line_lw (LW.again HI2.out) ⟨#[114, 101, 116]⟩ [114, 101, 116] rfl [Item.ints (.slice A3 x.f2.f1.length n3) x.f2.f1, Item.ints (.slice A4 x.f2.f2.length n4) x.f2.f2] (fun w' h => (HGB.out w' ((HB4.out.trans HI2.out.bel).trans h)).t) (by simp) (by
                    intro it hit w' h
                    have hbw := (HB4.out.trans HI2.out.bel).trans h
                    simp only [List.mem_cons, List.not_mem_nil, or_false] at hit
                    rcases hit with rfl | rfl
                    · exact ⟨A3, n3, rfl, Kd.C_below HC3.out hbw, hxok.out.args⟩
                    · exact ⟨A4, n4, rfl, Kd.C_below HC4.out hbw, hxok.out.tos⟩) HLN.out).mono ?_
                  rintro e w12 ⟨⟨r12, rfl⟩, hlw12⟩
                  have HLW12 := Aside0.mk (LW.trans HT6.out hlw12)
                  clear hlw12
                  go_wp2
                  go_roundg g'
                  case measure => omega
                  case rel => exact ⟨k + 1, by first | (simp; done) | (simp; unfold wrap64; omega), by omega, by have := HLW12.out; rw [HTX.out, block_step HXK.out HPRE.out HL2.out] at this; exact this⟩
                have hnm : nthL x.f2.f0 = [63] := by unfold nthL; rw [if_neg (by omega)]
                have htx : lineText [63] [] = termText x.f2 ++ [10] := by unfold termText lineText; rw [if_pos (by omega)]; simp
                have HTX := Lib.hid htx
                have hln : (L2 ++ x.f1.flatMap (fun x => insText x ++ [10])).length + (lineText [63] []).length ≤ 140737488355328 := by
                  have := term_bound HBD.out HL2.out; rw [htx]; simp only [List.length_append, List.length_singleton] at this ⊢; omega
                have HLN := Lib.hid hln
                clear htx hln
                rw [hnm]
                clear hk1 hk2 hk3 hk4 hkd hnm
                go_wp2_with fail
                refine (line_calls w.heap.size b (L2 ++ x.f1.flatMap (fun x => insText x ++ [10])) ⟨#[63]⟩ (.slice none 0 0) [] w11 ⟨fun w' h => (HGB.out w' ((HB4.out.trans HI2.out.bel).trans h)).t⟩ HI2.out.wr HI2.out.size (own_nil _ _ _ _) ⟨fun it hit => by cases hit⟩ HLN.out).mono ?_
                rintro e w12 ⟨rfl, h1, h2, h3⟩
                have HLW12 := Aside0.mk (HT6.out.wrote h1 h2 h3)
                clear h1 h2 h3
                go_wp2
                go_roundg g'
                case measure => omega
                case rel => exact ⟨k + 1, by first | (simp; done) | (simp; unfold wrap64; omega), by omega, by have : LI w.heap.size b (L2 ++ x.f1.flatMap (fun x => insText x ++ [10]) ++ lineText [63] []) (.slice none 0 0) [] w2 w12 := HLW12.out; rw [HTX.out, block_step HXK.out HPRE.out HL2.out] at this; exact this⟩
    · have hke : k = f.f1.length := by omega
      subst hke
      rw [List.take_length] at hI
      have HI := Aside0.mk hI
      have hne0 : [] ++ lineText [102, 117, 110, 99] [Item.int f.f0] ++ blocksText 0 f.f1 ≠ [] := by simp [lineText]
      have hstr := string_ w.heap.size b _ wr hI.wr hne0
      have htxt : [] ++ lineText [102, 117, 110, 99] [Item.int f.f0] ++ blocksText 0 f.f1 = funcText f := by
        unfold funcText lineText
        rw [d_eq]
        simp [Item.text]
      rw [htxt] at hstr
      have HSTR := Lib.hid hstr
      clear hI hne0 hstr htxt
      go_wp2_with fail
      refine HSTR.out.mono ?_
      rintro e w13 ⟨rfl, hb13⟩
      go_wp2
      go_ret
      exact ⟨rfl, (HB2.out.trans HI.out.bel).trans hb13⟩
end Go.Proofs.YtlmkhllippobaaaDoor.Wb
end
