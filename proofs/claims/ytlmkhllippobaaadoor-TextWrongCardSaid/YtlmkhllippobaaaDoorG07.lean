/- Parts of the proof, one behind the other: Phi, Map, Pin0, PinConst. -/
import Derived.Test.YtlmkhllippobaaaDoorG06
import Derived.Deep.RegionHeld3
import Derived.Deep.AppendLies
import Derived.Deep.DrawnRows
import Derived.WalkLawsBesides
import Derived.Test.YtlmkhllippobaaaDoorProg
import Derived.Below
import Derived.WalkKit
import Derived.RowKit
import Derived.MapKept
import Derived.Lib.Hide
section
/- text.parser.phi, walked. -/
set_option linter.unusedVariables false
set_option linter.unusedSimpArgs false
namespace Go.Proofs.YtlmkhllippobaaaDoor.Ps
open Go.RowKit Go.Proofs.YtlmkhllippobaaaDoorW.PrintWords Go.Proofs.YtlmkhllippobaaaDoorW.PrintWords.Kd Go.Proofs.YtlmkhllippobaaaDoorW.PrintMore Go.Proofs.YtlmkhllippobaaaDoorW.PrintMore.Kd Go.Proofs.YtlmkhllippobaaaDoor.Wl Go.Proofs.YtlmkhllippobaaaDoor.Tx Go.Proofs.YtlmkhllippobaaaDoor.Kd
attribute [local go_sem ↓] Go.wp_at_zero Go.wp_at_succ

/-- What the laid variables give the parser. -/
structure LaidP (w : World) : Prop where
  l : Laid w
  mx : ∃ m, w.cell? ⟨2, 0, none⟩ = some (.int .i64 m)
theorem LaidP.below {w w' : World} (h : LaidP w) (hb : Below w.heap.size w w') : LaidP w' := by
  obtain ⟨m, hm⟩ := h.mx
  exact ⟨h.l.below hb, m, pw_cell_below hb hm⟩
def ErrAt (g : Nat) (e : Int) (w : World) : Prop := ∃ a b c d, w.heap[g]? = some (.cells #[a, b, c, .int .i64 e, d] 57 (0, 0))
def Out (B g : Nat) (r : Except Int St) (w : World) : Prop := match r with
  | .ok st => PS B g st 0 w
  | .error e => ErrAt g e w ∧ (e = 70 ∨ e = 71 ∨ e = 72)
/-- What a call of one of the parser's methods leaves. -/
structure Stepped (B g : Nat) (r : Except Int St) (w w' : World) : Prop where
  bel : Below B w w'
  oth : Oth w w'
  out : Out B g r w'

theorem Stepped.drewN {B g : Nat} {r : Except Int St} {w w' : World} (h : Stepped B g r w w') (n : Nat) : Stepped B g r w (w'.drewN n) := by
  refine ⟨pw_below_drewN h.bel n, h.oth, ?_⟩
  have := h.out
  cases r with
  | ok st => exact PS.below this (pw_below_drewN (Below.refl _ _) n)
  | error e => exact this
theorem info_str : ∃ i, Tryd.prog.info? 9 = some i ∧ i.size = 1 := by
  obtain ⟨i, hi, h⟩ := Option.map_eq_some_iff.1 (show (Tryd.prog.info? 9).map (fun i => i.size) = some 1 by kernel_rfl)
  exact ⟨i, hi, h⟩
theorem under_strs : Tryd.prog.underlying 63 = some (.slice 9) := by kernel_rfl
theorem cut1 (A : Option Addr) (s : ByteArray) (t : List ByteArray) (cap : Nat) (hc : t.length + 1 ≤ cap) :
    ∃ A', (∀ W : World, (Instr.slice 63 (.slice A (t.length + 1) cap) (some (.int .i64 1)) none none).run Tryd.prog W = .ok (.slice A' t.length (cap - 1)) W) ∧ (∀ W, RdS W A (s :: t) → RdS W A' t) := by
  obtain ⟨i, hi, hz⟩ := info_str
  refine ⟨if cap = 1 then A else A.map (·.add (1 * 1)), fun W => ?_, fun W h => ?_⟩
  · exact cut_from (P := Tryd.prog) 63 9 .i64 under_strs hi 1 hz A (t.length + 1) cap 1 (by omega) (by omega) W
  · exact F_cut (m := 1) (c := cap) h (by simp) hc

/-- Ahead of, behind the first colon. -/
def cutA (s : ByteArray) : ByteArray := ⟨(Lib.cut s.data.toList [58]).1.toArray⟩
def cutB (s : ByteArray) : ByteArray := ⟨(Lib.cut s.data.toList [58]).2.1.toArray⟩
def phiV (d : ByteArray) (t : List ByteArray) : TPhi := ⟨numV d, t.map (fun s => ⟨numV (cutA s), numV (cutB s)⟩)⟩
def phiE (d : ByteArray) (t : List ByteArray) : Int := errN 0 (d :: t.flatMap (fun s => [cutA s, cutB s]))
theorem numW_eq (s : ByteArray) : numW s = if okV s then some (numV s) else none := rfl
theorem insAll_cons (s : ByteArray) (t : List ByteArray) : insAll (s :: t) = match numW (cutA s), numW (cutB s), insAll t with
  | some a, some b, some l => some (⟨a, b⟩ :: l)
  | _, _, _ => none := rfl
theorem insAll_eq : ∀ t : List ByteArray, insAll t = if (t.flatMap (fun s => [cutA s, cutB s])).all okV then some (t.map (fun s => (⟨numV (cutA s), numV (cutB s)⟩ : TIn))) else none
  | [] => rfl
  | s :: t => by
    rw [insAll_cons, insAll_eq t, numW_eq, numW_eq]
    simp only [List.flatMap_cons, List.all_append, List.all_cons, List.all_nil, Bool.and_true, List.map_cons]
    cases h1 : okV (cutA s) <;> cases h2 : okV (cutB s) <;> cases h3 : (t.flatMap (fun s => [cutA s, cutB s])).all okV <;> simp
theorem phiW_def (d : ByteArray) (t : List ByteArray) : phiW (d :: t) = if t.all oneColon then (match numW d, insAll t with | some n, some l => .ok ⟨n, l⟩ | _, _ => .error 71) else .error 70 := rfl
theorem phiW_cons (d : ByteArray) (t : List ByteArray) : phiW (d :: t) = if t.all oneColon then (if phiE d t = 0 then .ok (phiV d t) else .error 71) else .error 70 := by
  rw [phiW_def, numW_eq, insAll_eq]
  unfold phiE phiV
  split
  · unfold errN
    simp only [if_true, List.all_cons]
    by_cases h1 : okV d = true <;> by_cases h3 : (t.flatMap (fun s => [cutA s, cutB s])).all okV = true <;> simp only [h1, h3] <;> rfl
  · rfl
theorem any_odd (t : List ByteArray) : t.any odd = !(t.all oneColon) := by
  induction t with
  | nil => rfl
  | cons s t ih =>
    rw [List.any_cons, List.all_cons, ih]
    unfold odd
    cases oneColon s <;> simp
theorem cut_sizes (l : List UInt8) : (Lib.cut l [58]).1.length ≤ l.length ∧ (Lib.cut l [58]).2.1.length ≤ l.length := by
  unfold Lib.cut
  split
  · exact ⟨by rw [List.length_take]; omega, by rw [List.length_drop]; omega⟩
  · exact ⟨Nat.le_refl _, by simp⟩
theorem cutA_size (s : ByteArray) : (cutA s).size ≤ s.size := by
  have := (cut_sizes s.data.toList).1
  rw [Lib.size_eq, Lib.size_eq]
  exact this
theorem cutB_size (s : ByteArray) : (cutB s).size ≤ s.size := by
  have := (cut_sizes s.data.toList).2
  rw [Lib.size_eq, Lib.size_eq]
  exact this
theorem cut_calls (s : ByteArray) (w : World) (HG : Aside0 (LaidP w)) (hs : s.size < 4294967281) :
    Calls Tryd.prog 27 #[.string s, .string ⟨#[58]⟩] w fun e w' => e = .returned (.tuple #[.string (cutA s), .string (cutB s), .bool (Lib.cut s.data.toList [58]).2.2]) ∧ ∃ n, w.drewN n = w' := by
  obtain ⟨m, hm⟩ := HG.out.mx
  refine (Tryd.strings_Cut s ⟨#[58]⟩ m w hs hm).mono ?_
  rintro e w' ⟨rfl, n, rfl⟩
  exact ⟨rfl, n, rfl⟩

set_option maxHeartbeats 8000000 in
set_option maxRecDepth 1000000 in
theorem phi_nil (B g : Nat) (A : Option Addr) (cap : Nat) (st : St) (w : World) (hps : PS B g st 0 w) :
    Calls Tryd.prog 37 #[.pointer (some ⟨g, 0, none⟩), .slice A 0 cap] w fun e w' => e = .returned (.tuple #[]) ∧ Stepped B g (.error 70) w w' := by
  obtain ⟨v, hb, hS⟩ := hps.ex
  have HB := Aside0.mk hb
  have hlt := blk_lt hb
  clear hS hb
  go_enter Tryd.func37, Tryd.ntmps37
  go_wp2_with (go_at_call 35; refine (must_no g _ _ _ _ 70 (.inl rfl) w HB.out).mono ?_; rintro e w' ⟨rfl, rfl⟩)
  refine bodyPost_ret (results_none rfl _ _ _) rfl ?_
  exact ⟨rfl, Below.setCell (Below.refl _ _) hps.base _, Oth.set_ HB.out (by decide) _ _, ⟨_, _, _, _, blk_put HB.out 3 _ rfl⟩, .inl rfl⟩

set_option maxHeartbeats 8000000 in
set_option maxRecDepth 1000000 in
theorem phi_odd (B g : Nat) (A : Option Addr) (cap : Nat) (d : ByteArray) (t : List ByteArray) (st : St) (w : World) (hps : PS B g st 0 w) (hr : RdS w A (d :: t)) (hc : t.length + 1 ≤ cap) (hl : t.length ≤ 1099511627776) (ho : t.all oneColon = false) :
    Calls Tryd.prog 37 #[.pointer (some ⟨g, 0, none⟩), .slice A (t.length + 1) cap] w fun e w' => e = .returned (.tuple #[]) ∧ Stepped B g (.error 70) w w' := by
  obtain ⟨v, hb, hS⟩ := hps.ex
  have HB := Aside0.mk hb
  have hlt := blk_lt hb
  obtain ⟨A', hsl, hrd⟩ := cut1 A d t cap hc
  have hany : t.any odd = true := by rw [any_odd, ho]; rfl
  have HCF := Lib.hid (containsFunc_calls A' (cap - 1) t w (hrd w hr).now)
  have HANY := Lib.hid hany
  have HPS := Aside0.mk hps
  clear hS hb hps hr hrd ho hany
  have hmin : min ((t.length : Int) + 1) 1 = 1 := by omega
  go_enter Tryd.func37, Tryd.ntmps37
  go_wp2_with fail
  refine HCF.out.mono ?_
  rw [HANY.out]
  rintro e w' ⟨rfl, rfl⟩
  go_wp2_with (go_at_call 35; refine (must_no g _ _ _ _ 70 (.inl rfl) w HB.out).mono ?_; rintro e w' ⟨rfl, rfl⟩)
  refine bodyPost_ret (results_none rfl _ _ _) rfl ?_
  exact ⟨rfl, Below.setCell (Below.refl _ _) HPS.out.base _, Oth.set_ HB.out (by decide) _ _, ⟨_, _, _, _, blk_put HB.out 3 _ rfl⟩, .inl rfl⟩

theorem RdS.new (w : World) (ws : List ByteArray) (hl : ws.length ≤ 9223372036854775807) : RdS (w.alloc (.cells (ws.map Value.string).toArray 9)) (some ⟨w.heap.size, 0, none⟩) ws := by
  have h1 := own_lit_of (enc := Value.string) w w.heap.size 9 ws (Nat.le_refl _) hl
  have h2 : Kd.string.R 9 (w.alloc (.cells (ws.map Value.string).toArray 9)) w.heap.size (fun _ => True) (.slice (some ⟨w.heap.size, 0, none⟩) ws.length ws.length) ws := R_of_own h1 (fun _ _ => trivial)
  exact (RdS.of_R h2).2.2
theorem R_keepG {α : Type} {dk : Kd α} {e base g : Nat} {ok : Nat → Prop} {w w' : World} {v : Value} {xs : List α} (h : dk.R e w base ok v xs) (hk : KeepG g w w') (hg : g < base) : dk.R e w' base ok v xs :=
  R_mono (R_step (R_bound h) (fun k hk' hlt => hk.block k hlt (by have := hk'.2.1; omega))) (fun _ h => h.1)
theorem ints_at {w : World} {base : Nat} {ok : Nat → Prop} {v : Value} {xs : List Int} (h : kInt.R 3 w base ok v xs) (hp : 0 < xs.length) :
    ∃ gn cn, v = .slice (some ⟨gn, 0, none⟩) xs.length cn ∧ xs.length ≤ cn ∧ (∃ cs, w.heap[gn]? = some (.cells cs 3 (0, 0))) ∧ ∀ j, j < xs.length → w.cell? ⟨gn, j, none⟩ = some (.int .i64 (xs.getD j 0)) := by
  obtain ⟨gn, cn, rfl, hb, _, hcs⟩ := R_form h hp
  refine ⟨gn, cn, rfl, (R_reads' h).2.1, hcs, fun j hj => ?_⟩
  have := (R_cell (0 : Int) h (j : Int) (by omega) (by omega)).1
  rw [Int.toNat_natCast] at this
  exact this
/-- A phi's inputs, so far. -/
def insV (t : List ByteArray) : List TIn := t.map (fun s => ⟨numV (cutA s), numV (cutB s)⟩)
def insE (d : ByteArray) (t : List ByteArray) : Int := errN 0 (d :: t.flatMap (fun s => [cutA s, cutB s]))
theorem insE_snoc (d : ByteArray) (t : List ByteArray) (s : ByteArray) : insE d (t ++ [s]) = errN (insE d t) [cutA s, cutB s] := by
  unfold insE
  rw [List.flatMap_append, ← List.cons_append]
  show errN 0 (_ ++ ([cutA s] ++ [cutB s])) = _
  rw [← List.append_assoc, errN_snoc, errN_snoc]
  obtain ⟨x, hx⟩ : ∃ x, errN 0 (d :: List.flatMap (fun s => [cutA s, cutB s]) t) = x := ⟨_, rfl⟩
  rw [hx]
  unfold errN
  by_cases h : x = 0
  · subst h; cases h1 : okV (cutA s) <;> cases h2 : okV (cutB s) <;> simp [h1, h2]
  · simp [h]
set_option maxHeartbeats 8000000 in
set_option maxRecDepth 1000000 in
theorem phi_cons (B g : Nat) (A : Option Addr) (cap : Nat) (d : ByteArray) (t : List ByteArray) (st : St) (w : World) (HG : Aside0 (∀ w', Below B w w' → LaidP w')) (hps : PS B g st 0 w) (hr : RdS w A (d :: t)) (hc : t.length + 1 ≤ cap) (hl : t.length ≤ 1099511627776) (ho : t.all oneColon = true)
    (hw : Aside0 (∀ s ∈ d :: t, s.size < 4294967281)) (hn : st.blocks ≠ []) (hm : ∀ b ∈ st.blocks, b.f0.length ≤ 1099511627776) :
    Calls Tryd.prog 37 #[.pointer (some ⟨g, 0, none⟩), .slice A (t.length + 1) cap] w fun e w' => e = .returned (.tuple #[]) ∧ Stepped B g (if phiE d t = 0 then .ok ⟨st.params, onLast (fun b => ⟨b.f0 ++ [phiV d t], b.f1, b.f2⟩) st.blocks, st.at_⟩ else .error 71) w w' := by
  obtain ⟨n, hnl⟩ : ∃ n, st.blocks.length = n + 1 := ⟨st.blocks.length - 1, by
    cases hh : st.blocks with
    | nil => exact absurd hh hn
    | cons _ _ => simp⟩
  obtain ⟨gB, capB, ok, v0, v1, v3, v4, L⟩ := hps.lend hnl
  obtain ⟨x, hx⟩ : ∃ x, st.blocks.getD n zBlock = x := ⟨_, rfl⟩
  rw [hx] at L
  have hxm : x.f0.length ≤ 1099511627776 := hm x (by rw [← hx, List.getD_eq_getElem?_getD, List.getElem?_eq_getElem (by omega)]; exact List.getElem_mem _)
  have HX := Lib.hid hx
  have HL0 := Aside0.mk L
  have HNL := Lib.hid hnl
  obtain ⟨v, hv⟩ : ∃ v, Value.slice (some ⟨gB, 0, none⟩) (n + 1) capB = v := ⟨_, rfl⟩
  have hb : w.heap[g]? = some (.cells (pcells st v 0) 57 (0, 0)) := by rw [← hv]; exact L.blk
  have HV := Lib.hid hv
  have HB := Aside0.mk hb
  have hlt := blk_lt hb
  clear hx L hnl hv
  obtain ⟨A', hsl, hrd⟩ := cut1 A d t cap hc
  have hany : t.any odd = false := by rw [any_odd, ho]; rfl
  have HCF := Lib.hid (containsFunc_calls A' (cap - 1) t w (hrd w hr).now)
  have HANY := Lib.hid hany
  have HPS := Aside0.mk hps
  have HR := Aside0.mk hr
  have HRD := Aside0.mk hrd
  obtain ⟨ad, rfl, hc0⟩ := at_string hr.now 0 (by omega) (by simp)
  have hc0 : w.cell? ad = some (.string d) := by
    have : w.cell? (ad.add 0) = some (.string d) := hc0
    rwa [show ad.add 0 = ad by simp [Addr.add]] at this
  clear hb hps hr hrd ho hany hn hm
  have hmin : min ((t.length : Int) + 1) 1 = 1 := by omega
  go_enter Tryd.func37, Tryd.ntmps37
  go_wp2_with fail
  refine HCF.out.mono ?_
  rw [HANY.out]
  rintro e w' ⟨rfl, rfl⟩
  go_wp2_with (go_at_call 35; refine (must_yes g _ _ _ _ 70 w HB.out).mono ?_; rintro e w' ⟨rfl, rfl⟩)
  have hal : Below w.heap.size w (w.alloc (.cells #[Value.string d] 9)) := (Below.refl _ _).alloc (Nat.le_refl _) _
  refine (nums_calls B g (some ⟨w.heap.size, 0, none⟩) 1 [d] _ _ _ _ 0 _ ⟨fun w' h => (HG.out w' ((hal.mono HPS.out.size).trans h)).l.t⟩ HPS.out.base (Nat.le_trans HPS.out.size hal.size) (.inl rfl) (blk_alloc HB.out _) (RdS.new w [d] (by simp)) ⟨fun s hs => by
    have := hw.out s (by rw [List.mem_singleton.1 hs]; simp)
    omega⟩ (by simp)).mono ?_
  rintro e w1 ⟨vn, rfl, hrn, hb1, hk1⟩
  obtain ⟨gn1, cn1, rfl, _, _, hcn⟩ := ints_at hrn (by simp)
  have hcn : w1.cell? ⟨gn1, 0, none⟩ = some (.int .i64 (numV d)) := hcn 0 (by simp)
  have HK1 := Aside0.mk ((KeepG.of_below hal).trans hk1)
  have HB1 := Aside0.mk hb1
  clear hrn hb1 hk1 hal
  go_wp2
  obtain ⟨w2, hw2⟩ : ∃ w2, w1.alloc (.cells #[Value.int .i64 (numV d), Value.slice none 0 0] 76) = w2 := ⟨_, rfl⟩
  obtain ⟨gx, hgx⟩ : ∃ gx, w1.heap.size = gx := ⟨_, rfl⟩
  have hx2 : w2.heap[gx]? = some (.cells #[.int .i64 (numV d), .slice none 0 0] 76 (0, 0)) := by rw [← hw2, ← hgx]; exact heap_alloc_new w1 _
  have hk2 : KeepG g w w2 := by rw [← hw2]; exact HK1.out.trans (KeepG.of_below ((Below.refl _ _).alloc (Nat.le_refl _) _))
  have hb2 : w2.heap[g]? = some (.cells (pcells st v (errN 0 [d])) 57 (0, 0)) := by rw [← hw2]; exact blk_alloc HB1.out _
  have hgx2 : w.heap.size ≤ gx := by rw [← hgx]; exact HK1.out.size
  rw [hw2, hgx]
  have HX2 := Aside0.mk hx2
  have HK2 := Aside0.mk hk2
  have HB2 := Aside0.mk hb2
  clear hw2 hgx hx2 hk2 hb2 HB1
  go_loopg [40] t.length (fun gk s40 wx => ∃ k : Nat, s40 = .int .i64 (k : Int) ∧ k + gk = t.length ∧ (∃ vI, wx.heap[gx]? = some (.cells #[.int .i64 (numV d), vI] 76 (0, 0)) ∧ kIn.R 79 wx w.heap.size (fun _ => True) vI (insV (t.take k))) ∧ wx.heap[g]? = some (.cells (pcells st v (insE d (t.take k))) 57 (0, 0)) ∧ KeepG g w wx)
  case atStart => exact ⟨0, rfl, by omega, ⟨_, HX2.out, R_nil _ _ _ _ _⟩, HB2.out, HK2.out⟩
  case round =>
    obtain ⟨k, rfl, hk, ⟨vI, hxb, hrI⟩, hgb, hkp⟩ := hrel
    have HXB := Aside0.mk hxb
    have HRI := Aside0.mk hrI
    have HGB := Aside0.mk hgb
    have HKP := Aside0.mk hkp
    by_cases hlt2 : k < t.length
    · obtain ⟨g', rfl⟩ : ∃ g', gk = g' + 1 := ⟨gk - 1, by omega⟩
      have hrt := HRD.out wr (HR.out.oth (hkp.oth HB.out (by decide)))
      obtain ⟨at', rfl, hct⟩ := at_string hrt.now (k : Int) (by omega) (by omega)
      rw [Int.toNat_natCast] at hct
      obtain ⟨s, hsk⟩ : ∃ s, rdOf ByteArray.empty t (k : Int) = s := ⟨_, rfl⟩
      have hget : t[k]? = some s := by
        rw [← hsk, List.getElem?_eq_getElem hlt2]
        simp [rdOf, List.getD_eq_getElem?_getD, List.getElem?_eq_getElem hlt2]
      rw [hsk] at hct
      have HGET := Lib.hid hget
      have hss : s.size < 4294967281 := hw.out s (List.mem_cons_of_mem _ (List.mem_of_getElem? hget))
      clear hsk hget hrt hxb hrI hgb hkp
      go_wp2_with fail
      refine (cut_calls s wr ⟨HG.out _ (HKP.out.below HPS.out.base HPS.out.size)⟩ hss).mono ?_
      rintro e w3 ⟨rfl, nd, rfl⟩
      go_wp2_with fail
      have hal : Below wr.heap.size wr ((wr.drewN nd).alloc (.cells #[Value.string (cutA s), Value.string (cutB s)] 9)) := (pw_below_drewN (Below.refl _ _) nd).alloc (Nat.le_refl _) _
      have hk4 := HKP.out.trans (KeepG.of_below hal)
      refine (nums_calls B g (some ⟨wr.heap.size, 0, none⟩) 2 [cutA s, cutB s] _ _ _ _ (insE d (t.take k)) _ ⟨fun w' h => (HG.out w' ((hk4.below HPS.out.base HPS.out.size).trans h)).l.t⟩ HPS.out.base (Nat.le_trans HPS.out.size hk4.size) (errN_is (.inl rfl) _) (blk_below HGB.out hal) (RdS.new (wr.drewN nd) [cutA s, cutB s] (by simp)) ⟨fun s' hs' => by
        have h1 := cutA_size s
        have h2 := cutB_size s
        rcases List.mem_cons.1 hs' with h3 | h3
        · rw [h3]; omega
        · rw [List.mem_singleton.1 h3]; omega⟩ (by simp)).mono ?_
      rintro e w5 ⟨vn, rfl, hrn, hb5, hk5⟩
      obtain ⟨gn, cn, rfl, _, ⟨csn, hgn⟩, hcn⟩ := ints_at hrn (by simp)
      have HGN := Aside0.mk (show w5.drew.heap[gn]? = some (.cells csn 3 (0, 0)) from hgn)
      clear hgn
      have hcn0 : w5.cell? ⟨gn, 0, none⟩ = some (.int .i64 (numV (cutA s))) := hcn 0 (by simp)
      have hcn1 : w5.cell? ⟨gn, 1, none⟩ = some (.int .i64 (numV (cutB s))) := hcn 1 (by simp)
      clear hcn
      have hgx5 : gx ≠ g := by omega
      have hx5 : w5.heap[gx]? = some (.cells #[.int .i64 (numV d), vI] 76 (0, 0)) := (hk5.block gx (by have := blk_lt (blk_below HXB.out hal); exact this) hgx5).trans (blk_below HXB.out hal)
      have hrI5 : kIn.R 79 w5 w.heap.size (fun _ => True) vI (insV (t.take k)) := R_keepG (R_below HRI.out hal) hk5 hlt
      have hk6 := hk4.trans hk5
      have HX5 := Aside0.mk hx5
      have HRI5 := Aside0.mk hrI5
      have HB5 := Aside0.mk hb5
      have HK6 := Aside0.mk hk6
      have x1 : w5.cell? ⟨gx, 1, none⟩ = some vI := by rw [Lib.cell_of_heap hx5]; rfl
      have fx : w5.frozen? ⟨gx, 1, none⟩ = false := Lib.frozen_of_heap hx5 1
      have x1a : (w5.alloc (.cells #[.int .i64 (numV (cutA s)), .int .i64 (numV (cutB s))] 79)).cell? ⟨gx, 1, none⟩ = some vI := pw_cell_below ((Below.refl _ _).alloc (Nat.le_refl _) _) x1
      have y1 : w5.drew.cell? ⟨gx, 1, none⟩ = some vI := x1
      have y2 : w5.drew.cell? ⟨gn, 0, none⟩ = some (.int .i64 (numV (cutA s))) := hcn0
      have y3 : w5.drew.cell? ⟨gn, 1, none⟩ = some (.int .i64 (numV (cutB s))) := hcn1
      have hcap : ((insV (t.take k)).length + 1) * 16 ≤ 140737488355328 := by unfold insV; rw [List.length_map, List.length_take]; omega
      have HCAP := Lib.hid hcap
      have HRD5 := Aside0.mk (R_drew hrI5)
      have HXD5 := Aside0.mk (show w5.drew.heap[gx]? = some (.cells #[.int .i64 (numV d), vI] 76 (0, 0)) from hx5)
      have hsz5 : w.heap.size ≤ w5.drew.heap.size := hk6.size
      have HSZ5 := Aside0.mk hsz5
      clear hrn hb5 hk5 hal hk4 hx5 hrI5 hk6 hcap hsz5
      go_wp2
      go_region_law (refine R_append_step kIn (w0 := w5.drew) (W := w5.drew) w.heap.size ?_ (.tmp 56) (.tmp 64) 74 79 (.agg #[.int .i64 0, .int .i64 0]) 16 ?_ (by kernel_rfl) (by kernel_rfl) rfl (by decide) (by decide) vI (insV (t.take k)) ⟨numV (cutA s), numV (cutB s)⟩ [.int .i64 (numV (cutA s)), .int .i64 (numV (cutB s))] (fun _ => True) (fun _ => False) ?_ ?_ (k79_mkM _ _ _ ⟨numV (cutA s), numV (cutB s)⟩) (fun _ h => h.elim) (fun _ _ => trivial) HRD5.out (Below.refl _ _) HSZ5.out HCAP.out ?_; rfl; rfl; rfl; rfl; intro v7 w7 hr7 hb7 hg7 hat7; obtain ⟨A7, c7, rfl⟩ := R_slice hr7; have HR7 := Aside0.mk hr7; have HG7 := Aside0.mk hg7; have hx7 := blk_grown HXD5.out hg7 (R_ne HRD5.out HXD5.out (by decide)); have x7 : w7.cell? ⟨gx, 1, none⟩ = some vI := blk_cell hx7 1; have f7 : w7.frozen? ⟨gx, 1, none⟩ = false := Lib.frozen_of_heap hx7 1; have HX7 := Aside0.mk hx7; clear hr7 hb7 hg7 hat7 hx7)
      all_goals
        go_wp2
        go_roundg g'
        case measure => omega
        case rel =>
          have hst : t.take (k + 1) = t.take k ++ [s] := by rw [List.take_add_one, HGET.out]; rfl
          have hV : insV (t.take (k + 1)) = insV (t.take k) ++ [⟨numV (cutA s), numV (cutB s)⟩] := by rw [hst]; unfold insV; rw [List.map_append]; rfl
          have hE : insE d (t.take (k + 1)) = errN (insE d (t.take k)) [cutA s, cutB s] := by rw [hst]; exact insE_snoc d _ s
          refine ⟨k + 1, by first | (simp; done) | (simp; unfold wrap64; omega), by omega, ⟨_, blk_put HX7.out 1 _ rfl, ?_⟩, ?_, ?_⟩
          · have h7 := HR7.out
            rw [List.length_append, List.length_singleton] at h7
            rw [hV]; exact R_set h7 HX7.out (by decide) 1 _
          · rw [hE]
            refine blk_far (blk_grown (w := w5.drew) HB5.out HG7.out (fun e => ?_)) (Ne.symm hgx5) _
            have := R_base HRI5.out g e.symm
            omega
          · exact (HK6.out.drew.grown HG7.out (fun k' hk' => R_base HRI5.out k' hk')).far hgx2 _ _
    · have hke : k = t.length := by omega
      subst hke
      rw [List.take_length] at hrI hgb
      obtain ⟨e1, he1⟩ : ∃ e1, insE d t = e1 := ⟨_, rfl⟩
      rw [he1] at hgb
      have L := HL0.out.keepG hkp (by rw [HV.out]; exact hgb)
      have HE1 := Lib.hid he1
      have HL := Aside0.mk L
      obtain ⟨hcs, hfs⟩ := L.cells
      have c0 : wr.cell? ⟨gB, n * 6, none⟩ = some v0 := hcs 0 _ rfl
      have f0 : wr.frozen? ⟨gB, n * 6, none⟩ = false := hfs 0
      have x0 : wr.cell? ⟨gx, 0, none⟩ = some (.int .i64 (numV d)) := blk_cell hxb 0
      have x1 : wr.cell? ⟨gx, 1, none⟩ = some vI := blk_cell hxb 1
      have HRI := Aside0.mk hrI
      have HKP := Aside0.mk hkp
      have HXB := Aside0.mk hxb
      have hnb : n + 1 ≤ 9223372036854775807 := L.max
      obtain ⟨AI, cI, rfl⟩ := R_slice hrI
      clear hrI hgb L hcs hfs he1 hxb hkp
      go_wp2
      have hlast : Aside0 (∀ W : World, W.heap[g]? = wr.heap[g]? → Calls Tryd.prog 54 #[.pointer (some ⟨g, 0, none⟩)] W fun en w' => en = .returned (.pointer (some ⟨gB, n * 6, none⟩)) ∧ ∃ k, W.drewN k = w') := ⟨fun W hW => last_calls g gB n capB _ _ _ _ W hnb (hW.trans HL.out.blk)⟩
      have hgA : Aside0 (∀ m o, ((wr.drewN m).alloc o).heap[g]? = wr.heap[g]?) := ⟨fun m o => Below.heap_alloc (wr.drewN m) o g (blk_lt HL.out.blk)⟩
      have HA1 : Aside0 (∀ m, Below wr.heap.size wr ((wr.drewN m).alloc (.cells #[.int .i64 (numV d), .slice AI (insV t).length cI] 76))) := ⟨fun m => (pw_below_drewN (Below.refl _ _) m).alloc (Nat.le_refl _) _⟩
      have HA2 : Aside0 (∀ m, ((wr.drewN m).alloc (.cells #[.int .i64 (numV d), .slice AI (insV t).length cI] 76)).heap[wr.heap.size]? = some (.cells #[.int .i64 (numV d), .slice AI (insV t).length cI] 76 (0, 0))) := ⟨fun m => heap_alloc_new (wr.drewN m) _⟩
      have hMp : kPhi.M wr B (fun k => w.heap.size ≤ k ∧ k < wr.heap.size) (phiV d t) [.int .i64 (numV d), .slice AI (insV t).length cI] := by
        have h1 := R_mono (R_bound HRI.out) (ok' := fun k => w.heap.size ≤ k ∧ k < wr.heap.size) (fun k hk => ⟨hk.2.1, hk.2.2.1⟩)
        exact k76_mkM wr B _ (phiV d t) (R_lower h1 HPS.out.size)
      have HMP := Aside0.mk hMp
      clear hMp
      have hokp : ∀ k, (w.heap.size ≤ k ∧ k < wr.heap.size) → ok k ∧ some k ≠ v0.ownBlock := fun k hk => ⟨HL0.out.fresh k hk.1, fun e => by have := R_lt HL0.out.r0 k e.symm; omega⟩
      have HOKP := Aside0.mk hokp
      have hcap : (x.f0.length + 1) * 32 ≤ 140737488355328 := by omega
      have HCAP := Lib.hid hcap
      have h63 : x.f0.length + 1 ≤ 9223372036854775807 := by omega
      have H63 := Lib.hid h63
      clear hokp hcap h63
      have c0a : (wr.alloc (.cells #[.int .i64 (numV d), .slice AI (insV t).length cI] 76)).cell? ⟨gB, n * 6, none⟩ = some v0 := pw_cell_below ((Below.refl _ _).alloc (Nat.le_refl _) _) c0
      have c0b : ∀ m, ((wr.drewN m).alloc (.cells #[.int .i64 (numV d), .slice AI (insV t).length cI] 76)).cell? ⟨gB, n * 6, none⟩ = some v0 := fun m => pw_cell_below (w := wr.drewN m) ((Below.refl _ _).alloc (Nat.le_refl _) _) c0
      have HF7 : Aside0 (∀ w7, wr.grownBy w7 v0.ownBlock → w7.cell? ⟨gB, n * 6, none⟩ = some v0 ∧ w7.frozen? ⟨gB, n * 6, none⟩ = false ∧ w7.heap[g]? = wr.heap[g]?) := ⟨fun w7 hg7 => by
        obtain ⟨q1, q2, q3⟩ := HL.out.stands hg7 (fun k hk => ⟨HL.out.r0.1 k hk, fun e => R_ne HL.out.r0 HL.out.blk (by decide) (by rw [← e]; exact hk.symm)⟩)
        exact ⟨q1 _ _ c0, q2 _, q3⟩⟩
      have HEND : Aside0 (∀ A7 n7 c7 w7, kPhi.R 76 w7 B ok (.slice A7 n7 c7) (x.f0 ++ [phiV d t]) → wr.grownBy w7 v0.ownBlock →
          Stepped B g (if phiE d t = 0 then .ok ⟨st.params, onLast (fun b => ⟨b.f0 ++ [phiV d t], b.f1, b.f2⟩) st.blocks, st.at_⟩ else .error 71) w (w7.setCell ⟨gB, n * 6, none⟩ (.slice A7 n7 c7))) := ⟨fun A7 n7 c7 w7 hr7 hg7 => by
        obtain ⟨p1, p2, p3⟩ := HL.out.afterPhi (st' := ⟨st.params, onLast (fun b => ⟨b.f0 ++ [phiV d t], b.f1, b.f2⟩) st.blocks, st.at_⟩) hg7 hr7 rfl rfl (by rw [← HX.out]; exact onLast_set (f := fun b => ⟨b.f0 ++ [phiV d t], b.f1, b.f2⟩) HNL.out)
        refine ⟨(HKP.out.below HPS.out.base HPS.out.size).trans p2, (HKP.out.oth HB.out (by decide)).trans p3, ?_⟩
        have he : phiE d t = e1 := HE1.out
        rw [he]
        by_cases h0 : e1 = 0
        · rw [if_pos h0]; subst h0; exact p1
        · rw [if_neg h0]
          obtain ⟨vv, hv, _⟩ := p1.ex
          have h71 : e1 = 71 := by
            have h1 : insE d t = e1 := HE1.out
            unfold insE errN at h1
            rw [if_pos rfl] at h1
            split at h1
            · omega
            · omega
          subst h71
          exact ⟨⟨_, _, _, _, hv⟩, .inr (.inl rfl)⟩⟩
      go_region_law (first
        | (refine R_append_far kPhi (w := wr) B ?_ (.tmp 74) (.tmp 76) 50 76 (.agg #[.int .i64 0, .slice none 0 0]) 32 ?_ (by kernel_rfl) (by kernel_rfl) rfl (by decide) v0 x.f0 (phiV d t) [.int .i64 (numV d), .slice AI (insV t).length cI] ok (fun k => w.heap.size ≤ k ∧ k < wr.heap.size) ?_ ?_ HMP.out HOKP.out (fun k hk => HL.out.fresh k (Nat.le_trans HKP.out.size hk)) HL.out.r0 ?_ ?_ HL.out.size HCAP.out H63.out ?_; rfl; rfl; rfl; rfl; (first | exact HA1.out _ | exact pw_below_drewN (HA1.out _) _ | exact below_drew (HA1.out _)); (first | exact HA2.out _ | exact blk_drewN (HA2.out _) _); intro A7 n7 c7 w7 hr7 hg7; have HR7 := Aside0.mk hr7; have HG7 := Aside0.mk hg7; obtain ⟨c7', f7', g7'⟩ := HF7.out _ hg7; have G7 := Aside0.mk g7'; clear hr7 hg7 g7')
        | (go_simp; go_at_call 54; refine (hlast.out _ (by first | rfl | exact hgA.out _ _ | exact G7.out)).mono ?_; rintro e w8 ⟨rfl, kk, rfl⟩))
      all_goals
        go_end0
        refine ⟨rfl, ?_⟩
        first | exact HEND.out _ _ _ _ HR7.out HG7.out | exact (HEND.out _ _ _ _ HR7.out HG7.out).drewN _
end Go.Proofs.YtlmkhllippobaaaDoor.Ps
end
section
/- A map that the call made: its entries laid, one looked up; no program in sight. -/
set_option linter.unusedVariables false
namespace Go.Proofs.YtlmkhllippobaaaDoor.Mp
open Go.RowKit
theorem run_mapUpdate_new {P : Program} {T K E : TypeId} (hT : P.underlying T = some (.map K E)) {kd : TypeDesc} (hK : P.underlying K = some kd) (W : World) (es : Array MapEntry) (c : Nat) (n : Value) (v : Value) (hk : MapKept.IsKey kd n)
    (h : Instr.findNow kd n es.toList 0 = some none) :
    (Instr.mapUpdate T (.map (some W.heap.size)) n v).run P (W.alloc (.map es c)) = .ok () (W.alloc (.map (es.push ⟨n, v, c⟩) (c + 1))) := by
  have hb := (MapKept.heap_alloc W (.map es c)).1
  have e : ({ W.alloc (.map es c) with heap := (W.alloc (.map es c)).heap.setIfInBounds W.heap.size (.map (es.push ⟨n, v, c⟩) (c + 1)) } : World) = W.alloc (.map (es.push ⟨n, v, c⟩) (c + 1)) := by
    show ({ W with heap := (W.heap.push _).setIfInBounds W.heap.size _ } : World) = { W with heap := W.heap.push _ }
    congr 1
    apply Array.ext_getElem?
    intro i
    simp only [Array.getElem?_setIfInBounds, Array.getElem?_push, Array.size_push]
    by_cases hi : i = W.heap.size
    · subst hi; simp
    · rw [if_neg (Ne.symm hi), if_neg hi, if_neg hi]
  simp [Instr.mapUpdate, run_underlying hT, MapKept.run_getObj_map hb, MapKept.run_checkKey hK hk, MapKept.run_findKey hK h, MapKept.run_setObj_map _ hb, Result.andThen]
  exact e
theorem run_lookup_hit {P : Program} {T K E : TypeId} (hT : P.underlying T = some (.map K E)) {kd : TypeDesc} (hK : P.underlying K = some kd) {W : World} {r : Nat} {es : Array MapEntry} {c : Nat} (hb : W.heap[r]? = some (.map es c)) (n : Value) (hk : MapKept.IsKey kd n) (i : Nat) (v : Value)
    (h : Instr.findNow kd n es.toList 0 = some (some (i, v))) (ok : Bool) :
    (Instr.lookup T (.map (some r)) n ok).run P W = .ok (if ok then .tuple #[v, .bool true] else v) W := by
  simp [Instr.lookup, run_underlying hT, MapKept.run_getObj_map hb, MapKept.run_checkKey hK hk, MapKept.run_findKey hK h, Result.andThen]
theorem run_lookup_miss {P : Program} {T K E : TypeId} (hT : P.underlying T = some (.map K E)) {kd : TypeDesc} (hK : P.underlying K = some kd) {W : World} {r : Nat} {es : Array MapEntry} {c : Nat} (hb : W.heap[r]? = some (.map es c)) (n : Value) (hk : MapKept.IsKey kd n) (v : Value)
    (hz : ∀ w, (zeroValue E).run P w = .ok v w)
    (h : Instr.findNow kd n es.toList 0 = some none) (ok : Bool) :
    (Instr.lookup T (.map (some r)) n ok).run P W = .ok (if ok then .tuple #[v, .bool false] else v) W := by
  simp [Instr.lookup, run_underlying hT, MapKept.run_getObj_map hb, MapKept.run_checkKey hK hk, MapKept.run_findKey hK h, hz, Result.andThen]
theorem wpList_insert_new {P : Program} {W : World} {ops : Array Oper} {rest : List Oper} {o : Oper} {a : Act} {Q : Exit → Act → World → Prop}
    (hg : o.guard = none) (m x v : Operand) (T : TypeId) (hop : o.op = Op.insert T m x v)
    {K E : TypeId} (hT : P.underlying T = some (.map K E)) {kd : TypeDesc} (hK : P.underlying K = some kd) (es : Array MapEntry) (c : Nat) (n : Value) (hk : MapKept.IsKey kd n) (r : Nat)
    (hm : a.eval m = .map (some r)) (hr : r = W.heap.size) (hx : a.eval x = n)
    (h : Instr.findNow kd n es.toList 0 = some none)
    (k : wpList P ops Q rest (a.put o.dst undef) (W.alloc (.map (es.push ⟨n, a.eval v, c⟩) (c + 1)))) : wpList P ops Q (o :: rest) a (W.alloc (.map es c)) := by
  subst hr
  refine wpList_plain hg fun K' hK' => ?_
  unfold Oper.wp
  simp [execOp, hop, hm, hx, run_mapUpdate_new hT hK W es c n (a.eval v) hk h, Result.andThen]
  exact hK' _ _ k
theorem wpList_insert_int {P : Program} {W : World} {ops : Array Oper} {rest : List Oper} {o : Oper} {a : Act} {Q : Exit → Act → World → Prop}
    (hg : o.guard = none) (m x v : Operand) (T : TypeId) (hop : o.op = Op.insert T m x v)
    {K E : TypeId} (hT : P.underlying T = some (.map K E)) {kd : IntKind} (hK : P.underlying K = some (.int kd)) (es : Array MapEntry) (c : Nat) (n : Int) (r : Nat)
    (hm : a.eval m = .map (some r)) (hr : r = W.heap.size) (hx : a.eval x = .int kd n)
    (h : Instr.findNow (.int kd) (.int kd n) es.toList 0 = some none)
    (k : wpList P ops Q rest (a.put o.dst undef) (W.alloc (.map (es.push ⟨.int kd n, a.eval v, c⟩) (c + 1)))) : wpList P ops Q (o :: rest) a (W.alloc (.map es c)) :=
  wpList_insert_new hg m x v T hop hT hK es c _ (by simp [MapKept.IsKey]) r hm hr hx h k
theorem wpList_insert_str {P : Program} {W : World} {ops : Array Oper} {rest : List Oper} {o : Oper} {a : Act} {Q : Exit → Act → World → Prop}
    (hg : o.guard = none) (m x v : Operand) (T : TypeId) (hop : o.op = Op.insert T m x v)
    {K E : TypeId} (hT : P.underlying T = some (.map K E)) (hK : P.underlying K = some .string) (es : Array MapEntry) (c : Nat) (n : ByteArray) (r : Nat)
    (hm : a.eval m = .map (some r)) (hr : r = W.heap.size) (hx : a.eval x = .string n)
    (h : Instr.findNow .string (.string n) es.toList 0 = some none)
    (k : wpList P ops Q rest (a.put o.dst undef) (W.alloc (.map (es.push ⟨.string n, a.eval v, c⟩) (c + 1)))) : wpList P ops Q (o :: rest) a (W.alloc (.map es c)) :=
  wpList_insert_new hg m x v T hop hT hK es c _ (by simp [MapKept.IsKey]) r hm hr hx h k
theorem wpList_lookup_of {P : Program} {W : World} {ops : Array Oper} {rest : List Oper} {o : Oper} {a : Act} {Q : Exit → Act → World → Prop}
    (hg : o.guard = none) (m x : Operand) (T : TypeId) (ok : Bool) (hop : o.op = Op.lookup T m x ok) (n : Value) (r : Nat)
    (hm : a.eval m = .map (some r)) (hx : a.eval x = n) (v : Value) (hrun : (Instr.lookup T (.map (some r)) n ok).run P W = .ok v W)
    (k : wpList P ops Q rest (a.put o.dst v) W) : wpList P ops Q (o :: rest) a W := by
  refine wpList_plain hg fun K' hK' => ?_
  unfold Oper.wp
  simp [execOp, hop, hm, hx, hrun, Result.andThen]
  exact hK' _ _ k
section
variable {P : Program} {T K E : TypeId} {W : World} {r : Nat} {es : Array MapEntry} {c : Nat}
theorem look_int_hit {kd : IntKind} (hT : P.underlying T = some (.map K E)) (hK : P.underlying K = some (.int kd)) (hb : W.heap[r]? = some (.map es c)) (n : Int) (i : Nat) (v : Value)
    (h : Instr.findNow (.int kd) (.int kd n) es.toList 0 = some (some (i, v))) : (Instr.lookup T (.map (some r)) (.int kd n) true).run P W = .ok (.tuple #[v, .bool true]) W := run_lookup_hit hT hK hb _ (by simp [MapKept.IsKey]) i v h true
theorem look_int_miss {kd : IntKind} (hT : P.underlying T = some (.map K E)) (hK : P.underlying K = some (.int kd)) (hb : W.heap[r]? = some (.map es c)) (n : Int) (v : Value) (hz : ∀ w, (zeroValue E).run P w = .ok v w)
    (h : Instr.findNow (.int kd) (.int kd n) es.toList 0 = some none) : (Instr.lookup T (.map (some r)) (.int kd n) true).run P W = .ok (.tuple #[v, .bool false]) W := run_lookup_miss hT hK hb _ (by simp [MapKept.IsKey]) v hz h true
theorem look_int_hit1 {kd : IntKind} (hT : P.underlying T = some (.map K E)) (hK : P.underlying K = some (.int kd)) (hb : W.heap[r]? = some (.map es c)) (n : Int) (i : Nat) (v : Value)
    (h : Instr.findNow (.int kd) (.int kd n) es.toList 0 = some (some (i, v))) : (Instr.lookup T (.map (some r)) (.int kd n) false).run P W = .ok v W := run_lookup_hit hT hK hb _ (by simp [MapKept.IsKey]) i v h false
theorem look_str_hit (hT : P.underlying T = some (.map K E)) (hK : P.underlying K = some .string) (hb : W.heap[r]? = some (.map es c)) (n : ByteArray) (i : Nat) (v : Value)
    (h : Instr.findNow .string (.string n) es.toList 0 = some (some (i, v))) : (Instr.lookup T (.map (some r)) (.string n) true).run P W = .ok (.tuple #[v, .bool true]) W := run_lookup_hit hT hK hb _ (by simp [MapKept.IsKey]) i v h true
theorem look_str_miss (hT : P.underlying T = some (.map K E)) (hK : P.underlying K = some .string) (hb : W.heap[r]? = some (.map es c)) (n : ByteArray) (v : Value) (hz : ∀ w, (zeroValue E).run P w = .ok v w)
    (h : Instr.findNow .string (.string n) es.toList 0 = some none) : (Instr.lookup T (.map (some r)) (.string n) true).run P W = .ok (.tuple #[v, .bool false]) W := run_lookup_miss hT hK hb _ (by simp [MapKept.IsKey]) v hz h true
end
theorem at_insert {P : Program} {ops : Array Oper} {rest : List Oper} {a : Act} {w : World} {Q : Exit → Act → World → Prop} {d T m x v t p af g}
    (h : wpList P ops Q (⟨d, .insert T m x v, t, p, af, g⟩ :: rest) a w) : wpList P ops Q (⟨d, .insert T m x v, t, p, af, g⟩ :: rest) a w := h
theorem at_lookup_ {P : Program} {ops : Array Oper} {rest : List Oper} {a : Act} {w : World} {Q : Exit → Act → World → Prop} {d T m x ok t p af g}
    (h : wpList P ops Q (⟨d, .lookup T m x ok, t, p, af, g⟩ :: rest) a w) : wpList P ops Q (⟨d, .lookup T m x ok, t, p, af, g⟩ :: rest) a w := h
theorem find_int_miss {kd : IntKind} {n : Int} : ∀ (es : List MapEntry) (i : Nat), (∀ e ∈ es, ∃ m, e.key = .int kd m ∧ n ≠ m) → Instr.findNow (.int kd) (.int kd n) es i = some none
  | [], _, _ => rfl
  | e :: es, i, h => by
    obtain ⟨m, hm, hne⟩ := h e (by simp)
    have h1 : Instr.sameNow (.int kd) (.int kd n) e.key = some false := by rw [hm]; simp [Instr.sameNow, hne]
    simp only [Instr.findNow, h1]
    exact find_int_miss es (i + 1) (fun e' he' => h e' (by simp [he']))
theorem ba_beq {n m : ByteArray} (h : n ≠ m) : (n == m) = false := by
  cases n with
  | mk a =>
    cases m with
    | mk b =>
      show (a == b) = false
      exact beq_false_of_ne (fun e => h (by rw [e]))
theorem find_str_miss {n : ByteArray} : ∀ (es : List MapEntry) (i : Nat), (∀ e ∈ es, ∃ m, e.key = .string m ∧ n ≠ m) → Instr.findNow .string (.string n) es i = some none
  | [], _, _ => rfl
  | e :: es, i, h => by
    obtain ⟨m, hm, hne⟩ := h e (by simp)
    have h1 : Instr.sameNow .string (.string n) e.key = some false := by rw [hm]; show some (n == m) = some false; rw [ba_beq hne]
    simp only [Instr.findNow, h1]
    exact find_str_miss es (i + 1) (fun e' he' => h e' (by simp [he']))
end Go.Proofs.YtlmkhllippobaaaDoor.Mp
end
section
/- text.parser.ins, walked. -/
set_option linter.unusedVariables false
set_option linter.unusedSimpArgs false
namespace Go.Proofs.YtlmkhllippobaaaDoor.Ps
open Go.RowKit Go.Proofs.YtlmkhllippobaaaDoorW.PrintWords Go.Proofs.YtlmkhllippobaaaDoorW.PrintWords.Kd Go.Proofs.YtlmkhllippobaaaDoorW.PrintMore Go.Proofs.YtlmkhllippobaaaDoorW.PrintMore.Kd Go.Proofs.YtlmkhllippobaaaDoor.Wl Go.Proofs.YtlmkhllippobaaaDoor.Tx Go.Proofs.YtlmkhllippobaaaDoor.Kd Go.Proofs.YtlmkhllippobaaaDoor.Kp Go.Proofs.YtlmkhllippobaaaDoor.Mp
attribute [local go_sem ↓] Go.wp_at_zero Go.wp_at_succ

theorem info_int : ∃ i, Tryd.prog.info? 3 = some i ∧ i.size = 1 := by
  obtain ⟨i, hi, h⟩ := Option.map_eq_some_iff.1 (show (Tryd.prog.info? 3).map (fun i => i.size) = some 1 by kernel_rfl)
  exact ⟨i, hi, h⟩
theorem under_ints : Tryd.prog.underlying 33 = some (.slice 3) := by kernel_rfl
set_option maxHeartbeats 1000000 in
set_option maxRecDepth 100000 in
theorem clip_calls (A : Option Addr) (n c : Nat) (hn : n ≤ c) (w : World) :
    Calls Tryd.prog 55 #[.slice A n c] w fun e w' => e = .returned (.slice A n n) ∧ w = w' := by
  go_enter Tryd.func55, Tryd.ntmps55
  go_wp2
  go_ret
  exact ⟨rfl, rfl⟩
theorem under_cm : Tryd.prog.underlying 115 = some (.map 3 114) := by kernel_rfl
theorem under_i : Tryd.prog.underlying 3 = some (.int .i64) := by kernel_rfl
theorem zero_ii (w : World) : (zeroValue 114).run Tryd.prog w = .ok (.agg #[.int .i64 0, .int .i64 0]) w := by kernel_rfl
theorem numsV_range (ws : List ByteArray) (j : Nat) : -2147483648 ≤ (ws.map numV).getD j 0 ∧ (ws.map numV).getD j 0 ≤ 2147483647 := by
  rw [List.getD_eq_getElem?_getD, List.getElem?_map]
  cases ws[j]? with
  | none => exact ⟨by decide, by decide⟩
  | some s => exact numV_range s

theorem cut_mid (A : Option Addr) (n c : Nat) (i j : Int) (h0 : 0 ≤ i) (h1 : i ≤ j) (hm : j ≤ c) :
    ∀ W : World, (Instr.slice 33 (.slice A n c) (some (.int .i64 i)) (some (.int .i64 j)) none).run Tryd.prog W = .ok (.slice (if c = i.toNat then A else A.map (·.add (i.toNat * 1))) (j.toNat - i.toNat) (c - i.toNat)) W := by
  intro W
  obtain ⟨i0, hi0, hz0⟩ := info_int
  have hel : Tryd.prog.elem 33 = 3 := by simp [Program.elem, under_ints]
  have hu : Tryd.prog.underlying 33 = some (.slice (Tryd.prog.elem 33)) := by rw [hel]; exact under_ints
  rw [run_slice_lh W 33 A n c hu .i64 .i64 i j h0 h1 hm, hel]
  simp [sizeOf, typeInfo, hi0, hz0, sliced, Result.andThen]
theorem out_of_err {B g : Nat} {st : St} {e : Int} {w : World} (h : PS B g st e w) (he : e = 0 ∨ e = 71) : Out B g (if e = 0 then .ok st else .error 71) w := by
  rcases he with rfl | rfl
  · rw [if_pos rfl]; exact h
  · rw [if_neg (by decide)]
    obtain ⟨v, hv, _⟩ := h.ex
    exact ⟨⟨_, _, _, _, hv⟩, .inr (.inl rfl)⟩
end Go.Proofs.YtlmkhllippobaaaDoor.Ps
end
section
/- text.parser.ins, walked: Const. -/
set_option linter.unusedVariables false
set_option linter.unusedSimpArgs false
namespace Go.Proofs.YtlmkhllippobaaaDoor.Ps
open Go.RowKit Go.Proofs.YtlmkhllippobaaaDoorW.PrintWords Go.Proofs.YtlmkhllippobaaaDoorW.PrintWords.Kd Go.Proofs.YtlmkhllippobaaaDoorW.PrintMore Go.Proofs.YtlmkhllippobaaaDoorW.PrintMore.Kd Go.Proofs.YtlmkhllippobaaaDoor.Wl Go.Proofs.YtlmkhllippobaaaDoor.Tx Go.Proofs.YtlmkhllippobaaaDoor.Kd Go.Proofs.YtlmkhllippobaaaDoor.Kp Go.Proofs.YtlmkhllippobaaaDoor.Mp
attribute [local go_sem ↓] Go.wp_at_zero Go.wp_at_succ

set_option maxHeartbeats 8000000 in
set_option maxRecDepth 1000000 in
theorem insConstFew (B g : Nat) (A : Option Addr) (cap n : Nat) (st : St) (w : World) (hps : PS B g st 0 w) (hn : n ≤ 1099511627776) (h : n < 2) :
    Calls Tryd.prog 38 #[.pointer (some ⟨g, 0, none⟩), .int .i64 1, .slice A n cap] w fun e w' => e = .returned (.tuple #[]) ∧ Stepped B g (.error 70) w w' := by
  obtain ⟨v, hb, _⟩ := hps.ex
  have HB := Aside0.mk hb
  have HPS := Aside0.mk hps
  have h1 : ¬ (2 : Int) ≤ (n : Int) := by omega
  have h1b : (n : Int) < 2 := by omega
  clear hps hb h
  have hmm := fun (w : World) => run_makeMap (P := Tryd.prog) 115 w
  go_enter Tryd.func38, Tryd.ntmps38
  go_wp2_with (first
    | ((with_reducible refine at_insert ?_); refine wpList_insert_int rfl _ _ _ 115 rfl under_cm under_i _ _ _ _ rfl (by rfl) rfl rfl ?_)
    | ((with_reducible refine at_lookup_ ?_); refine wpList_lookup_of rfl _ _ 115 true rfl (.int .i64 1) w.heap.size rfl rfl _ (look_int_hit under_cm under_i (heap_alloc_new w _) 1 0 _ rfl) ?_))
  obtain ⟨W1, hW1⟩ : ∃ W1, (w.alloc (.map #[⟨.int .i64 1, .agg #[.int .i64 2, .int .i64 2], 0⟩, ⟨.int .i64 17, .agg #[.int .i64 2, .int .i64 6], 1⟩, ⟨.int .i64 18, .agg #[.int .i64 4, .int .i64 4], 2⟩] 3)).alloc (.cells #[.int .i64 2, .int .i64 2] 114) = W1 := ⟨_, rfl⟩
  have hbel : Below w.heap.size w W1 := by rw [← hW1]; exact ((Below.refl _ _).alloc (Nat.le_refl _) _).alloc (by simp) _
  rw [hW1]
  clear hW1
  have HBEL := Aside0.mk hbel
  have HB1 := Aside0.mk (blk_below HB.out hbel)
  clear hbel
  refine (must_no g _ _ _ _ 70 (.inl rfl) W1 HB1.out).mono ?_
  rintro e w' ⟨rfl, rfl⟩
  go_wp2
  refine bodyPost_ret (results_none rfl _ _ _) rfl ?_
  exact ⟨rfl, (HBEL.out.mono HPS.out.size).setCell (p := ⟨g, 3, none⟩) HPS.out.base _, (Oth.below HBEL.out).trans (Oth.set_ HB1.out (by decide) _ _), ⟨_, _, _, _, blk_put HB1.out 3 _ rfl⟩, .inl rfl⟩

set_option maxHeartbeats 8000000 in
set_option maxRecDepth 1000000 in
theorem insConstMany (B g : Nat) (A : Option Addr) (cap n : Nat) (st : St) (w : World) (hps : PS B g st 0 w) (hn : n ≤ 1099511627776) (h : 2 < n) :
    Calls Tryd.prog 38 #[.pointer (some ⟨g, 0, none⟩), .int .i64 1, .slice A n cap] w fun e w' => e = .returned (.tuple #[]) ∧ Stepped B g (.error 70) w w' := by
  obtain ⟨v, hb, _⟩ := hps.ex
  have HB := Aside0.mk hb
  have HPS := Aside0.mk hps
  have h1 : (2 : Int) ≤ (n : Int) := by omega
  have h2 : ¬ (n : Int) ≤ 2 := by omega
  have h2b : (2 : Int) < (n : Int) := by omega
  clear hps hb h
  have hmm := fun (w : World) => run_makeMap (P := Tryd.prog) 115 w
  go_enter Tryd.func38, Tryd.ntmps38
  go_wp2_with (first
    | ((with_reducible refine at_insert ?_); refine wpList_insert_int rfl _ _ _ 115 rfl under_cm under_i _ _ _ _ rfl (by rfl) rfl rfl ?_)
    | ((with_reducible refine at_lookup_ ?_); refine wpList_lookup_of rfl _ _ 115 true rfl (.int .i64 1) w.heap.size rfl rfl _ (look_int_hit under_cm under_i (heap_alloc_new w _) 1 0 _ rfl) ?_))
  obtain ⟨W1, hW1⟩ : ∃ W1, (w.alloc (.map #[⟨.int .i64 1, .agg #[.int .i64 2, .int .i64 2], 0⟩, ⟨.int .i64 17, .agg #[.int .i64 2, .int .i64 6], 1⟩, ⟨.int .i64 18, .agg #[.int .i64 4, .int .i64 4], 2⟩] 3)).alloc (.cells #[.int .i64 2, .int .i64 2] 114) = W1 := ⟨_, rfl⟩
  have hbel : Below w.heap.size w W1 := by rw [← hW1]; exact ((Below.refl _ _).alloc (Nat.le_refl _) _).alloc (by simp) _
  rw [hW1]
  clear hW1
  have HBEL := Aside0.mk hbel
  have HB1 := Aside0.mk (blk_below HB.out hbel)
  clear hbel
  refine (must_no g _ _ _ _ 70 (.inl rfl) W1 HB1.out).mono ?_
  rintro e w' ⟨rfl, rfl⟩
  go_wp2
  refine bodyPost_ret (results_none rfl _ _ _) rfl ?_
  exact ⟨rfl, (HBEL.out.mono HPS.out.size).setCell (p := ⟨g, 3, none⟩) HPS.out.base _, (Oth.below HBEL.out).trans (Oth.set_ HB1.out (by decide) _ _), ⟨_, _, _, _, blk_put HB1.out 3 _ rfl⟩, .inl rfl⟩

set_option maxHeartbeats 16000000 in
set_option maxRecDepth 1000000 in
theorem insConst (B g : Nat) (A : Option Addr) (cap : Nat) (ws : List ByteArray) (st : St) (w : World) (HG : Aside0 (∀ w', Below B w w' → LaidP w')) (hps : PS B g st 0 w) (hr : RdS w A ws)
    (hw : Aside0 (∀ s ∈ ws, s.size < 4294967281)) (hn : st.blocks ≠ []) (hm : ∀ b ∈ st.blocks, b.f1.length ≤ 1099511627776) (hla : 2 ≤ ws.length) (hlb : ws.length ≤ 2) :
    Calls Tryd.prog 38 #[.pointer (some ⟨g, 0, none⟩), .int .i64 1, .slice A ws.length cap] w fun e w' => e = .returned (.tuple #[]) ∧ Stepped B g (if errN 0 ws = 0 then .ok ⟨st.params, onLast (fun b => ⟨b.f0, b.f1 ++ [mkIns 1 (ws.map numV)], b.f2⟩) st.blocks, st.at_⟩ else .error 71) w w' := by
  obtain ⟨n, hnl⟩ : ∃ n, st.blocks.length = n + 1 := ⟨st.blocks.length - 1, by
    cases hh : st.blocks with
    | nil => exact absurd hh hn
    | cons _ _ => simp⟩
  obtain ⟨gB, capB, ok, v0, v1, v3, v4, L⟩ := hps.lend hnl
  obtain ⟨x, hx⟩ : ∃ x, st.blocks.getD n zBlock = x := ⟨_, rfl⟩
  rw [hx] at L
  have hxm : x.f1.length ≤ 1099511627776 := hm x (by rw [← hx, List.getD_eq_getElem?_getD, List.getElem?_eq_getElem (by omega)]; exact List.getElem_mem _)
  have HX := Lib.hid hx
  have HL0 := Aside0.mk L
  have HNL := Lib.hid hnl
  obtain ⟨v, hv⟩ : ∃ v, Value.slice (some ⟨gB, 0, none⟩) (n + 1) capB = v := ⟨_, rfl⟩
  have hb : w.heap[g]? = some (.cells (pcells st v 0) 57 (0, 0)) := by rw [← hv]; exact L.blk
  have HV := Lib.hid hv
  have HB := Aside0.mk hb
  have hlt := blk_lt hb
  have HPS := Aside0.mk hps
  have HR := Aside0.mk hr
  have hl1 : (2 : Int) ≤ (ws.length : Int) := by omega
  have hl2 : (ws.length : Int) ≤ 2 := by omega
  have hl3 : (ws.length : Int) = 2 := by omega
  clear hx L hnl hv hb hps hr hn hm
  have hmm := fun (w : World) => run_makeMap (P := Tryd.prog) 115 w
  go_enter Tryd.func38, Tryd.ntmps38
  go_wp2_with (first
    | ((with_reducible refine at_insert ?_); refine wpList_insert_int rfl _ _ _ 115 rfl under_cm under_i _ _ _ _ rfl (by rfl) rfl rfl ?_)
    | ((with_reducible refine at_lookup_ ?_); refine wpList_lookup_of rfl _ _ 115 true rfl (.int .i64 1) w.heap.size rfl rfl _ (look_int_hit under_cm under_i (heap_alloc_new w _) 1 0 _ rfl) ?_))
  obtain ⟨W1, hW1⟩ : ∃ W1, (w.alloc (.map #[⟨.int .i64 1, .agg #[.int .i64 2, .int .i64 2], 0⟩, ⟨.int .i64 17, .agg #[.int .i64 2, .int .i64 6], 1⟩, ⟨.int .i64 18, .agg #[.int .i64 4, .int .i64 4], 2⟩] 3)).alloc (.cells #[.int .i64 2, .int .i64 2] 114) = W1 := ⟨_, rfl⟩
  have hbel : Below w.heap.size w W1 := by rw [← hW1]; exact ((Below.refl _ _).alloc (Nat.le_refl _) _).alloc (by simp) _
  rw [hW1]
  clear hW1
  have HBEL := Aside0.mk hbel
  have HB1 := Aside0.mk (blk_below HB.out hbel)
  clear hbel
  refine (must_yes g _ _ _ _ 70 W1 HB1.out).mono ?_
  rintro e w' ⟨rfl, rfl⟩
  go_wp2_with fail
  have hk1 := KeepG.of_below (g := g) HBEL.out
  refine (nums_calls B g A cap ws _ _ _ _ 0 W1 ⟨fun w' h => (HG.out w' ((hk1.below HPS.out.base HPS.out.size).trans h)).l.t⟩ HPS.out.base (Nat.le_trans HPS.out.size hk1.size) (.inl rfl) HB1.out (HR.out.below HBEL.out) ⟨fun s hs => by
    have := hw.out s hs
    omega⟩ (by omega)).mono ?_
  rintro e w5 ⟨vn, rfl, hrn, hb5, hk5⟩
  obtain ⟨gn, cn, rfl, hcn, hgn, hcells⟩ := ints_at hrn (by rw [List.length_map]; omega)
  rw [List.length_map] at hcn hcells
  have hnr : ∀ j, -2147483648 ≤ (ws.map numV).getD j 0 ∧ (ws.map numV).getD j 0 ≤ 2147483647 := numsV_range ws
  obtain ⟨n0, hn0⟩ : ∃ n0, (ws.map numV).getD 0 0 = n0 := ⟨_, rfl⟩
  have hr0 := hnr 0
  rw [hn0] at hr0
  obtain ⟨hr0a, hr0b⟩ := hr0
  have q0 : w5.cell? ⟨gn, 0, none⟩ = some (.int .i64 n0) := by rw [← hn0]; exact hcells 0 (by omega)
  have q0b : ∀ o, (w5.alloc o).cell? ⟨gn, 0, none⟩ = some (.int .i64 n0) := fun o => pw_cell_below ((Below.refl _ _).alloc (Nat.le_refl _) _) q0
  have HN0 := Lib.hid hn0
  clear hn0
  obtain ⟨n1, hn1⟩ : ∃ n1, (ws.map numV).getD 1 0 = n1 := ⟨_, rfl⟩
  have hr1 := hnr 1
  rw [hn1] at hr1
  obtain ⟨hr1a, hr1b⟩ := hr1
  have q1 : w5.cell? ⟨gn, 1, none⟩ = some (.int .i64 n1) := by rw [← hn1]; exact hcells 1 (by omega)
  have q1b : ∀ o, (w5.alloc o).cell? ⟨gn, 1, none⟩ = some (.int .i64 n1) := fun o => pw_cell_below ((Below.refl _ _).alloc (Nat.le_refl _) _) q1
  have HN1 := Lib.hid hn1
  clear hn1
  have hargs : rI.M w5 B (fun k => w.heap.size ≤ k ∧ k < w5.heap.size) ([] : List Int) [.slice none 0 0] := ro_nil
  have hk6 := hk1.trans hk5
  have HK5 := Aside0.mk hk6
  have HARGS := Aside0.mk hargs
  have HE1 : Hid (errN 0 ws = errN 0 ws) := Lib.hid rfl
  obtain ⟨e1, he1⟩ : ∃ e1, errN 0 ws = e1 := ⟨_, rfl⟩
  rw [he1] at hb5
  have HB5 := Aside0.mk hb5
  have HE := Lib.hid he1
  clear hk1 hk5 hk6 hb5 hrn hcells hgn hargs he1 hnr
  rw [List.length_map]
  go_wp2

  obtain ⟨wr, hwr⟩ : ∃ wr, w5.alloc (.cells #[.int .i64 1, .int .i64 n0, .int .i64 0, .slice none 0 0, .int .i32 n1] 46) = wr := ⟨_, rfl⟩
  obtain ⟨gi, hgi⟩ : ∃ gi, w5.heap.size = gi := ⟨_, rfl⟩
  have hbel6 : Below w5.heap.size w5 wr := by rw [← hwr]; exact (Below.refl _ _).alloc (Nat.le_refl _) _
  have hxb : wr.heap[gi]? = some (.cells #[.int .i64 1, .int .i64 n0, .int .i64 0, .slice none 0 0, .int .i32 n1] 46 (0, 0)) := by rw [← hwr, ← hgi]; exact heap_alloc_new w5 _
  rw [hwr, hgi]
  clear hwr hgi
  have hkp : KeepG g w wr := HK5.out.trans (KeepG.of_below hbel6)
  have L := HL0.out.keepG hkp (by rw [HV.out]; exact blk_below HB5.out hbel6)
  have hargs : rI.M wr B (fun k => w.heap.size ≤ k ∧ k < wr.heap.size) ([] : List Int) [.slice none 0 0] := rI.M_mono (fun k hk => ⟨hk.1, Nat.lt_of_lt_of_le hk.2 hbel6.size⟩) (M_below HARGS.out hbel6)
  have hMp : kIns.M wr B (fun k => w.heap.size ≤ k ∧ k < wr.heap.size) ⟨1, n0, 0, [], n1⟩ [.int .i64 1, .int .i64 n0, .int .i64 0, .slice none 0 0, .int .i32 n1] := kInsP_mkM wr B _ ⟨1, n0, 0, [], n1⟩ hargs
  have hmk : mkIns 1 (ws.map numV) = ⟨1, n0, 0, [], n1⟩ := by
    unfold mkIns
    rw [if_pos rfl, HN0.out, HN1.out]
  have HMK := Lib.hid hmk
  have HMP := Aside0.mk hMp
  have HL := Aside0.mk L
  obtain ⟨hcs, hfs⟩ := L.cells
  have c0 : wr.cell? ⟨gB, n * 6 + 1, none⟩ = some v1 := hcs 1 _ rfl
  have f0 : wr.frozen? ⟨gB, n * 6 + 1, none⟩ = false := hfs 1
  have x0 : wr.cell? ⟨gi, 0, none⟩ = some (.int .i64 1) := blk_cell hxb 0
  have x1 : wr.cell? ⟨gi, 1, none⟩ = some (.int .i64 n0) := blk_cell hxb 1
  have x2 : wr.cell? ⟨gi, 2, none⟩ = some (.int .i64 0) := blk_cell hxb 2
  have x3 : wr.cell? ⟨gi, 3, none⟩ = some (.slice none 0 0) := blk_cell hxb 3
  have x4 : wr.cell? ⟨gi, 4, none⟩ = some (.int .i32 n1) := blk_cell hxb 4
  have HKP := Aside0.mk hkp
  have hnb : n + 1 ≤ 9223372036854775807 := L.max
  clear L hcs hfs hxb hkp hargs hMp hmk
  have hlast : Aside0 (∀ W : World, W.heap[g]? = wr.heap[g]? → Calls Tryd.prog 54 #[.pointer (some ⟨g, 0, none⟩)] W fun en w' => en = .returned (.pointer (some ⟨gB, n * 6, none⟩)) ∧ ∃ k, W.drewN k = w') := ⟨fun W hW => last_calls g gB n capB _ _ _ _ W hnb (hW.trans HL.out.blk)⟩
  have hgA : Aside0 (∀ m o, ((wr.drewN m).alloc o).heap[g]? = wr.heap[g]?) := ⟨fun m o => Below.heap_alloc (wr.drewN m) o g (blk_lt HL.out.blk)⟩
  have HA1 : Aside0 (∀ m, Below wr.heap.size wr ((wr.drewN m).alloc (.cells #[.int .i64 1, .int .i64 n0, .int .i64 0, .slice none 0 0, .int .i32 n1] 46))) := ⟨fun m => (pw_below_drewN (Below.refl _ _) m).alloc (Nat.le_refl _) _⟩
  have HA2 : Aside0 (∀ m, ((wr.drewN m).alloc (.cells #[.int .i64 1, .int .i64 n0, .int .i64 0, .slice none 0 0, .int .i32 n1] 46)).heap[wr.heap.size]? = some (.cells #[.int .i64 1, .int .i64 n0, .int .i64 0, .slice none 0 0, .int .i32 n1] 46 (0, 0))) := ⟨fun m => heap_alloc_new (wr.drewN m) _⟩
  have hokp : ∀ k, (w.heap.size ≤ k ∧ k < wr.heap.size) → ok k ∧ some k ≠ v1.ownBlock := fun k hk => ⟨HL0.out.fresh k hk.1, fun e => by have := R_lt HL0.out.r1 k e.symm; omega⟩
  have HOKP := Aside0.mk hokp
  have hcap : (x.f1.length + 1) * 56 ≤ 140737488355328 := by omega
  have HCAP := Lib.hid hcap
  have h63 : x.f1.length + 1 ≤ 9223372036854775807 := by omega
  have H63 := Lib.hid h63
  clear hokp hcap h63
  have c0a : (wr.alloc (.cells #[.int .i64 1, .int .i64 n0, .int .i64 0, .slice none 0 0, .int .i32 n1] 46)).cell? ⟨gB, n * 6 + 1, none⟩ = some v1 := pw_cell_below ((Below.refl _ _).alloc (Nat.le_refl _) _) c0
  have c0b : ∀ m, ((wr.drewN m).alloc (.cells #[.int .i64 1, .int .i64 n0, .int .i64 0, .slice none 0 0, .int .i32 n1] 46)).cell? ⟨gB, n * 6 + 1, none⟩ = some v1 := fun m => pw_cell_below (w := wr.drewN m) ((Below.refl _ _).alloc (Nat.le_refl _) _) c0
  have HF7 : Aside0 (∀ w7, wr.grownBy w7 v1.ownBlock → w7.cell? ⟨gB, n * 6 + 1, none⟩ = some v1 ∧ w7.frozen? ⟨gB, n * 6 + 1, none⟩ = false ∧ w7.heap[g]? = wr.heap[g]?) := ⟨fun w7 hg7 => by
    obtain ⟨q1, q2, q3⟩ := HL.out.stands hg7 (fun k hk => ⟨HL.out.r1.1 k hk, fun e => R_ne HL.out.r1 HL.out.blk (by decide) (by rw [← e]; exact hk.symm)⟩)
    exact ⟨q1 _ _ c0, q2 _, q3⟩⟩
  have HEND : Aside0 (∀ A7 n7 c7 w7, kIns.R 46 w7 B ok (.slice A7 n7 c7) (x.f1 ++ [⟨1, n0, 0, [], n1⟩]) → wr.grownBy w7 v1.ownBlock →
      Stepped B g (if errN 0 ws = 0 then .ok ⟨st.params, onLast (fun b => ⟨b.f0, b.f1 ++ [mkIns 1 (ws.map numV)], b.f2⟩) st.blocks, st.at_⟩ else .error 71) w (w7.setCell ⟨gB, n * 6 + 1, none⟩ (.slice A7 n7 c7))) := ⟨fun A7 n7 c7 w7 hr7 hg7 => by
    rw [HMK.out]
    obtain ⟨p1, p2, p3⟩ := HL.out.afterIns (st' := ⟨st.params, onLast (fun b => ⟨b.f0, b.f1 ++ [⟨1, n0, 0, [], n1⟩], b.f2⟩) st.blocks, st.at_⟩) hg7 hr7 rfl rfl (by rw [← HX.out]; exact onLast_set (f := fun b => ⟨b.f0, b.f1 ++ [⟨1, n0, 0, [], n1⟩], b.f2⟩) HNL.out)
    refine ⟨(HKP.out.below HPS.out.base HPS.out.size).trans p2, (HKP.out.oth HB.out (by decide)).trans p3, ?_⟩
    rw [HE.out]
    exact out_of_err p1 (by have := HE.out; unfold errN at this; rw [if_pos rfl] at this; split at this <;> omega)⟩
  go_region_law (first
    | (refine R_append_far kIns (w := wr) B ?_ (.tmp 109) (.tmp 111) 47 46 (.agg #[.int .i64 0, .int .i64 0, .int .i64 0, .slice none 0 0, .int .i32 0]) 56 ?_ (by kernel_rfl) (by kernel_rfl) rfl (by decide) v1 x.f1 ⟨1, n0, 0, [], n1⟩ [.int .i64 1, .int .i64 n0, .int .i64 0, .slice none 0 0, .int .i32 n1] ok (fun k => w.heap.size ≤ k ∧ k < wr.heap.size) ?_ ?_ HMP.out HOKP.out (fun k hk => HL.out.fresh k (Nat.le_trans HKP.out.size hk)) HL.out.r1 ?_ ?_ HL.out.size HCAP.out H63.out ?_; rfl; rfl; rfl; rfl; (first | exact HA1.out _ | exact pw_below_drewN (HA1.out _) _ | exact below_drew (HA1.out _)); (first | exact HA2.out _ | exact blk_drewN (HA2.out _) _); intro A7 n7 c7 w7 hr7 hg7; have HR7 := Aside0.mk hr7; have HG7 := Aside0.mk hg7; obtain ⟨c7', f7', g7'⟩ := HF7.out _ hg7; have G7 := Aside0.mk g7'; clear hr7 hg7 g7')
    | (go_simp; go_at_call 54; refine (hlast.out _ (by first | rfl | exact hgA.out _ _ | exact G7.out)).mono ?_; rintro e w8 ⟨rfl, kk, rfl⟩))
  all_goals
    go_end0
    refine ⟨rfl, ?_⟩
    first | exact HEND.out _ _ _ _ HR7.out HG7.out | exact (HEND.out _ _ _ _ HR7.out HG7.out).drewN _

end Go.Proofs.YtlmkhllippobaaaDoor.Ps
end
