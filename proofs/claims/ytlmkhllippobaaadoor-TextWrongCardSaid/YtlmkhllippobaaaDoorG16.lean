/- Parts of the proof, one behind the other: EachLine, Par, ShownP, Prx0. -/
import Derived.Test.YtlmkhllippobaaaDoorG07
import Derived.Test.YtlmkhllippobaaaDoorG15
import Derived.Test.YtlmkhllippobaaaDoorG05
import Derived.Test.YtlmkhllippobaaaDoorProg
import Derived.Below
import Derived.Deep.Draws
import Derived.Deep.AppendLies
import Derived.Maps.AppendAt
import Derived.OwnWalk
import Derived.Laws.BytesArg
import Derived.Laws.MakeOwn
import Derived.Laws.OwnMore
import Derived.Deep.OwnRows
import Derived.Tactics
import Derived.Lib.ConvBytes
import Derived.Laws.Slices
import Derived.WalkKit
import Derived.KernelRfl
import Derived.RowKit3
import Derived.Deep.LoopGhost
import Derived.Deep.QuietTactic
import Derived.BigQuiet
import Derived.WideLaws
import Derived.Deep.DeepCutAuto
import Derived.Deep.CutBlock
import Derived.Deep.RegionHeld3
import Derived.Laws.Rows
import Derived.Lib.AppendStr
import Derived.ArgAppend
import Derived.Laws.IdiomCopy
import Derived.OrdersHeld
import Derived.Laws.BitsLemmas
import Derived.RowKit
import Derived.Test.YtlmkhllippobaaaDoorG02
import Derived.Test.YtlmkhllippobaaaDoorG01
section
/- text.parser.each, walked: what it is given is Line. -/
set_option linter.unusedVariables false
set_option linter.unusedSimpArgs false
namespace Go.Proofs.YtlmkhllippobaaaDoor.Ps
open Go.RowKit Go.Proofs.YtlmkhllippobaaaDoorW.PrintWords Go.Proofs.YtlmkhllippobaaaDoorW.PrintWords.Kd Go.Proofs.YtlmkhllippobaaaDoorW.PrintMore Go.Proofs.YtlmkhllippobaaaDoorW.PrintMore.Kd Go.Proofs.YtlmkhllippobaaaDoor.Wl Go.Proofs.YtlmkhllippobaaaDoor.Tx Go.Proofs.YtlmkhllippobaaaDoor.Kd Go.Proofs.YtlmkhllippobaaaDoor.Kp Go.Proofs.YtlmkhllippobaaaDoor.TxW
attribute [local go_sem ↓] Go.wp_at_zero Go.wp_at_succ

set_option maxHeartbeats 1000000 in
set_option maxRecDepth 100000 in
theorem blankLine (x : Nat) (W : World) :
    Calls Tryd.prog 29 #[.int .i32 x] W fun e w' => e = .returned (.bool (blankR x)) ∧ w' = W := by
  have hb : blankR x = (decide (x = 32) || decide (x = 9)) := by
    unfold blankR
    by_cases h1 : x = 32 <;> by_cases h2 : x = 9 <;> simp [h1, h2]
  by_cases h1 : x = 32
  · subst h1
    go_enter Tryd.func29, Tryd.ntmps29
    go_wp2
    go_ret
    exact ⟨rfl, rfl⟩
  by_cases h2 : x = 9
  · subst h2
    go_enter Tryd.func29, Tryd.ntmps29
    go_wp2
    go_ret
    exact ⟨rfl, rfl⟩
  have h3 : ((x : Int) == 32) = false := by simp; omega
  have h4 : ((x : Int) == 9) = false := by simp; omega
  have hf : blankR x = false := by rw [hb]; simp [h1, h2]
  rw [hf]
  clear hf hb h1 h2
  go_enter Tryd.func29, Tryd.ntmps29
  go_wp2
  go_ret
  exact ⟨rfl, rfl⟩
theorem entersLine : ∀ (args : Array Value) (w : World), (callFunc 29 args).run Tryd.prog w = .ok (.enter 29 args) w :=
  enters_of Tryd.func29 (by kernel_rfl) rfl
theorem fieldsLine (s : ByteArray) (w : World) (hs : s.size ≤ 4294967296) :
    Calls Tryd.prog 28 #[.string s, .func (.func 29) #[] #[]] w fun e w' => ∃ A, e = .returned (.slice (some ⟨A, 0, none⟩) (wordsS s).length (wordsS s).length) ∧ RdS w' (some ⟨A, 0, none⟩) (wordsS s) ∧ Below w.heap.size w w' := by
  refine (Tryd.strings_FieldsFunc_runes 29 #[] entersLine blankR s w hs ?_).mono ?_
  · intro W x hx hb
    unfold FnGives
    refine (blankLine x W).mono ?_
    rintro e w' ⟨rfl, rfl⟩
    exact ⟨rfl, 0, rfl⟩
  · rintro e w' ⟨A, rfl, hA, hown, hb⟩
    have hR : Kd.string.R 9 w' w.heap.size (fun _ => True) (.slice (some ⟨A, 0, none⟩) (wordsS s).length (wordsS s).length) (wordsS s) := R_of_own hown (fun _ _ => trivial)
    exact ⟨A, rfl, (RdS.of_R hR).2.2, hb⟩

/-- What each leaves of the parser. -/
def LeavesLine {σ : Type} (B g : Nat) (J : Nat → σ → World → Prop) (n : Nat) (r : Except (Nat × Int) σ) (a : Int) (w' : World) : Prop := match r with
  | .ok s => a = 0 ∧ J n s w'
  | .error (i, e) => a = i ∧ ErrAt g e w' ∧ (e = 70 ∨ e = 71 ∨ e = 72)

set_option maxHeartbeats 8000000 in
set_option maxRecDepth 1000000 in
theorem eachLine_calls {σ : Type} (B g : Nat) (f : σ → ByteArray → List ByteArray → Except Int σ) (J : Nat → σ → World → Prop) (s : ByteArray) (s0 : σ) (w : World) (HG : Aside0 (∀ w', Below B w w' → LaidP w')) (hB : B ≤ w.heap.size) (hs : s.size < 4294967281)
    (hJ : Aside0 (J 0 s0 w))
    (hJ0 : Aside0 (∀ i x W, J i x W → ErrAt g 0 W)) (hJb : Aside0 (∀ i x W W', J i x W → Below W.heap.size W W' → J i x W')) (hJm : Aside0 (∀ i x W, J i x W → J (i + 1) x W))
    (hcall : Aside0 (∀ i x W A first rest, i ≤ s.size → J i x W → Below B w W → RdS W A (first :: rest) → (∀ y ∈ first :: rest, y.size < 4294967281) → rest.length ≤ 1099511627776 →
      Calls Tryd.prog 16 #[.pointer (some ⟨g, 0, none⟩), .slice A (rest.length + 1) (rest.length + 1)] W fun e w' => e = .returned (.tuple #[]) ∧ Below B W w' ∧ Oth W w' ∧
        (match f x first rest with | .ok x' => J (i + 1) x' w' | .error e => ErrAt g e w' ∧ (e = 70 ∨ e = 71 ∨ e = 72)))) :
    Calls Tryd.prog 15 #[.pointer (some ⟨g, 0, none⟩), .string s, .func (.func 16) #[.pointer (some ⟨g, 0, none⟩)] #[]] w fun e w' => ∃ a, e = .returned (.tuple #[.int .i64 a, .int .i64 (linesB s.data.toList).length]) ∧ Below B w w' ∧ LeavesLine B g J (linesS s).length (scan f 1 s0 (linesB s.data.toList)) a w' := by
  obtain ⟨m, hm⟩ := (HG.out w (Below.refl _ _)).mx
  have hlen : (linesS s).length = Lib.countB s ⟨#[10]⟩ + 1 := Lib.splitB_all ⟨#[10]⟩ (by decide) 0 _ s rfl
  have hls : (linesS s).length ≤ s.size + 1 := by
    rw [linesS_len, Lib.size_eq]
    exact lines_len _
  have hll : (linesB s.data.toList).length = (linesS s).length := (linesS_len s).symm
  have HLL := Lib.hid hll
  have HLEN := Lib.hid hlen
  have hsz : ∀ l ∈ linesS s, l.size ≤ s.size := fun l h => by
    have h1 : l.data.toList ∈ linesB s.data.toList := by rw [← linesS_data]; exact List.mem_map_of_mem h
    have h2 := lines_size h1
    rw [Lib.size_eq, Lib.size_eq]
    exact h2
  have HSZ := Aside0.mk hsz
  clear hlen hsz hll
  go_enter Tryd.func15, Tryd.ntmps15
  go_wp2_with fail
  refine (Tryd.strings_Split s ⟨#[10]⟩ m w hs hm (by decide)).mono ?_
  rintro e w1 ⟨rfl, rfl⟩
  rw [← HLEN.out]
  obtain ⟨w1, hw1⟩ : ∃ w1, w.alloc (.cells ((Lib.splitB ⟨#[10]⟩ 0 (Lib.countB s ⟨#[10]⟩) s).map Value.string).toArray 9) = w1 := ⟨_, rfl⟩
  have hbel : Below w.heap.size w w1 := by rw [← hw1]; exact (Below.refl _ _).alloc (Nat.le_refl _) _
  have hrd : RdS w1 (some ⟨w.heap.size, 0, none⟩) (linesS s) := by rw [← hw1]; exact RdS.new w (linesS s) (by omega)
  rw [hw1]
  have HBEL := Aside0.mk hbel
  have HRD := Aside0.mk hrd
  have HJ1 := Aside0.mk (hJb.out 0 s0 w w1 hJ.out hbel)
  clear hw1 hbel hrd hm hJ
  go_wp2
  go_loopg [16] (linesS s).length (fun gk s16 wx => ∃ (k : Nat) (x : σ), s16 = .int .i64 (k : Int) ∧ k + gk = (linesS s).length ∧ J k x wx ∧ Below B w wx ∧ RdS wx (some ⟨w.heap.size, 0, none⟩) (linesS s) ∧ scan f 1 s0 (linesB s.data.toList) = scan f (k + 1) x ((linesB s.data.toList).drop k))
  case atStart => exact ⟨0, s0, rfl, by omega, HJ1.out, HBEL.out.mono hB, HRD.out, by simp⟩
  case round =>
    obtain ⟨k, x, rfl, hk, hj, hbx, hrx, hsc⟩ := hrel
    have HJX := Aside0.mk hj
    have HBX := Aside0.mk hbx
    have HRX := Aside0.mk hrx
    have HSC := Lib.hid hsc
    by_cases hlt : k < (linesS s).length
    · obtain ⟨g', rfl⟩ : ∃ g', gk = g' + 1 := ⟨gk - 1, by omega⟩
      obtain ⟨ad, e1, hc⟩ := at_string hrx.now (k : Int) (by omega) (by omega)
      injection e1 with e1
      subst e1
      rw [Int.toNat_natCast, add_plain] at hc
      obtain ⟨l, hlk⟩ : ∃ l, rdOf ByteArray.empty (linesS s) (k : Int) = l := ⟨_, rfl⟩
      have hget : (linesS s)[k]? = some l := by
        rw [← hlk, List.getElem?_eq_getElem hlt]
        simp [rdOf, List.getD_eq_getElem?_getD, List.getElem?_eq_getElem hlt]
      rw [hlk] at hc
      have hlsz : l.size ≤ s.size := HSZ.out l (List.mem_of_getElem? hget)
      have HGET := Lib.hid hget
      obtain ⟨m2, hm2⟩ := (HG.out wr hbx).mx
      clear hlk hget hj hbx hrx hsc
      go_wp2_with fail
      refine (Tryd.strings_Cut l ⟨#[35]⟩ m2 wr (by omega) hm2).mono ?_
      rintro e w2 ⟨rfl, nd, rfl⟩
      obtain ⟨h, hh⟩ : ∃ h : ByteArray, (⟨(Lib.cut l.data.toList [35]).1.toArray⟩ : ByteArray) = h := ⟨_, rfl⟩
      have hhs : h.size ≤ l.size := by
        rw [← hh, Lib.size_eq, Lib.size_eq]
        have h1 := head_len l.data.toList
        rw [← cut_headOf] at h1
        exact h1
      have hhd : h = ⟨(headOf l.data.toList).toArray⟩ := by rw [← hh, cut_headOf]
      have HHD := Lib.hid hhd
      rw [show (⟨#[35]⟩ : ByteArray).data.toList = [35] from rfl, hh]
      clear hh hhd
      go_wp2_with fail
      refine (fieldsLine h (wr.drewN nd) (by omega)).mono ?_
      rintro e w3 ⟨gA, rfl, hrw, hb3⟩
      have hwo : wordsOf l.data.toList = wordsS h := by rw [wordsOf_eq, HHD.out]
      have hwsz : ∀ y ∈ wordsS h, y.size < 4294967281 := fun y hy => by
        rw [wordsS_eq] at hy
        obtain ⟨z, hz, rfl⟩ := List.mem_map.1 hy
        have h1 := words_size hz
        rw [Lib.size_eq] at hhs
        rw [Lib.size_eq]
        show z.length < _
        omega
      have hwl : (wordsS h).length ≤ h.size + 1 := by
        rw [wordsS_eq, List.length_map, Lib.size_eq]
        exact words_len _
      have HWO := Lib.hid hwo
      have HWS := Aside0.mk hwsz
      have HRW := Aside0.mk hrw
      have hb03 : Below wr.heap.size wr w3 := (pw_below_drewN (Below.refl _ _) nd).trans hb3
      have HB03 := Aside0.mk hb03
      have HJ3 := Aside0.mk (hJb.out k x wr w3 HJX.out hb03)
      have HB3 := Aside0.mk (HBX.out.trans (hb03.mono (Nat.le_trans hB HBX.out.size)))
      have HR3 := Aside0.mk (HRX.out.below hb03)
      obtain ⟨ws, hws⟩ : ∃ ws, wordsS h = ws := ⟨_, rfl⟩
      rw [hws] at HWO HWS HRW hwl ⊢
      clear hb3 hrw hwo hwsz hb03 hws
      cases ws with
      | nil =>
        go_wp2
        go_roundg g'
        case measure => omega
        case rel => exact ⟨k + 1, x, by first | (simp; done) | (simp; unfold wrap64; omega), by omega, hJm.out _ _ _ HJ3.out, HB3.out, HR3.out, by rw [HSC.out, drop_cons (linesS_at HGET.out)]; exact scan_skip f (k + 1) x _ _ HWO.out⟩
      | cons first rest =>
        rw [List.length_cons] at hwl ⊢
        obtain ⟨r, hr⟩ : ∃ r, f x first rest = r := ⟨_, rfl⟩
        have hcl := hcall.out k x w3 (some ⟨gA, 0, none⟩) first rest (by omega) HJ3.out HB3.out HRW.out HWS.out (by omega)
        rw [hr] at hcl
        have HR := Lib.hid hr
        have HCL := Lib.hid hcl
        clear hcl hr
        have hne : ((rest.length : Int) + 1 == 0) = false := by simp; omega
        go_wp2_with fail
        refine HCL.out.mono ?_
        cases r with
        | ok x' =>
          rintro e w4 ⟨rfl, hb4, ho4, hj4⟩
          obtain ⟨ca, cb, cc, cd, hcb⟩ := hJ0.out _ _ _ hj4
          have c4 : w4.cell? ⟨g, 3, none⟩ = some (.int .i64 0) := blk_cell hcb 3
          have HJ4 := Aside0.mk hj4
          have HB4 := Aside0.mk (HB3.out.trans hb4)
          have HR4 := Aside0.mk (HR3.out.oth ho4)
          clear hcb hj4 hb4 ho4
          go_wp2
          go_roundg g'
          case measure => omega
          case rel => exact ⟨k + 1, x', by first | (simp; done) | (simp; unfold wrap64; omega), by omega, HJ4.out, HB4.out, HR4.out, by rw [HSC.out, drop_cons (linesS_at HGET.out)]; exact scan_ok HWO.out HR.out⟩
        | error e0 =>
          rintro e w4 ⟨rfl, hb4, ho4, hj4, he0⟩
          obtain ⟨ca, cb, cc, cd, hcb⟩ := hj4
          have c4 : w4.cell? ⟨g, 3, none⟩ = some (.int .i64 e0) := blk_cell hcb 3
          have hen : (e0 == 0) = false := by simp; omega
          have hen2 : (e0 != 0) = true := by simp; omega
          have HERR : Aside0 (ErrAt g e0 w4) := ⟨⟨_, _, _, _, hcb⟩⟩
          have HE0 := Lib.hid he0
          have HB4 := Aside0.mk (HB3.out.trans hb4)
          have hsc2 : scan f 1 s0 (linesB s.data.toList) = .error (k + 1, e0) := by rw [HSC.out, drop_cons (linesS_at HGET.out)]; exact scan_err HWO.out HR.out
          have HSC2 := Lib.hid hsc2
          clear hcb hb4 ho4 he0 hsc2
          go_wp2
          go_ret2
          refine ⟨(k : Int) + 1, ?_, HB4.out, ?_⟩
          · rw [HLL.out]; rfl
          · rw [HSC2.out]; exact ⟨by simp, HERR.out, HE0.out⟩
    · have hke : k = (linesS s).length := by omega
      subst hke
      have hsc2 : scan f 1 s0 (linesB s.data.toList) = .ok x := by
        rw [HSC.out, List.drop_eq_nil_of_le (by rw [HLL.out]; exact Nat.le_refl _)]
        rfl
      have HSC2 := Lib.hid hsc2
      clear hj hbx hrx hsc hsc2
      go_wp2
      go_ret2
      refine ⟨0, ?_, HBX.out, ?_⟩
      · rw [HLL.out]; rfl
      · rw [HSC2.out]; exact ⟨rfl, HJX.out⟩
end Go.Proofs.YtlmkhllippobaaaDoor.Ps
end
section
/- text.Parse, walked. -/
set_option linter.unusedVariables false
set_option linter.unusedSimpArgs false
namespace Go.Proofs.YtlmkhllippobaaaDoor.Ps
open Go.RowKit Go.Proofs.YtlmkhllippobaaaDoorW.PrintWords Go.Proofs.YtlmkhllippobaaaDoorW.PrintWords.Kd Go.Proofs.YtlmkhllippobaaaDoorW.PrintMore Go.Proofs.YtlmkhllippobaaaDoorW.PrintMore.Kd Go.Proofs.YtlmkhllippobaaaDoor.Wl Go.Proofs.YtlmkhllippobaaaDoor.Tx Go.Proofs.YtlmkhllippobaaaDoor.Kd Go.Proofs.YtlmkhllippobaaaDoor.Kp Go.Proofs.YtlmkhllippobaaaDoor.TxW
attribute [local go_sem ↓] Go.wp_at_zero Go.wp_at_succ

/-- What stands at the head of a line. -/
def JL (B g i : Nat) (st : St) (w : World) : Prop := PS B g st 0 w ∧ Fit i st
theorem start_JL (w : World) : JL w.heap.size w.heap.size 0 st0 (w.alloc (.cells #[.int .i64 0, .slice none 0 0, .int .i64 0, .int .i64 0, .slice none 0 0] 57)) :=
  ⟨⟨Nat.le_refl _, by simp, _, heap_alloc_new w _, S_nil _ _ _ _ _⟩, Fit.zero⟩
theorem each_parse (s : ByteArray) (w w1 : World) (g : Nat) (hg : g = w.heap.size) (hw1 : w1 = w.alloc (.cells #[.int .i64 0, .slice none 0 0, .int .i64 0, .int .i64 0, .slice none 0 0] 57)) (HG : Aside0 (LaidP w)) (hs : s.size < 4294967281) :
    Calls Tryd.prog 15 #[.pointer (some ⟨g, 0, none⟩), .string s, .func (.func 16) #[.pointer (some ⟨g, 0, none⟩)] #[]] w1
      fun e w' => ∃ a, e = .returned (.tuple #[.int .i64 a, .int .i64 (linesB s.data.toList).length]) ∧ Below w.heap.size w1 w' ∧ LeavesLine w.heap.size g (JL w.heap.size g) (linesS s).length (scan stepW 1 st0 (linesB s.data.toList)) a w' := by
  subst hg hw1
  have hb1 : Below w.heap.size w (w.alloc (.cells #[.int .i64 0, .slice none 0 0, .int .i64 0, .int .i64 0, .slice none 0 0] 57)) := (Below.refl _ _).alloc (Nat.le_refl _) _
  refine eachLine_calls w.heap.size w.heap.size stepW (JL w.heap.size w.heap.size) s st0 _ ⟨fun w' h => HG.out.below (hb1.trans h)⟩ hb1.size hs ⟨start_JL w⟩ ⟨fun i x W h => ?_⟩ ⟨fun i x W W' h hb => ⟨h.1.below hb, h.2⟩⟩ ⟨fun i x W h => ⟨h.1, h.2.mono (Nat.le_succ _)⟩⟩ ⟨fun i x W A first rest hi h hbW hr hy hl => ?_⟩
  · obtain ⟨v, hv, _⟩ := h.1.ex
    exact ⟨_, _, _, _, hv⟩
  · refine (line_calls w.heap.size w.heap.size A (rest.length + 1) first rest x W ⟨fun w' hw' => HG.out.below ?_⟩ h.1 hr (Nat.le_refl _) hl ⟨hy⟩ h.2.has ?_ ?_).mono ?_
    · exact (hb1.trans hbW).trans hw'
    · have := h.2.num; omega
    · intro b hb; have := h.2.each b hb; omega
    · rintro e w' ⟨rfl, hst⟩
      refine ⟨rfl, hst.bel, hst.oth, ?_⟩
      have := hst.out
      cases hr : stepW x first rest with
      | ok x' => rw [hr] at this; exact ⟨this, h.2.step hr⟩
      | error e => rw [hr] at this; exact this

set_option maxHeartbeats 8000000 in
set_option maxRecDepth 1000000 in
theorem parse_err (s : ByteArray) (n : Nat) (e0 : Int) (w : World) (HG : Aside0 (LaidP w)) (hs : s.size < 4294967281) (hsc : scan stepW 1 st0 (linesB s.data.toList) = .error (n, e0)) :
    Calls Tryd.prog 6 #[.string s] w fun e w' => ∃ v, e = .returned (.tuple #[.agg #[.int .i64 0, v], .int .i64 n, .int .i64 e0]) ∧ kB.R 52 w' w.heap.size (fun _ => True) v [] ∧ Below w.heap.size w w' := by
  obtain ⟨wA, hwA⟩ : ∃ wA, w.alloc (.cells #[.int .i64 0, .slice none 0 0] 28) = wA := ⟨_, rfl⟩
  have hbA : Below w.heap.size w wA := by rw [← hwA]; exact (Below.refl _ _).alloc (Nat.le_refl _) _
  have hr0 : wA.heap[w.heap.size]? = some (.cells #[.int .i64 0, .slice none 0 0] 28 (0, 0)) := by rw [← hwA]; exact heap_alloc_new w _
  obtain ⟨g, hg⟩ : ∃ g, wA.heap.size = g := ⟨_, rfl⟩
  have hgw : g = w.heap.size + 1 := by rw [← hg, ← hwA]; simp
  obtain ⟨w1, hw1⟩ : ∃ w1, wA.alloc (.cells #[.int .i64 0, .slice none 0 0, .int .i64 0, .int .i64 0, .slice none 0 0] 57) = w1 := ⟨_, rfl⟩
  have hE := each_parse s wA w1 g hg.symm hw1.symm ⟨HG.out.below hbA⟩ hs
  rw [hsc] at hE
  have HE := Lib.hid hE
  have hbA1 : Below wA.heap.size wA w1 := by rw [← hw1]; exact (Below.refl _ _).alloc (Nat.le_refl _) _
  have HBA := Aside0.mk hbA
  have HBA1 := Aside0.mk hbA1
  have HR0 := Aside0.mk hr0
  have HGW := Lib.hid hgw
  have HGS := Lib.hid hg
  go_enter Tryd.func6, Tryd.ntmps6
  go_wp2_with fail
  rw [← hgw]
  clear hsc hE hbA hbA1 hr0 hg hgw hwA hw1
  refine HE.out.mono ?_
  rintro e w2 ⟨a, rfl, hb2, hlv⟩
  have hb3 : Below w.heap.size w w2 := HBA.out.trans ((HBA1.out.mono HBA.out.size).trans (hb2.mono HBA.out.size))
  have hr2 : w2.heap[w.heap.size]? = some (.cells #[.int .i64 0, .slice none 0 0] 28 (0, 0)) := (hb2.block w.heap.size (by rw [HGS.out, HGW.out]; omega)).trans (blk_below HR0.out HBA1.out)
  have r0 : w2.cell? ⟨w.heap.size, 0, none⟩ = some (.int .i64 0) := blk_cell hr2 0
  have r1 : w2.cell? ⟨w.heap.size, 1, none⟩ = some (.slice none 0 0) := blk_cell hr2 1
  have fr0 : w2.frozen? ⟨w.heap.size, 0, none⟩ = false := blk_frozen hr2 0
  have fr1 : w2.frozen? ⟨w.heap.size, 1, none⟩ = false := blk_frozen hr2 1
  have HB3 := Aside0.mk hb3
  have HR2 := Aside0.mk hr2
  clear hb2 hb3 hr2
  obtain ⟨ha, ⟨ca, cb, cc, cd, hcb⟩, he0⟩ := hlv
  have c3 : w2.cell? ⟨g, 3, none⟩ = some (.int .i64 e0) := blk_cell hcb 3
  have hen : (e0 == 0) = false := by simp; omega
  have hen2 : (e0 != 0) = true := by simp; omega
  have HA := Lib.hid ha
  clear hcb he0 ha
  go_wp2
  go_region
  all_goals
    go_wp2
    have b0 := blk_put HR2.out 0 (.int .i64 0) rfl
    have b1 := blk_put b0 1 (.slice none 0 0) rfl
    have t0 : (w2.setCell ⟨w.heap.size, 0, none⟩ (.int .i64 0)).cell? ⟨w.heap.size, 0, none⟩ = some (.int .i64 0) := blk_cell b0 0
    have t1 : ((w2.setCell ⟨w.heap.size, 0, none⟩ (.int .i64 0)).setCell ⟨w.heap.size, 1, none⟩ (.slice none 0 0)).cell? ⟨w.heap.size, 1, none⟩ = some (.slice none 0 0) := blk_cell b1 1
    clear b0 b1
    refine bodyPost_ret (v := .tuple #[.agg #[.int .i64 0, .slice none 0 0], .int .i64 a, .int .i64 e0]) (by simp [results, Tryd.results6, go_sem, t0, t1]) rfl ⟨_, by rw [HA.out], ?_, ?_⟩
    · exact R_nil _ _ _ _ _
    · first
        | exact (HB3.out.setCell (p := ⟨w.heap.size, 0, none⟩) (Nat.le_refl _) _).setCell (p := ⟨w.heap.size, 1, none⟩) (Nat.le_refl _) _
        | exact below_drew ((HB3.out.setCell (p := ⟨w.heap.size, 0, none⟩) (Nat.le_refl _) _).setCell (p := ⟨w.heap.size, 1, none⟩) (Nat.le_refl _) _)

set_option maxHeartbeats 8000000 in
set_option maxRecDepth 1000000 in
theorem parse_half (s : ByteArray) (st : St) (w : World) (HG : Aside0 (LaidP w)) (hs : s.size < 4294967281) (hsc : scan stepW 1 st0 (linesB s.data.toList) = .ok st) (hx : ¬ (st.at_ = 1 ∧ st.blocks ≠ [])) :
    Calls Tryd.prog 6 #[.string s] w fun e w' => ∃ v, e = .returned (.tuple #[.agg #[.int .i64 0, v], .int .i64 (linesB s.data.toList).length, .int .i64 70]) ∧ kB.R 52 w' w.heap.size (fun _ => True) v [] ∧ Below w.heap.size w w' := by
  have HX := Lib.hid hx
  clear hx
  obtain ⟨wA, hwA⟩ : ∃ wA, w.alloc (.cells #[.int .i64 0, .slice none 0 0] 28) = wA := ⟨_, rfl⟩
  have hbA : Below w.heap.size w wA := by rw [← hwA]; exact (Below.refl _ _).alloc (Nat.le_refl _) _
  have hr0 : wA.heap[w.heap.size]? = some (.cells #[.int .i64 0, .slice none 0 0] 28 (0, 0)) := by rw [← hwA]; exact heap_alloc_new w _
  obtain ⟨g, hg⟩ : ∃ g, wA.heap.size = g := ⟨_, rfl⟩
  have hgw : g = w.heap.size + 1 := by rw [← hg, ← hwA]; simp
  obtain ⟨w1, hw1⟩ : ∃ w1, wA.alloc (.cells #[.int .i64 0, .slice none 0 0, .int .i64 0, .int .i64 0, .slice none 0 0] 57) = w1 := ⟨_, rfl⟩
  have hE := each_parse s wA w1 g hg.symm hw1.symm ⟨HG.out.below hbA⟩ hs
  rw [hsc] at hE
  have HE := Lib.hid hE
  have hbA1 : Below wA.heap.size wA w1 := by rw [← hw1]; exact (Below.refl _ _).alloc (Nat.le_refl _) _
  have HBA := Aside0.mk hbA
  have HBA1 := Aside0.mk hbA1
  have HR0 := Aside0.mk hr0
  have HGW := Lib.hid hgw
  have HGS := Lib.hid hg
  go_enter Tryd.func6, Tryd.ntmps6
  go_wp2_with fail
  rw [← hgw]
  clear hsc hE hbA hbA1 hr0 hg hgw hwA hw1
  refine HE.out.mono ?_
  rintro e w2 ⟨a, rfl, hb2, hlv⟩
  have hb3 : Below w.heap.size w w2 := HBA.out.trans ((HBA1.out.mono HBA.out.size).trans (hb2.mono HBA.out.size))
  have hr2 : w2.heap[w.heap.size]? = some (.cells #[.int .i64 0, .slice none 0 0] 28 (0, 0)) := (hb2.block w.heap.size (by rw [HGS.out, HGW.out]; omega)).trans (blk_below HR0.out HBA1.out)
  have r0 : w2.cell? ⟨w.heap.size, 0, none⟩ = some (.int .i64 0) := blk_cell hr2 0
  have r1 : w2.cell? ⟨w.heap.size, 1, none⟩ = some (.slice none 0 0) := blk_cell hr2 1
  have fr0 : w2.frozen? ⟨w.heap.size, 0, none⟩ = false := blk_frozen hr2 0
  have fr1 : w2.frozen? ⟨w.heap.size, 1, none⟩ = false := blk_frozen hr2 1
  have HB3 := Aside0.mk hb3
  have HR2 := Aside0.mk hr2
  clear hb2 hb3 hr2
  obtain ⟨ha, hps, hfit⟩ := hlv
  obtain ⟨v, hcb, hS⟩ := hps.ex
  obtain ⟨Av, cv, rfl⟩ := S_slice hS
  have c1 : w2.cell? ⟨g, 1, none⟩ = some (.slice Av st.blocks.length cv) := blk_cell hcb 1
  have c2 : w2.cell? ⟨g, 2, none⟩ = some (.int .i64 st.at_) := blk_cell hcb 2
  have c3 : w2.cell? ⟨g, 3, none⟩ = some (.int .i64 0) := blk_cell hcb 3
  clear hcb ha hps hfit hS
  by_cases h1 : st.at_ = 1
  · have h2 : st.blocks = [] := by
      have := HX.out
      by_cases h : st.blocks = []
      · exact h
      · exact absurd ⟨h1, h⟩ this
    have h3 : (st.blocks.length : Int) = 0 := by rw [h2]; rfl
    have h4 : (st.at_ == 1) = true := by rw [h1]; rfl
    have h5 : (st.at_ != 1) = false := by rw [h1]; rfl
    clear h1 h2
    go_wp2
    have b0 := blk_put HR2.out 0 (.int .i64 0) rfl
    have b1 := blk_put b0 1 (.slice none 0 0) rfl
    have t0 : (w2.setCell ⟨w.heap.size, 0, none⟩ (.int .i64 0)).cell? ⟨w.heap.size, 0, none⟩ = some (.int .i64 0) := blk_cell b0 0
    have t1 : ((w2.setCell ⟨w.heap.size, 0, none⟩ (.int .i64 0)).setCell ⟨w.heap.size, 1, none⟩ (.slice none 0 0)).cell? ⟨w.heap.size, 1, none⟩ = some (.slice none 0 0) := blk_cell b1 1
    clear b0 b1
    refine bodyPost_ret (v := .tuple #[.agg #[.int .i64 0, .slice none 0 0], .int .i64 ((linesB s.data.toList).length : Nat), .int .i64 70]) (by simp [results, Tryd.results6, go_sem, t0, t1]) rfl ⟨_, rfl, ?_, ?_⟩
    · exact R_nil _ _ _ _ _
    · first
        | exact (HB3.out.setCell (p := ⟨w.heap.size, 0, none⟩) (Nat.le_refl _) _).setCell (p := ⟨w.heap.size, 1, none⟩) (Nat.le_refl _) _
        | exact below_drew ((HB3.out.setCell (p := ⟨w.heap.size, 0, none⟩) (Nat.le_refl _) _).setCell (p := ⟨w.heap.size, 1, none⟩) (Nat.le_refl _) _)
  · have h4 : (st.at_ == 1) = false := by simpa using h1
    have h5 : (st.at_ != 1) = true := by simpa using h1
    clear h1
    go_wp2
    have b0 := blk_put HR2.out 0 (.int .i64 0) rfl
    have b1 := blk_put b0 1 (.slice none 0 0) rfl
    have t0 : (w2.setCell ⟨w.heap.size, 0, none⟩ (.int .i64 0)).cell? ⟨w.heap.size, 0, none⟩ = some (.int .i64 0) := blk_cell b0 0
    have t1 : ((w2.setCell ⟨w.heap.size, 0, none⟩ (.int .i64 0)).setCell ⟨w.heap.size, 1, none⟩ (.slice none 0 0)).cell? ⟨w.heap.size, 1, none⟩ = some (.slice none 0 0) := blk_cell b1 1
    clear b0 b1
    refine bodyPost_ret (v := .tuple #[.agg #[.int .i64 0, .slice none 0 0], .int .i64 ((linesB s.data.toList).length : Nat), .int .i64 70]) (by simp [results, Tryd.results6, go_sem, t0, t1]) rfl ⟨_, rfl, ?_, ?_⟩
    · exact R_nil _ _ _ _ _
    · first
        | exact (HB3.out.setCell (p := ⟨w.heap.size, 0, none⟩) (Nat.le_refl _) _).setCell (p := ⟨w.heap.size, 1, none⟩) (Nat.le_refl _) _
        | exact below_drew ((HB3.out.setCell (p := ⟨w.heap.size, 0, none⟩) (Nat.le_refl _) _).setCell (p := ⟨w.heap.size, 1, none⟩) (Nat.le_refl _) _)

set_option maxHeartbeats 8000000 in
set_option maxRecDepth 1000000 in
theorem parse_ok (s : ByteArray) (st : St) (w : World) (HG : Aside0 (LaidP w)) (hs : s.size < 4294967281) (hsc : scan stepW 1 st0 (linesB s.data.toList) = .ok st) (hx : st.at_ = 1) (hn : st.blocks ≠ []) :
    Calls Tryd.prog 6 #[.string s] w fun e w' => ∃ v, e = .returned (.tuple #[.agg #[.int .i64 st.params, v], .int .i64 0, .int .i64 0]) ∧ kB.R 52 w' w.heap.size (fun _ => True) v st.blocks ∧ Below w.heap.size w w' := by
  have HX := Lib.hid hx
  have HN := Lib.hid hn
  clear hx hn
  obtain ⟨wA, hwA⟩ : ∃ wA, w.alloc (.cells #[.int .i64 0, .slice none 0 0] 28) = wA := ⟨_, rfl⟩
  have hbA : Below w.heap.size w wA := by rw [← hwA]; exact (Below.refl _ _).alloc (Nat.le_refl _) _
  have hr0 : wA.heap[w.heap.size]? = some (.cells #[.int .i64 0, .slice none 0 0] 28 (0, 0)) := by rw [← hwA]; exact heap_alloc_new w _
  obtain ⟨g, hg⟩ : ∃ g, wA.heap.size = g := ⟨_, rfl⟩
  have hgw : g = w.heap.size + 1 := by rw [← hg, ← hwA]; simp
  obtain ⟨w1, hw1⟩ : ∃ w1, wA.alloc (.cells #[.int .i64 0, .slice none 0 0, .int .i64 0, .int .i64 0, .slice none 0 0] 57) = w1 := ⟨_, rfl⟩
  have hE := each_parse s wA w1 g hg.symm hw1.symm ⟨HG.out.below hbA⟩ hs
  rw [hsc] at hE
  have HE := Lib.hid hE
  have hbA1 : Below wA.heap.size wA w1 := by rw [← hw1]; exact (Below.refl _ _).alloc (Nat.le_refl _) _
  have HBA := Aside0.mk hbA
  have HBA1 := Aside0.mk hbA1
  have HR0 := Aside0.mk hr0
  have HGW := Lib.hid hgw
  have HGS := Lib.hid hg
  go_enter Tryd.func6, Tryd.ntmps6
  go_wp2_with fail
  rw [← hgw]
  clear hsc hE hbA hbA1 hr0 hg hgw hwA hw1
  refine HE.out.mono ?_
  rintro e w2 ⟨a, rfl, hb2, hlv⟩
  have hb3 : Below w.heap.size w w2 := HBA.out.trans ((HBA1.out.mono HBA.out.size).trans (hb2.mono HBA.out.size))
  have hr2 : w2.heap[w.heap.size]? = some (.cells #[.int .i64 0, .slice none 0 0] 28 (0, 0)) := (hb2.block w.heap.size (by rw [HGS.out, HGW.out]; omega)).trans (blk_below HR0.out HBA1.out)
  have r0 : w2.cell? ⟨w.heap.size, 0, none⟩ = some (.int .i64 0) := blk_cell hr2 0
  have r1 : w2.cell? ⟨w.heap.size, 1, none⟩ = some (.slice none 0 0) := blk_cell hr2 1
  have fr0 : w2.frozen? ⟨w.heap.size, 0, none⟩ = false := blk_frozen hr2 0
  have fr1 : w2.frozen? ⟨w.heap.size, 1, none⟩ = false := blk_frozen hr2 1
  have HB3 := Aside0.mk hb3
  have HR2 := Aside0.mk hr2
  clear hb2 hb3 hr2
  obtain ⟨ha, hps, hfit⟩ := hlv
  obtain ⟨v, hcb, hS⟩ := hps.ex
  obtain ⟨Av, cv, rfl⟩ := S_slice hS
  have c0 : w2.cell? ⟨g, 0, none⟩ = some (.int .i64 st.params) := blk_cell hcb 0
  have c1 : w2.cell? ⟨g, 1, none⟩ = some (.slice Av st.blocks.length cv) := blk_cell hcb 1
  have c2 : w2.cell? ⟨g, 2, none⟩ = some (.int .i64 st.at_) := blk_cell hcb 2
  have c3 : w2.cell? ⟨g, 3, none⟩ = some (.int .i64 0) := blk_cell hcb 3
  have HS := Aside0.mk hS
  have h1 := HX.out
  have h3 : ((st.blocks.length : Int) == 0) = false := by
    have := List.length_pos_iff.2 HN.out
    simp only [beq_eq_false_iff_ne]
    omega
  have h4 : (st.at_ == 1) = true := by rw [h1]; rfl
  have h5 : (st.at_ != 1) = false := by rw [h1]; rfl
  clear hcb ha hps hfit hS h1
  all_goals
    go_wp2
    have b0 := blk_put HR2.out 0 (.int .i64 st.params) rfl
    have b1 := blk_put b0 1 (.slice Av st.blocks.length cv) rfl
    have t0 : (w2.setCell ⟨w.heap.size, 0, none⟩ (.int .i64 st.params)).cell? ⟨w.heap.size, 0, none⟩ = some (.int .i64 st.params) := blk_cell b0 0
    have t1 : ((w2.setCell ⟨w.heap.size, 0, none⟩ (.int .i64 st.params)).setCell ⟨w.heap.size, 1, none⟩ (.slice Av st.blocks.length cv)).cell? ⟨w.heap.size, 1, none⟩ = some (.slice Av st.blocks.length cv) := blk_cell b1 1
    clear b0 b1
    refine bodyPost_ret (v := .tuple #[.agg #[.int .i64 st.params, .slice Av st.blocks.length cv], .int .i64 0, .int .i64 0]) (by simp [results, Tryd.results6, go_sem, t0, t1]) rfl ⟨_, rfl, ?_, ?_⟩
    · have hne : ∀ k, k ≠ w.heap.size ∨ k = w.heap.size := fun k => by omega
      have h7 : kB.R 52 w2 w.heap.size (fun _ => True) (.slice Av st.blocks.length cv) st.blocks := R_mono (R_lower (S_R HS.out) HBA.out.size) (fun _ _ => trivial)
      have h8 := R_types h7 HR2.out (by decide)
      exact R_mono (R_far (p := ⟨w.heap.size, 1, none⟩) (R_far (p := ⟨w.heap.size, 0, none⟩) h8 (fun _ hk => hk.2) _) (fun _ hk => hk.2) _) (fun _ _ => trivial)
    · first
        | exact (HB3.out.setCell (p := ⟨w.heap.size, 0, none⟩) (Nat.le_refl _) _).setCell (p := ⟨w.heap.size, 1, none⟩) (Nat.le_refl _) _
        | exact below_drew ((HB3.out.setCell (p := ⟨w.heap.size, 0, none⟩) (Nat.le_refl _) _).setCell (p := ⟨w.heap.size, 1, none⟩) (Nat.le_refl _) _)

theorem Parse_calls (s : ByteArray) (w : World) (HG : Aside0 (LaidP w)) (hs : s.size < 4294967281) :
    Calls Tryd.prog 6 #[.string s] w fun e w' => ∃ v, e = .returned (.tuple #[.agg #[.int .i64 (parseT s.data.toList).1.f0, v], .int .i64 (parseT s.data.toList).2.1, .int .i64 (parseT s.data.toList).2.2]) ∧ kB.R 52 w' w.heap.size (fun _ => True) v (parseT s.data.toList).1.f1 ∧ Below w.heap.size w w' := by
  cases hsc : scan stepW 1 st0 (linesB s.data.toList) with
  | error ne =>
    obtain ⟨n, e0⟩ := ne
    have hp : parseT s.data.toList = (zFunc, (n : Int), e0) := by unfold parseT; rw [hsc]
    rw [hp]
    exact parse_err s n e0 w HG hs hsc
  | ok st =>
    by_cases hx : st.at_ = 1 ∧ st.blocks ≠ []
    · have hp : parseT s.data.toList = (⟨st.params, st.blocks⟩, 0, 0) := by unfold parseT; rw [hsc]; simp only; rw [if_pos hx]
      rw [hp]
      exact parse_ok s st w HG hs hsc hx.1 hx.2
    · have hp : parseT s.data.toList = (zFunc, ((linesB s.data.toList).length : Int), 70) := by unfold parseT; rw [hsc]; simp only; rw [if_neg hx]
      rw [hp]
      exact parse_half s st w HG hs hsc hx
end Go.Proofs.YtlmkhllippobaaaDoor.Ps
end
section
/- The document's example, in plain Lean. -/
set_option linter.unusedVariables false
namespace Go.Proofs.YtlmkhllippobaaaDoor.Ps
open Go.RowKit Go.Proofs.YtlmkhllippobaaaDoorW.PrintWords Go.Proofs.YtlmkhllippobaaaDoor.Wl Go.Proofs.YtlmkhllippobaaaDoor.Tx Go.Proofs.YtlmkhllippobaaaDoor.Kd Go.Proofs.YtlmkhllippobaaaDoor.TxW
def fShown : TFunc := ⟨2, [⟨[], [⟨2, 2, 0, [0, 1], 0⟩], ⟨4, [2], [], 0⟩⟩]⟩
def sShown : ByteArray := ⟨#[102, 117, 110, 99, 32, 50, 10, 98, 108, 111, 99, 107, 32, 48, 10, 97, 100, 100, 32, 50, 32, 48, 32, 49, 10, 114, 101, 116, 32, 50, 10]⟩
theorem text_shown : funcText fShown = sShown.data.toList := by kernel_rfl
theorem parse_shown : parseT sShown.data.toList = (fShown, 0, 0) := by kernel_rfl
end Go.Proofs.YtlmkhllippobaaaDoor.Ps
end
section
-- By this session's driver (wip/myprint.py) out of the translation; Lean checks it.
namespace Go.Proofs.YtlmkhllippobaaaDoor.Pr
open Go.Proofs.YtlmkhllippobaaaDoor.Kd
open Go.RowKit Go.Proofs.YtlmkhllippobaaaDoorW.PrintWords Go.Proofs.YtlmkhllippobaaaDoorW.PrintLast Go.Proofs.YtlmkhllippobaaaDoorW.PrintMore
attribute [local go_sem] max2_int min2_int max_two min_two max_three min_three max_four min_four   -- for this text's walks alone
set_option linter.unusedVariables false
set_option linter.unusedSimpArgs false



def errW : Option Int → Value
  | none => .nilIface
  | some c => .iface 0 (.int .i64 c)
theorem errW_none : errW none = .nilIface := rfl
theorem errW_some (c : Int) : errW (some c) = .iface 0 (.int .i64 c) := rfl

theorem info5 : (Tryd.prog.info? 5).map (fun i => (i.zero, i.size, i.bytes)) = some (some (.int .u8 0), 1, 1) := by kernel_rfl
-- the values' own types
/-! #### struct type 79 -/
def rd_L2 (xs : List (List S79)) (i : Int) : (List S79) := xs.getD i.toNat ([] : List S79)
theorem at_L2 {w : World} {A : Option Addr} {n : Nat} {xs : List (List S79)} (h : Kd.C (Kd.slice 79 k79) w A n xs) (i : Int) (h0 : 0 ≤ i) (h1 : i < n) : ∃ ad A0 c0, A = some ad ∧ w.cell? (ad.add i.toNat) = some (.slice A0 (rd_L2 xs i).length c0) ∧ (rd_L2 xs i).length ≤ c0 ∧ k79.C w A0 (rd_L2 xs i).length (rd_L2 xs i) := by
  obtain ⟨ad, c, e, _, hK, hc0⟩ := Kd.C_get h ([] : List S79) i h0 h1
  have hc : ∀ j u, c[j]? = some u → w.cell? (ad.add (i.toNat * 1 + j)) = some u := hc0
  obtain ⟨A0, c0, rfl, l0, g0⟩ := hK
  exact ⟨ad, A0, c0, e, by have hq := hc 0 _ rfl; rwa [Nat.mul_one, Nat.add_zero] at hq, l0, g0⟩

/-! #### struct type 76 -/
def rd_L4 (xs : List (List S76)) (i : Int) : (List S76) := xs.getD i.toNat ([] : List S76)
theorem at_L4 {w : World} {A : Option Addr} {n : Nat} {xs : List (List S76)} (h : Kd.C (Kd.slice 76 k76) w A n xs) (i : Int) (h0 : 0 ≤ i) (h1 : i < n) : ∃ ad A0 c0, A = some ad ∧ w.cell? (ad.add i.toNat) = some (.slice A0 (rd_L4 xs i).length c0) ∧ (rd_L4 xs i).length ≤ c0 ∧ k76.C w A0 (rd_L4 xs i).length (rd_L4 xs i) := by
  obtain ⟨ad, c, e, _, hK, hc0⟩ := Kd.C_get h ([] : List S76) i h0 h1
  have hc : ∀ j u, c[j]? = some u → w.cell? (ad.add (i.toNat * 1 + j)) = some u := hc0
  obtain ⟨A0, c0, rfl, l0, g0⟩ := hK
  exact ⟨ad, A0, c0, e, by have hq := hc 0 _ rfl; rwa [Nat.mul_one, Nat.add_zero] at hq, l0, g0⟩

def rd_L5 (xs : List (List Int)) (i : Int) : (List Int) := xs.getD i.toNat ([] : List Int)
theorem at_L5 {w : World} {A : Option Addr} {n : Nat} {xs : List (List Int)} (h : Kd.C (Kd.slice 3 (Kd.int .i64)) w A n xs) (i : Int) (h0 : 0 ≤ i) (h1 : i < n) : ∃ ad A0 c0, A = some ad ∧ w.cell? (ad.add i.toNat) = some (.slice A0 (rd_L5 xs i).length c0) ∧ (rd_L5 xs i).length ≤ c0 ∧ (Kd.int .i64).C w A0 (rd_L5 xs i).length (rd_L5 xs i) := by
  obtain ⟨ad, c, e, _, hK, hc0⟩ := Kd.C_get h ([] : List Int) i h0 h1
  have hc : ∀ j u, c[j]? = some u → w.cell? (ad.add (i.toNat * 1 + j)) = some u := hc0
  obtain ⟨A0, c0, rfl, l0, g0⟩ := hK
  exact ⟨ad, A0, c0, e, by have hq := hc 0 _ rfl; rwa [Nat.mul_one, Nat.add_zero] at hq, l0, g0⟩

/-! #### struct type 46 -/
def rd_L8 (xs : List (List S46)) (i : Int) : (List S46) := xs.getD i.toNat ([] : List S46)
theorem at_L8 {w : World} {A : Option Addr} {n : Nat} {xs : List (List S46)} (h : Kd.C (Kd.slice 46 k46) w A n xs) (i : Int) (h0 : 0 ≤ i) (h1 : i < n) : ∃ ad A0 c0, A = some ad ∧ w.cell? (ad.add i.toNat) = some (.slice A0 (rd_L8 xs i).length c0) ∧ (rd_L8 xs i).length ≤ c0 ∧ k46.C w A0 (rd_L8 xs i).length (rd_L8 xs i) := by
  obtain ⟨ad, c, e, _, hK, hc0⟩ := Kd.C_get h ([] : List S46) i h0 h1
  have hc : ∀ j u, c[j]? = some u → w.cell? (ad.add (i.toNat * 1 + j)) = some u := hc0
  obtain ⟨A0, c0, rfl, l0, g0⟩ := hK
  exact ⟨ad, A0, c0, e, by have hq := hc 0 _ rfl; rwa [Nat.mul_one, Nat.add_zero] at hq, l0, g0⟩

/-! #### struct type 49 -/
/-! #### struct type 52 -/
def rd_L11 (xs : List (List S52)) (i : Int) : (List S52) := xs.getD i.toNat ([] : List S52)
theorem at_L11 {w : World} {A : Option Addr} {n : Nat} {xs : List (List S52)} (h : Kd.C (Kd.slice 52 k52) w A n xs) (i : Int) (h0 : 0 ≤ i) (h1 : i < n) : ∃ ad A0 c0, A = some ad ∧ w.cell? (ad.add i.toNat) = some (.slice A0 (rd_L11 xs i).length c0) ∧ (rd_L11 xs i).length ≤ c0 ∧ k52.C w A0 (rd_L11 xs i).length (rd_L11 xs i) := by
  obtain ⟨ad, c, e, _, hK, hc0⟩ := Kd.C_get h ([] : List S52) i h0 h1
  have hc : ∀ j u, c[j]? = some u → w.cell? (ad.add (i.toNat * 1 + j)) = some u := hc0
  obtain ⟨A0, c0, rfl, l0, g0⟩ := hK
  exact ⟨ad, A0, c0, e, by have hq := hc 0 _ rfl; rwa [Nat.mul_one, Nat.add_zero] at hq, l0, g0⟩

/-! #### struct type 28 -/
/-! #### struct type 133 -/
structure S133 where
  f0 : Int
  f1 : Int
  f2 : Int
def z133 : S133 := ⟨(0 : Int), (0 : Int), (0 : Int)⟩
def k133 : Kd S133 := Kd.iso (Kd.pair (Kd.int .u16) (Kd.pair (Kd.int .u16) (Kd.int .u16))) (fun x : S133 => (x.f0, x.f1, x.f2))
theorem k133_open {w : World} {x : S133} {cs : List Value} (h : k133.K w x cs) : cs = [.int .u16 x.f0, .int .u16 x.f1, .int .u16 x.f2] := by
  obtain ⟨_, _, rfl, rfl, ⟨_, _, rfl, rfl, rfl⟩⟩ := h
  exact rfl
theorem k133_openM {w : World} {base : Nat} {ok : Nat → Prop} {x : S133} {cs : List Value} (h : k133.M w base ok x cs) : cs = [.int .u16 x.f0, .int .u16 x.f1, .int .u16 x.f2] := by
  obtain ⟨_, _, rfl, rfl, ⟨_, _, rfl, rfl, rfl⟩⟩ := h
  exact rfl
theorem k133_mk (w : World) (x : S133)  : k133.K w x [.int .u16 x.f0, .int .u16 x.f1, .int .u16 x.f2] := ⟨[.int .u16 x.f0], [.int .u16 x.f1, .int .u16 x.f2], rfl, rfl, ⟨[.int .u16 x.f1], [.int .u16 x.f2], rfl, rfl, rfl⟩⟩
theorem k133_mkM (w : World) (base : Nat) (ok : Nat → Prop) (x : S133)  : k133.M w base ok x [.int .u16 x.f0, .int .u16 x.f1, .int .u16 x.f2] := ⟨[.int .u16 x.f0], [.int .u16 x.f1, .int .u16 x.f2], rfl, rfl, ⟨[.int .u16 x.f1], [.int .u16 x.f2], rfl, rfl, rfl⟩⟩
def rd_T133 (xs : List S133) (i : Int) : S133 := xs.getD i.toNat z133
theorem at_T133 {w : World} {A : Option Addr} {n : Nat} {xs : List S133} (h : Kd.C k133 w A n xs) (i : Int) (h0 : 0 ≤ i) (h1 : i < n) : ∃ ad , A = some ad ∧ w.cell? (ad.add (i.toNat * 3)) = some (.int .u16 (rd_T133 xs i).f0) ∧ w.cell? ⟨(ad.add (i.toNat * 3)).block, (ad.add (i.toNat * 3)).off + 1, none⟩ = some (.int .u16 (rd_T133 xs i).f1) ∧ w.cell? ⟨(ad.add (i.toNat * 3)).block, (ad.add (i.toNat * 3)).off + 2, none⟩ = some (.int .u16 (rd_T133 xs i).f2) := by
  obtain ⟨ad, c, e, _, hK, hc0⟩ := Kd.C_get h z133 i h0 h1
  have hc : ∀ j u, c[j]? = some u → w.cell? (ad.add (i.toNat * 3 + j)) = some u := hc0
  obtain rfl := k133_open hK
  exact ⟨ad, e, hc 0 _ rfl, by rw [← add_field _ _ 1 (by omega)]; exact hc 1 _ rfl, by rw [← add_field _ _ 2 (by omega)]; exact hc 2 _ rfl⟩

/-! #### struct type 136 -/
structure S136 where
  f0 : Int
  f1 : Int
  f2 : Int
def z136 : S136 := ⟨(0 : Int), (0 : Int), (0 : Int)⟩
def k136 : Kd S136 := Kd.iso (Kd.pair (Kd.int .u32) (Kd.pair (Kd.int .u32) (Kd.int .u32))) (fun x : S136 => (x.f0, x.f1, x.f2))
theorem k136_open {w : World} {x : S136} {cs : List Value} (h : k136.K w x cs) : cs = [.int .u32 x.f0, .int .u32 x.f1, .int .u32 x.f2] := by
  obtain ⟨_, _, rfl, rfl, ⟨_, _, rfl, rfl, rfl⟩⟩ := h
  exact rfl
theorem k136_openM {w : World} {base : Nat} {ok : Nat → Prop} {x : S136} {cs : List Value} (h : k136.M w base ok x cs) : cs = [.int .u32 x.f0, .int .u32 x.f1, .int .u32 x.f2] := by
  obtain ⟨_, _, rfl, rfl, ⟨_, _, rfl, rfl, rfl⟩⟩ := h
  exact rfl
theorem k136_mk (w : World) (x : S136)  : k136.K w x [.int .u32 x.f0, .int .u32 x.f1, .int .u32 x.f2] := ⟨[.int .u32 x.f0], [.int .u32 x.f1, .int .u32 x.f2], rfl, rfl, ⟨[.int .u32 x.f1], [.int .u32 x.f2], rfl, rfl, rfl⟩⟩
theorem k136_mkM (w : World) (base : Nat) (ok : Nat → Prop) (x : S136)  : k136.M w base ok x [.int .u32 x.f0, .int .u32 x.f1, .int .u32 x.f2] := ⟨[.int .u32 x.f0], [.int .u32 x.f1, .int .u32 x.f2], rfl, rfl, ⟨[.int .u32 x.f1], [.int .u32 x.f2], rfl, rfl, rfl⟩⟩
def rd_T136 (xs : List S136) (i : Int) : S136 := xs.getD i.toNat z136
theorem at_T136 {w : World} {A : Option Addr} {n : Nat} {xs : List S136} (h : Kd.C k136 w A n xs) (i : Int) (h0 : 0 ≤ i) (h1 : i < n) : ∃ ad , A = some ad ∧ w.cell? (ad.add (i.toNat * 3)) = some (.int .u32 (rd_T136 xs i).f0) ∧ w.cell? ⟨(ad.add (i.toNat * 3)).block, (ad.add (i.toNat * 3)).off + 1, none⟩ = some (.int .u32 (rd_T136 xs i).f1) ∧ w.cell? ⟨(ad.add (i.toNat * 3)).block, (ad.add (i.toNat * 3)).off + 2, none⟩ = some (.int .u32 (rd_T136 xs i).f2) := by
  obtain ⟨ad, c, e, _, hK, hc0⟩ := Kd.C_get h z136 i h0 h1
  have hc : ∀ j u, c[j]? = some u → w.cell? (ad.add (i.toNat * 3 + j)) = some u := hc0
  obtain rfl := k136_open hK
  exact ⟨ad, e, hc 0 _ rfl, by rw [← add_field _ _ 1 (by omega)]; exact hc 1 _ rfl, by rw [← add_field _ _ 2 (by omega)]; exact hc 2 _ rfl⟩

end Go.Proofs.YtlmkhllippobaaaDoor.Pr
end
