-- By this session's driver (wip/myprint.py) out of the translation; Lean checks it.
import Derived.Test.YtlmkhllippobaaaDoorG16
import Derived.Test.YtlmkhllippobaaaDoorG17
namespace Go.Proofs.YtlmkhllippobaaaDoor.Pr
open Go.Proofs.YtlmkhllippobaaaDoor.Kd
open Go.RowKit Go.Proofs.YtlmkhllippobaaaDoorW.PrintWords Go.Proofs.YtlmkhllippobaaaDoorW.PrintLast Go.Proofs.YtlmkhllippobaaaDoorW.PrintMore
attribute [local go_sem] max2_int min2_int max_two min_two max_three min_three max_four min_four   -- for this text's walks alone
set_option linter.unusedVariables false
set_option linter.unusedSimpArgs false

/-! ### jacquardref03_Print: function 25 -/
mutual
def jacquardref03_Print.l0 : Nat → ByteArray → Int → Int → List (S52) → Option (ByteArray)
  | 0, _, _, _, _ => none
  | k + 1, x3, x4, x133000, x133001 => if x4 < (x133001.length : Int) then (if 0 ≤ x4 then (if x3.size + 1 ≤ 9223372036854775807 then (jacquardref03_Print.l1 k (x3 ++ (⟨#[10]⟩ : ByteArray)) x4 0 x133000 x133001 ((rd_T52 x133001 x4).f0) ((rd_T52 x133001 x4).f1) ((rd_T52 x133001 x4).f2.f0) ((rd_T52 x133001 x4).f2.f1) ((rd_T52 x133001 x4).f2.f2) ((rd_T52 x133001 x4).f2.f3)) else (none)) else (none)) else (some x3)
def jacquardref03_Print.l1 : Nat → ByteArray → Int → Int → Int → List (S52) → List (S76) → List (S46) → Int → List Int → List Int → Int → Option (ByteArray)
  | 0, _, _, _, _, _, _, _, _, _, _, _ => none
  | k + 1, x3, x4, x6, x133000, x133001, x136000, x136001, x136002, x136003, x136004, x136005 => if x6 < (x136000.length : Int) then (if x3.size + 4 ≤ 9223372036854775807 then (if 0 ≤ x6 then ((jacquardref03_digits.f k ((rd_T76 x136000 x6).f0)).bind fun t137 => (if (x3 ++ (⟨#[112, 104, 105, 32]⟩ : ByteArray)).size + t137.size ≤ 9223372036854775807 then (jacquardref03_Print.l2 k ((x3 ++ (⟨#[112, 104, 105, 32]⟩ : ByteArray)) ++ t137) x4 x6 0 x133000 x133001 x136000 x136001 x136002 x136003 x136004 x136005) else (none))) else (none)) else (none)) else (jacquardref03_Print.l3 k x3 x4 0 x133000 x133001 x136000 x136001 x136002 x136003 x136004 x136005)
def jacquardref03_Print.l2 : Nat → ByteArray → Int → Int → Int → Int → List (S52) → List (S76) → List (S46) → Int → List Int → List Int → Int → Option (ByteArray)
  | 0, _, _, _, _, _, _, _, _, _, _, _, _ => none
  | k + 1, x3, x4, x6, x7, x133000, x133001, x136000, x136001, x136002, x136003, x136004, x136005 => if 0 ≤ x6 then (if x6 < (x136000.length : Int) then (if x7 < (((rd_T76 x136000 x6).f1).length : Int) then (if 0 ≤ x7 then ((jacquardref03_digits.f k ((rd_T79 ((rd_T76 x136000 x6).f1) x7).f0)).bind fun t141 => (if x3.size + t141.size ≤ 9223372036854775807 then (if (x3 ++ t141).size + 1 ≤ 9223372036854775807 then ((jacquardref03_digits.f k ((rd_T79 ((rd_T76 x136000 x6).f1) x7).f1)).bind fun t144 => (if ((x3 ++ t141) ++ (⟨#[58]⟩ : ByteArray)).size + t144.size ≤ 9223372036854775807 then (jacquardref03_Print.l2 k (((x3 ++ t141) ++ (⟨#[58]⟩ : ByteArray)) ++ t144) x4 x6 (wrap64 (x7 + 1)) x133000 x133001 x136000 x136001 x136002 x136003 x136004 x136005) else (none))) else (none)) else (none))) else (none)) else (jacquardref03_Print.l1 k x3 x4 (wrap64 (x6 + 1)) x133000 x133001 x136000 x136001 x136002 x136003 x136004 x136005)) else (none)) else (none)
def jacquardref03_Print.l3 : Nat → ByteArray → Int → Int → Int → List (S52) → List (S76) → List (S46) → Int → List Int → List Int → Int → Option (ByteArray)
  | 0, _, _, _, _, _, _, _, _, _, _, _ => none
  | k + 1, x3, x4, x8, x133000, x133001, x136000, x136001, x136002, x136003, x136004, x136005 => if x8 < (x136001.length : Int) then (if x3.size + 1 ≤ 9223372036854775807 then (if 0 ≤ x8 then ((jacquardref03_digits.f k ((rd_T46 x136001 x8).f0)).bind fun t146 => (if (x3 ++ (⟨#[59]⟩ : ByteArray)).size + t146.size ≤ 9223372036854775807 then ((jacquardref03_digits.f k ((rd_T46 x136001 x8).f1)).bind fun t148 => (if ((x3 ++ (⟨#[59]⟩ : ByteArray)) ++ t146).size + t148.size ≤ 9223372036854775807 then ((jacquardref03_digits.f k ((rd_T46 x136001 x8).f2)).bind fun t150 => (if (((x3 ++ (⟨#[59]⟩ : ByteArray)) ++ t146) ++ t148).size + t150.size ≤ 9223372036854775807 then ((jacquardref03_row.f k ((rd_T46 x136001 x8).f3)).bind fun t152 => (if ((((x3 ++ (⟨#[59]⟩ : ByteArray)) ++ t146) ++ t148) ++ t150).size + t152.size ≤ 9223372036854775807 then ((jacquardref03_digits.f k (wrap64 ((rd_T46 x136001 x8).f4))).bind fun t154 => (if (((((x3 ++ (⟨#[59]⟩ : ByteArray)) ++ t146) ++ t148) ++ t150) ++ t152).size + t154.size ≤ 9223372036854775807 then (jacquardref03_Print.l3 k ((((((x3 ++ (⟨#[59]⟩ : ByteArray)) ++ t146) ++ t148) ++ t150) ++ t152) ++ t154) x4 (wrap64 (x8 + 1)) x133000 x133001 x136000 x136001 x136002 x136003 x136004 x136005) else (none))) else (none))) else (none))) else (none))) else (none))) else (none)) else (none)) else (if x3.size + 1 ≤ 9223372036854775807 then ((jacquardref03_digits.f k x136002).bind fun t155 => (if (x3 ++ (⟨#[124]⟩ : ByteArray)).size + t155.size ≤ 9223372036854775807 then ((jacquardref03_row.f k x136003).bind fun t156 => (if ((x3 ++ (⟨#[124]⟩ : ByteArray)) ++ t155).size + t156.size ≤ 9223372036854775807 then ((jacquardref03_row.f k x136004).bind fun t157 => (if (((x3 ++ (⟨#[124]⟩ : ByteArray)) ++ t155) ++ t156).size + t157.size ≤ 9223372036854775807 then ((jacquardref03_digits.f k (wrap64 (x136005))).bind fun t158 => (if ((((x3 ++ (⟨#[124]⟩ : ByteArray)) ++ t155) ++ t156) ++ t157).size + t158.size ≤ 9223372036854775807 then (jacquardref03_Print.l0 k (((((x3 ++ (⟨#[124]⟩ : ByteArray)) ++ t155) ++ t156) ++ t157) ++ t158) (wrap64 (x4 + 1)) x133000 x133001) else (none))) else (none))) else (none))) else (none))) else (none))
end
def jacquardref03_Print.f (k : Nat) (a0_0 : Int) (l0_1 : List (S52)) : Option (ByteArray) := (jacquardref03_digits.f k a0_0).bind fun t133 => (jacquardref03_Print.l0 k t133 0 a0_0 l0_1)
theorem jacquardref03_Print.mono_l : ∀ k, (∀ y0 y1 y2 y3, LeO (jacquardref03_Print.l0 k y0 y1 y2 y3) (jacquardref03_Print.l0 (k + 1) y0 y1 y2 y3)) ∧ (∀ y0 y1 y2 y3 y4 y5 y6 y7 y8 y9 y10, LeO (jacquardref03_Print.l1 k y0 y1 y2 y3 y4 y5 y6 y7 y8 y9 y10) (jacquardref03_Print.l1 (k + 1) y0 y1 y2 y3 y4 y5 y6 y7 y8 y9 y10)) ∧ (∀ y0 y1 y2 y3 y4 y5 y6 y7 y8 y9 y10 y11, LeO (jacquardref03_Print.l2 k y0 y1 y2 y3 y4 y5 y6 y7 y8 y9 y10 y11) (jacquardref03_Print.l2 (k + 1) y0 y1 y2 y3 y4 y5 y6 y7 y8 y9 y10 y11)) ∧ (∀ y0 y1 y2 y3 y4 y5 y6 y7 y8 y9 y10, LeO (jacquardref03_Print.l3 k y0 y1 y2 y3 y4 y5 y6 y7 y8 y9 y10) (jacquardref03_Print.l3 (k + 1) y0 y1 y2 y3 y4 y5 y6 y7 y8 y9 y10))
  | 0 => ⟨fun _ _ _ _ r h => by simp [jacquardref03_Print.l0] at h, fun _ _ _ _ _ _ _ _ _ _ _ r h => by simp [jacquardref03_Print.l1] at h, fun _ _ _ _ _ _ _ _ _ _ _ _ r h => by simp [jacquardref03_Print.l2] at h, fun _ _ _ _ _ _ _ _ _ _ _ r h => by simp [jacquardref03_Print.l3] at h⟩
  | k + 1 => by
    obtain ⟨ih0, ih1, ih2, ih3⟩ := jacquardref03_Print.mono_l k
    refine ⟨?_, ?_, ?_, ?_⟩
    · intro y0 y1 y2 y3
      unfold jacquardref03_Print.l0
      repeat' first
      | (with_reducible exact ih0 _ _ _ _)
      | (with_reducible exact ih1 _ _ _ _ _ _ _ _ _ _ _)
      | (with_reducible exact ih2 _ _ _ _ _ _ _ _ _ _ _ _)
      | (with_reducible exact ih3 _ _ _ _ _ _ _ _ _ _ _)
      | (with_reducible exact jacquardref03_digits.mono _ _)
      | (with_reducible exact jacquardref03_row.mono _ _)
      | (with_reducible exact LeO.refl _)
      | (with_reducible exact LeO.none _)
      | (with_reducible refine LeO.ite ?_ ?_)
      | (with_reducible refine LeO.bind ?_ (fun _ => ?_))
      | exact ih0 _ _ _ _
      | exact ih1 _ _ _ _ _ _ _ _ _ _ _
      | exact ih2 _ _ _ _ _ _ _ _ _ _ _ _
      | exact ih3 _ _ _ _ _ _ _ _ _ _ _
      | exact jacquardref03_digits.mono _ _
      | exact jacquardref03_row.mono _ _
      | exact LeO.none _
      | refine LeO.ite ?_ ?_
      | refine LeO.bind ?_ (fun _ => ?_)
    · intro y0 y1 y2 y3 y4 y5 y6 y7 y8 y9 y10
      unfold jacquardref03_Print.l1
      repeat' first
      | (with_reducible exact ih0 _ _ _ _)
      | (with_reducible exact ih1 _ _ _ _ _ _ _ _ _ _ _)
      | (with_reducible exact ih2 _ _ _ _ _ _ _ _ _ _ _ _)
      | (with_reducible exact ih3 _ _ _ _ _ _ _ _ _ _ _)
      | (with_reducible exact jacquardref03_digits.mono _ _)
      | (with_reducible exact jacquardref03_row.mono _ _)
      | (with_reducible exact LeO.refl _)
      | (with_reducible exact LeO.none _)
      | (with_reducible refine LeO.ite ?_ ?_)
      | (with_reducible refine LeO.bind ?_ (fun _ => ?_))
      | exact ih0 _ _ _ _
      | exact ih1 _ _ _ _ _ _ _ _ _ _ _
      | exact ih2 _ _ _ _ _ _ _ _ _ _ _ _
      | exact ih3 _ _ _ _ _ _ _ _ _ _ _
      | exact jacquardref03_digits.mono _ _
      | exact jacquardref03_row.mono _ _
      | exact LeO.none _
      | refine LeO.ite ?_ ?_
      | refine LeO.bind ?_ (fun _ => ?_)
    · intro y0 y1 y2 y3 y4 y5 y6 y7 y8 y9 y10 y11
      unfold jacquardref03_Print.l2
      repeat' first
      | (with_reducible exact ih0 _ _ _ _)
      | (with_reducible exact ih1 _ _ _ _ _ _ _ _ _ _ _)
      | (with_reducible exact ih2 _ _ _ _ _ _ _ _ _ _ _ _)
      | (with_reducible exact ih3 _ _ _ _ _ _ _ _ _ _ _)
      | (with_reducible exact jacquardref03_digits.mono _ _)
      | (with_reducible exact jacquardref03_row.mono _ _)
      | (with_reducible exact LeO.refl _)
      | (with_reducible exact LeO.none _)
      | (with_reducible refine LeO.ite ?_ ?_)
      | (with_reducible refine LeO.bind ?_ (fun _ => ?_))
      | exact ih0 _ _ _ _
      | exact ih1 _ _ _ _ _ _ _ _ _ _ _
      | exact ih2 _ _ _ _ _ _ _ _ _ _ _ _
      | exact ih3 _ _ _ _ _ _ _ _ _ _ _
      | exact jacquardref03_digits.mono _ _
      | exact jacquardref03_row.mono _ _
      | exact LeO.none _
      | refine LeO.ite ?_ ?_
      | refine LeO.bind ?_ (fun _ => ?_)
    · intro y0 y1 y2 y3 y4 y5 y6 y7 y8 y9 y10
      unfold jacquardref03_Print.l3
      repeat' first
      | (with_reducible exact ih0 _ _ _ _)
      | (with_reducible exact ih1 _ _ _ _ _ _ _ _ _ _ _)
      | (with_reducible exact ih2 _ _ _ _ _ _ _ _ _ _ _ _)
      | (with_reducible exact ih3 _ _ _ _ _ _ _ _ _ _ _)
      | (with_reducible exact jacquardref03_digits.mono _ _)
      | (with_reducible exact jacquardref03_row.mono _ _)
      | (with_reducible exact LeO.refl _)
      | (with_reducible exact LeO.none _)
      | (with_reducible refine LeO.ite ?_ ?_)
      | (with_reducible refine LeO.bind ?_ (fun _ => ?_))
      | exact ih0 _ _ _ _
      | exact ih1 _ _ _ _ _ _ _ _ _ _ _
      | exact ih2 _ _ _ _ _ _ _ _ _ _ _ _
      | exact ih3 _ _ _ _ _ _ _ _ _ _ _
      | exact jacquardref03_digits.mono _ _
      | exact jacquardref03_row.mono _ _
      | exact LeO.none _
      | refine LeO.ite ?_ ?_
      | refine LeO.bind ?_ (fun _ => ?_)
theorem jacquardref03_Print.mono : ∀ a0 a1 k, LeO (jacquardref03_Print.f k a0 a1) (jacquardref03_Print.f (k + 1) a0 a1) := by
  intro a0 a1 k
  obtain ⟨ih0, ih1, ih2, ih3⟩ := jacquardref03_Print.mono_l k
  unfold jacquardref03_Print.f
  repeat' first
      | (with_reducible exact ih0 _ _ _ _)
      | (with_reducible exact ih1 _ _ _ _ _ _ _ _ _ _ _)
      | (with_reducible exact ih2 _ _ _ _ _ _ _ _ _ _ _ _)
      | (with_reducible exact ih3 _ _ _ _ _ _ _ _ _ _ _)
      | (with_reducible exact jacquardref03_digits.mono _ _)
      | (with_reducible exact jacquardref03_row.mono _ _)
      | (with_reducible exact LeO.refl _)
      | (with_reducible exact LeO.none _)
      | (with_reducible refine LeO.ite ?_ ?_)
      | (with_reducible refine LeO.bind ?_ (fun _ => ?_))
      | exact ih0 _ _ _ _
      | exact ih1 _ _ _ _ _ _ _ _ _ _ _
      | exact ih2 _ _ _ _ _ _ _ _ _ _ _ _
      | exact ih3 _ _ _ _ _ _ _ _ _ _ _
      | exact jacquardref03_digits.mono _ _
      | exact jacquardref03_row.mono _ _
      | exact LeO.none _
      | refine LeO.ite ?_ ?_
      | refine LeO.bind ?_ (fun _ => ?_)
def jacquardref03_Print.T14 : Bool × List (List Nat × List Nat) := (true, [([], []), ([], []), ([1], [1]), ([], []), ([2, 3], [2, 3]), ([4], [4]), ([5], [5]), ([], []), ([6, 7], [6, 7]), ([8], [8]), ([9], [9]), ([10], [10]), ([0, 11], [0, 11]), ([12], [12]), ([], []), ([14], [14]), ([], []), ([15, 16], [15, 16]), ([17], [17]), ([18], [18]), ([], []), ([19, 20], [19, 20]), ([21], [21]), ([22], [22]), ([23, 11], [23]), ([13, 24], [13, 24]), ([25, 24, 0, 1, 2, 3, 4, 5, 6, 7, 8, 9, 10, 11, 12, 13, 14, 15, 16, 17, 18, 19, 20, 21, 22, 23, 24, 25], [0, 25])])
def jacquardref03_Print.B14 : List Nat := [0, 0, 2, 0, 14, 30, 62, 0, 254, 510, 1022, 2046, 4095, 8191, 0, 16384, 0, 114688, 245760, 507904, 0, 2080768, 4177920, 8372224, 16764926, 33554431, 67108863]
theorem jacquardref03_Print.tab14 : rtab .any (opsOf Tryd.f25 14) = jacquardref03_Print.T14 := by kernel_rfl
theorem jacquardref03_Print.bits14 : waitsOk jacquardref03_Print.T14.2 jacquardref03_Print.B14 = true := by kernel_rfl
def jacquardref03_Print.T18 : Bool × List (List Nat × List Nat) := (true, [([], []), ([0], [0]), ([], []), ([2], [2]), ([], []), ([3, 4], [3, 4]), ([5], [5]), ([6], [6]), ([7], [7]), ([1, 8], [1, 8]), ([], []), ([10], [10]), ([], []), ([11, 12], [11, 12]), ([13], [13]), ([14], [14]), ([15, 8], [15]), ([9, 16], [9, 16]), ([], []), ([18], [18]), ([], []), ([19, 20], [19, 20]), ([21], [21]), ([22], [22]), ([23, 16], [23]), ([17, 24], [17, 24]), ([], []), ([26], [26]), ([], []), ([27, 28], [27, 28]), ([29], [29]), ([30], [30]), ([31, 24], [31]), ([25, 32], [25, 32]), ([], []), ([34], [34]), ([], []), ([35, 36], [35, 36]), ([37], [37]), ([38], [38]), ([39], [39]), ([40, 32], [40]), ([33, 41], [33, 41]), ([42, 41, 0, 1, 2, 3, 4, 5, 6, 7, 8, 9, 10, 11, 12, 13, 14, 15, 16, 17, 18, 19, 20, 21, 22, 23, 24, 25, 26, 27, 28, 29, 30, 31, 32, 33, 34, 35, 36, 37, 38, 39, 40, 41, 42], [0, 42])])
def jacquardref03_Print.B18 : List Nat := [0, 1, 0, 4, 0, 28, 60, 124, 252, 511, 0, 1024, 0, 7168, 15360, 31744, 65020, 131071, 0, 262144, 0, 1835008, 3932160, 8126464, 16645628, 33554431, 0, 67108864, 0, 469762048, 1006632960, 2080374784, 4261281276, 8589934591, 0, 17179869184, 0, 120259084288, 257698037760, 532575944704, 1082331758592, 2190399634940, 4398046511103, 8796093022207]
theorem jacquardref03_Print.tab18 : rtab .any (opsOf Tryd.f25 18) = jacquardref03_Print.T18 := by kernel_rfl
theorem jacquardref03_Print.bits18 : waitsOk jacquardref03_Print.T18.2 jacquardref03_Print.B18 = true := by kernel_rfl
def jacquardref03_Print.T19 : Bool × List (List Nat × List Nat) := (true, [([], []), ([0], [0]), ([], []), ([2], [2]), ([3], [3]), ([4], [4]), ([1, 5], [1, 5]), ([], []), ([7], [7]), ([8], [8]), ([9, 5], [9]), ([6, 10], [6, 10]), ([], []), ([12], [12]), ([13], [13]), ([14, 10], [14]), ([11, 15], [11, 15]), ([], []), ([17], [17]), ([18], [18]), ([19], [19]), ([20, 15], [20]), ([16, 21], [16, 21]), ([22, 21, 0, 1, 2, 3, 4, 5, 6, 7, 8, 9, 10, 11, 12, 13, 14, 15, 16, 17, 18, 19, 20, 21, 22], [0, 22])])
def jacquardref03_Print.B19 : List Nat := [0, 1, 0, 4, 12, 28, 63, 0, 128, 384, 956, 2047, 0, 4096, 12288, 30652, 65535, 0, 131072, 393216, 917504, 2029500, 4194303, 8388607]
theorem jacquardref03_Print.tab19 : rtab .any (opsOf Tryd.f25 19) = jacquardref03_Print.T19 := by kernel_rfl
theorem jacquardref03_Print.bits19 : waitsOk jacquardref03_Print.T19.2 jacquardref03_Print.B19 = true := by kernel_rfl
set_option maxHeartbeats 8000000 in
set_option maxRecDepth 100000 in
theorem jacquardref03_Print.calls (k : Nat) (a0_0 : Int) (A0_1 : Option Addr) (c0_1 : Nat) (l0_1 : List (S52)) (r : ByteArray) (w : World) (hr0_1 : Kd.C k52 w A0_1 l0_1.length l0_1) (hc0_1 : l0_1.length ≤ c0_1) (h : jacquardref03_Print.f k a0_0 l0_1 = some r) :
    Calls Tryd.prog 25 #[.agg #[.int .i64 a0_0, .slice A0_1 l0_1.length c0_1]] w fun e w' => e = .returned (.string r) ∧ Below w.heap.size w w' := by
  have hu28 := Tryd.underlying28
  have hu52 := Tryd.underlying52
  have HR0_1 := Aside0.mk hr0_1
  have HC0_1 := Aside0.mk hc0_1
  clear hr0_1 hc0_1
  have HB := Aside0.mk (Below.refl w.heap.size w)
  have H : ((jacquardref03_digits.f k a0_0).bind fun t133 => (jacquardref03_Print.l0 k t133 0 a0_0 l0_1)) = some r := h
  clear h
  replace H := Option.bind_eq_some_iff.mp H
  obtain ⟨t133, A20, H⟩ := H
  replace H : (jacquardref03_Print.l0 k t133 0 a0_0 l0_1) = some r := H
  have A2 := Aside0.mk A20
  clear A20
  have H' := Aside0.mk H
  clear H
  go_enter Tryd.func25, Tryd.ntmps25
  go_wp2_with (first | ((with_reducible refine gate_dst (N := 1) rfl ?_); refine box_event ?hg (N := 1) ?hd (cs := #[.int .i64 a0_0, .slice A0_1 l0_1.length c0_1]) (t := 28) ?hr ?_; (case hd => rfl); (case hg => rfl); (case hr => first | (go_simp; done) | (go_simp; rfl)); intro gb132 hg w3 hbox hb; have n0_ := Aside0.mk (below_step (by repeat (first | (with_reducible first | exact HB.out | apply below_alloc | apply pw_below_drewN | apply below_drew1) | exact HB.out)) hb); have n1_ := Aside0.mk (hbox); have n2_ := Aside0.mk ((by rw [hg]; exact (below_size (by repeat (first | (with_reducible first | exact HB.out | apply below_alloc | apply pw_below_drewN | apply below_drew1) | exact HB.out))) : w.heap.size ≤ gb132)); have n3_ := Aside0.mk ((by rw [hg]; exact (below_size (by repeat (first | (with_reducible first | exact HB.out | apply below_alloc | apply pw_below_drewN | apply below_drew1) | exact HB.out))) : w.heap.size ≤ gb132)); clear HB; have HB := n0_; have BK132 := n1_; have GW132 := n2_; have GE132 := n3_; clear n0_ n1_ n2_ n3_; clear hb hbox hg; have hcz4_0 : w3.cell? ⟨gb132, 0, none⟩ = some (.int .i64 a0_0) := (blk_cell BK132.out 0).trans rfl; have hcz4_1 : w3.cell? ⟨gb132, 1, none⟩ = some (.slice A0_1 l0_1.length c0_1) := (blk_cell BK132.out 1).trans rfl; have hfz4_0 := blk_frozen BK132.out 0; have hfz4_1 := blk_frozen BK132.out 1) | ((with_reducible refine gate_callee (f := 46) rfl ?_); refine goesL_ (some 11) rfl rfl Tryd.func46 (by kernel_rfl) rfl #[.int .i64 a0_0] rfl (by (try simp only [List.map_toArray, List.map_cons, List.map_nil]); first | done | rfl | (simp only [List.length_drop, List.length_take]; rfl)) ?_; (with_reducible refine (jacquardref03_digits.calls k a0_0 t133 _ A2.out).mono ?_); rintro e w5 ⟨rfl, hb⟩; refine ⟨_, rfl, ?_⟩; have n0_ := Aside0.mk (blk_below (g := gb132) (o := .cells #[.int .i64 a0_0, .slice A0_1 l0_1.length c0_1] 28 (0, 0)) (by (with_reducible repeat (first | refine blk_drewN ?_ _ | refine blk_drew ?_ | refine blk_alloc ?_ _)); exact BK132.out) hb); have n1_ := Aside0.mk (below_step (by repeat (first | (with_reducible first | exact HB.out | apply below_alloc | apply pw_below_drewN | apply below_drew1 | refine below_set ?_ GE132.out) | exact HB.out)) hb); clear BK132; clear HB; have BK132 := n0_; have HB := n1_; clear n0_ n1_; (try clear hb); (try clear hb2); (try clear hk); (try clear hi)))
  go_loopg [3, 4] k (fun kq v3 v4 w' => ∃ (x3_1 : ByteArray) (x4_1 : Int), v3 = .string x3_1 ∧ v4 = .int .i64 x4_1 ∧ Aside0 (jacquardref03_Print.l0 kq x3_1 x4_1 a0_0 l0_1 = some r) ∧ Aside0 (kq ≤ k) ∧ Aside0 (w'.heap[gb132]? = some (.cells #[.int .i64 a0_0, (.slice A0_1 l0_1.length c0_1)] 28 (0, 0))) ∧ Aside0 (Below w.heap.size w w'))
  case atStart => exact ⟨(t133), (0), (by first | rfl | (simp; done) | (simp [*]; done)), (by first | rfl | (simp; done) | (simp [*]; done)), H', ⟨Nat.le_refl _⟩, ⟨by (with_reducible repeat (first | refine blk_drewN ?_ _ | refine blk_drew ?_ | refine blk_alloc ?_ _)); exact BK132.out⟩, ⟨by repeat (first | (with_reducible first | exact HB.out | apply below_alloc | apply pw_below_drewN | apply below_drew1 | refine below_set ?_ GE132.out) | exact HB.out)⟩⟩
  case round =>
    clear H'
    try clear c2
    try clear p2
    try clear c4
    try clear hcz4_0
    try clear hcz4_1
    try clear hfz4_0
    try clear hfz4_1
    obtain ⟨x3_1, x4_1, rfl, rfl, HA, HK1, BK132, HB⟩ := hrel
    cases gk with
    | zero => exact absurd HA.out (by simp [jacquardref03_Print.l0])
    | succ k1 =>
      have H := HA.out
      clear HA
      simp only [jacquardref03_Print.l0] at H
      by_cases c6 : x4_1 < (l0_1.length : Int)
      · rw [if_pos c6] at H
        have c6b0 : decide (x4_1 < (l0_1.length : Int)) = true := decide_eq_true c6
        clear c6
        by_cases c7 : 0 ≤ x4_1
        · rw [if_pos c7] at H
          have c7b0 : decide (0 ≤ x4_1) = true := decide_eq_true c7
          clear c7
          by_cases c8 : x3_1.size + 1 ≤ 9223372036854775807
          · rw [if_pos c8] at H
            have c8b0 := eq_true c8
            have c8b1 : decide (x3_1.size + 1 ≤ 9223372036854775807) = true := decide_eq_true c8
            try have c8b2 : (9223372036854775807 < x3_1.size + 1) = False := eq_false (Nat.not_lt.2 c8)
            have H' := Aside0.mk H
            clear H
            have hcz9_0 : wr.cell? ⟨gb132, 0, none⟩ = some (.int .i64 a0_0) := (blk_cell BK132.out 0).trans rfl
            have hcz9_1 : wr.cell? ⟨gb132, 1, none⟩ = some (.slice A0_1 l0_1.length c0_1) := (blk_cell BK132.out 1).trans rfl
            have hfz9_0 := blk_frozen BK132.out 0
            have hfz9_1 := blk_frozen BK132.out 1
            have p134 : 0 ≤ (x4_1 : Int) := of_decide_eq_true (by first | (with_reducible assumption) | assumption)
            have q134 : x4_1 < (l0_1.length : Int) := of_decide_eq_true (by first | (with_reducible assumption) | assumption)
            obtain ⟨ad134, A134_0, c134_0, A134_1, c134_1, A134_3, c134_3, A134_4, c134_4, e134, hx134_0, hx134_1, hx134_2, hx134_3, hx134_4, hx134_5, hl134_0, hi134_0, hl134_1, hi134_1, hl134_3, hi134_3, hl134_4, hi134_4⟩ := at_T52 HR0_1.out x4_1 p134 q134
            cases e134
            replace hx134_0 := (HB.out.cell (World.block_lt_of_cell? w _ hx134_0)).trans hx134_0
            replace hx134_1 := (HB.out.cell (World.block_lt_of_cell? w _ hx134_1)).trans hx134_1
            replace hx134_2 := (HB.out.cell (World.block_lt_of_cell? w _ hx134_2)).trans hx134_2
            replace hx134_3 := (HB.out.cell (World.block_lt_of_cell? w _ hx134_3)).trans hx134_3
            replace hx134_4 := (HB.out.cell (World.block_lt_of_cell? w _ hx134_4)).trans hx134_4
            replace hx134_5 := (HB.out.cell (World.block_lt_of_cell? w _ hx134_5)).trans hx134_5
            have HR134_0 := Aside0.mk hi134_0
            have HC134_0 := Aside0.mk hl134_0
            clear hi134_0 hl134_0
            have HR134_1 := Aside0.mk hi134_1
            have HC134_1 := Aside0.mk hl134_1
            clear hi134_1 hl134_1
            have HR134_3 := Aside0.mk hi134_3
            have HC134_3 := Aside0.mk hl134_3
            clear hi134_3 hl134_3
            have HR134_4 := Aside0.mk hi134_4
            have HC134_4 := Aside0.mk hl134_4
            clear hi134_4 hl134_4
            replace p134 := eq_true p134
            replace q134 := eq_true q134
            go_wp2_with (first | ((with_reducible refine gate_dst (N := 5) rfl ?_); refine box_event ?hg (N := 5) ?hd (cs := #[.slice none 0 0, .slice none 0 0, .int .i64 0, .slice none 0 0, .slice none 0 0, .int .i32 0]) (t := 52) ?hr ?_; (case hd => rfl); (case hg => rfl); (case hr => first | (go_simp; done) | (go_simp; rfl)); intro gb135 hg w10 hbox hb; have n0_ := Aside0.mk (blk_below (g := gb132) (o := .cells #[.int .i64 a0_0, .slice (some ad134) l0_1.length c0_1] 28 (0, 0)) (by (with_reducible repeat (first | refine blk_drewN ?_ _ | refine blk_drew ?_ | refine blk_alloc ?_ _)); exact BK132.out) hb); have n1_ := Aside0.mk (below_step (by repeat (first | (with_reducible first | exact HB.out | apply below_alloc | apply pw_below_drewN | apply below_drew1 | refine below_set ?_ GE132.out) | exact HB.out)) hb); have n2_ := Aside0.mk (hbox); have n3_ := Aside0.mk ((by rw [hg]; exact (below_size (by repeat (first | (with_reducible first | exact HB.out | apply below_alloc | apply pw_below_drewN | apply below_drew1 | refine below_set ?_ GE132.out) | exact HB.out))) : w.heap.size ≤ gb135)); have n4_ := Aside0.mk ((by rw [hg]; exact (below_size (by repeat (first | (with_reducible first | exact HB.out | apply below_alloc | apply pw_below_drewN | apply below_drew1 | refine below_set ?_ GE132.out) | exact HB.out))) : w.heap.size ≤ gb135)); have n5_ := Aside0.mk ((by rw [hg]; exact Nat.ne_of_lt (blk_lt (g := gb132) (o := .cells #[.int .i64 a0_0, .slice (some ad134) l0_1.length c0_1] 28 (0, 0)) (by (with_reducible repeat (first | refine blk_drewN ?_ _ | refine blk_drew ?_ | refine blk_alloc ?_ _)); exact BK132.out)) : gb132 ≠ gb135)); have n6_ := Aside0.mk ((by rw [hg]; exact Nat.ne_of_gt (blk_lt (g := gb132) (o := .cells #[.int .i64 a0_0, .slice (some ad134) l0_1.length c0_1] 28 (0, 0)) (by (with_reducible repeat (first | refine blk_drewN ?_ _ | refine blk_drew ?_ | refine blk_alloc ?_ _)); exact BK132.out)) : gb135 ≠ gb132)); clear BK132; clear HB; have BK132 := n0_; have HB := n1_; have BK135 := n2_; have GW135 := n3_; have GE135 := n4_; have NB132_135 := n5_; have NB135_132 := n6_; clear n0_ n1_ n2_ n3_ n4_ n5_ n6_; clear hb hbox hg; have hnb11 := NB135_132.out; have hnc11 := NB132_135.out; have hcz12_0 : w10.cell? ⟨gb135, 0, none⟩ = some (.slice none 0 0) := (blk_cell BK135.out 0).trans rfl; have hcz12_1 : w10.cell? ⟨gb135, 1, none⟩ = some (.slice none 0 0) := (blk_cell BK135.out 1).trans rfl; have hcz12_2 : w10.cell? ⟨gb135, 2, none⟩ = some (.int .i64 0) := (blk_cell BK135.out 2).trans rfl; have hcz12_3 : w10.cell? ⟨gb135, 3, none⟩ = some (.slice none 0 0) := (blk_cell BK135.out 3).trans rfl; have hcz12_4 : w10.cell? ⟨gb135, 4, none⟩ = some (.slice none 0 0) := (blk_cell BK135.out 4).trans rfl; have hcz12_5 : w10.cell? ⟨gb135, 5, none⟩ = some (.int .i32 0) := (blk_cell BK135.out 5).trans rfl; have hfz12_0 := blk_frozen BK135.out 0; have hfz12_1 := blk_frozen BK135.out 1; have hfz12_2 := blk_frozen BK135.out 2; have hfz12_3 := blk_frozen BK135.out 3; have hfz12_4 := blk_frozen BK135.out 4; have hfz12_5 := blk_frozen BK135.out 5))
            go_loopg [3, 6] k1 (fun kq v3 v6 w' => ∃ (x3_2 : ByteArray) (x6_2 : Int), v3 = .string x3_2 ∧ v6 = .int .i64 x6_2 ∧ Aside0 (jacquardref03_Print.l1 kq x3_2 x4_1 x6_2 a0_0 l0_1 ((rd_T52 l0_1 x4_1).f0) ((rd_T52 l0_1 x4_1).f1) ((rd_T52 l0_1 x4_1).f2.f0) ((rd_T52 l0_1 x4_1).f2.f1) ((rd_T52 l0_1 x4_1).f2.f2) ((rd_T52 l0_1 x4_1).f2.f3) = some r) ∧ Aside0 (kq ≤ k1) ∧ Aside0 (w'.heap[gb132]? = some (.cells #[.int .i64 a0_0, (.slice (some ad134) l0_1.length c0_1)] 28 (0, 0))) ∧ Aside0 (w'.heap[gb135]? = some (.cells #[(.slice A134_0 ((rd_T52 l0_1 x4_1).f0).length c134_0), (.slice A134_1 ((rd_T52 l0_1 x4_1).f1).length c134_1), .int .i64 ((rd_T52 l0_1 x4_1).f2.f0), (.slice A134_3 ((rd_T52 l0_1 x4_1).f2.f1).length c134_3), (.slice A134_4 ((rd_T52 l0_1 x4_1).f2.f2).length c134_4), .int .i32 ((rd_T52 l0_1 x4_1).f2.f3)] 52 (0, 0))) ∧ Aside0 (Below w.heap.size w w'))
            case atStart => exact ⟨(x3_1 ++ (⟨#[10]⟩ : ByteArray)), (0), (by first | rfl | (simp; done) | (simp [*]; done)), (by first | rfl | (simp; done) | (simp [*]; done)), H', ⟨Nat.le_refl _⟩, ⟨by (with_reducible repeat (first | refine blk_drewN ?_ _ | refine blk_drew ?_ | refine blk_alloc ?_ _)); refine blk_far ?_ NB132_135.out _; (with_reducible repeat (first | refine blk_drewN ?_ _ | refine blk_drew ?_ | refine blk_alloc ?_ _)); refine blk_far ?_ NB132_135.out _; (with_reducible repeat (first | refine blk_drewN ?_ _ | refine blk_drew ?_ | refine blk_alloc ?_ _)); refine blk_far ?_ NB132_135.out _; (with_reducible repeat (first | refine blk_drewN ?_ _ | refine blk_drew ?_ | refine blk_alloc ?_ _)); refine blk_far ?_ NB132_135.out _; (with_reducible repeat (first | refine blk_drewN ?_ _ | refine blk_drew ?_ | refine blk_alloc ?_ _)); refine blk_far ?_ NB132_135.out _; (with_reducible repeat (first | refine blk_drewN ?_ _ | refine blk_drew ?_ | refine blk_alloc ?_ _)); refine blk_far ?_ NB132_135.out _; (with_reducible repeat (first | refine blk_drewN ?_ _ | refine blk_drew ?_ | refine blk_alloc ?_ _)); exact BK132.out⟩, ⟨by (with_reducible repeat (first | refine blk_drewN ?_ _ | refine blk_drew ?_ | refine blk_alloc ?_ _)); refine blk_put (cs := #[.slice A134_0 ((rd_T52 l0_1 x4_1).f0).length c134_0, .slice A134_1 ((rd_T52 l0_1 x4_1).f1).length c134_1, .int .i64 ((rd_T52 l0_1 x4_1).f2.f0), .slice A134_3 ((rd_T52 l0_1 x4_1).f2.f1).length c134_3, .slice A134_4 ((rd_T52 l0_1 x4_1).f2.f2).length c134_4, .int .i32 0]) ?_ 5 _ rfl; (with_reducible repeat (first | refine blk_drewN ?_ _ | refine blk_drew ?_ | refine blk_alloc ?_ _)); refine blk_put (cs := #[.slice A134_0 ((rd_T52 l0_1 x4_1).f0).length c134_0, .slice A134_1 ((rd_T52 l0_1 x4_1).f1).length c134_1, .int .i64 ((rd_T52 l0_1 x4_1).f2.f0), .slice A134_3 ((rd_T52 l0_1 x4_1).f2.f1).length c134_3, .slice none 0 0, .int .i32 0]) ?_ 4 _ rfl; (with_reducible repeat (first | refine blk_drewN ?_ _ | refine blk_drew ?_ | refine blk_alloc ?_ _)); refine blk_put (cs := #[.slice A134_0 ((rd_T52 l0_1 x4_1).f0).length c134_0, .slice A134_1 ((rd_T52 l0_1 x4_1).f1).length c134_1, .int .i64 ((rd_T52 l0_1 x4_1).f2.f0), .slice none 0 0, .slice none 0 0, .int .i32 0]) ?_ 3 _ rfl; (with_reducible repeat (first | refine blk_drewN ?_ _ | refine blk_drew ?_ | refine blk_alloc ?_ _)); refine blk_put (cs := #[.slice A134_0 ((rd_T52 l0_1 x4_1).f0).length c134_0, .slice A134_1 ((rd_T52 l0_1 x4_1).f1).length c134_1, .int .i64 0, .slice none 0 0, .slice none 0 0, .int .i32 0]) ?_ 2 _ rfl; (with_reducible repeat (first | refine blk_drewN ?_ _ | refine blk_drew ?_ | refine blk_alloc ?_ _)); refine blk_put (cs := #[.slice A134_0 ((rd_T52 l0_1 x4_1).f0).length c134_0, .slice none 0 0, .int .i64 0, .slice none 0 0, .slice none 0 0, .int .i32 0]) ?_ 1 _ rfl; (with_reducible repeat (first | refine blk_drewN ?_ _ | refine blk_drew ?_ | refine blk_alloc ?_ _)); refine blk_put (cs := #[.slice none 0 0, .slice none 0 0, .int .i64 0, .slice none 0 0, .slice none 0 0, .int .i32 0]) ?_ 0 _ rfl; (with_reducible repeat (first | refine blk_drewN ?_ _ | refine blk_drew ?_ | refine blk_alloc ?_ _)); exact BK135.out⟩, ⟨by repeat (first | (with_reducible first | exact HB.out | apply below_alloc | apply pw_below_drewN | apply below_drew1 | refine below_set ?_ GE132.out | refine below_set ?_ GE135.out) | exact HB.out)⟩⟩
            case round =>
              clear H'
              try clear c1
              try clear p1
              try clear q1
              try clear hx1
              try clear c2
              try clear p2
              try clear c4
              try clear c6
              try clear c6b0
              try clear c7
              try clear c7b0
              try clear c8
              try clear c8b0
              try clear c8b1
              try clear c8b2
              try clear c11
              try clear hcz12_0
              try clear hcz12_1
              try clear hcz12_2
              try clear hcz12_3
              try clear hcz12_4
              try clear hcz12_5
              try clear hcz4_0
              try clear hcz4_1
              try clear hcz9_0
              try clear hcz9_1
              try clear hfz12_0
              try clear hfz12_1
              try clear hfz12_2
              try clear hfz12_3
              try clear hfz12_4
              try clear hfz12_5
              try clear hfz4_0
              try clear hfz4_1
              try clear hfz9_0
              try clear hfz9_1
              try clear hx134_0
              try clear hx134_1
              try clear hx134_2
              try clear hx134_3
              try clear hx134_4
              try clear hx134_5
              try clear p134
              try clear p2
              try clear q134
              obtain ⟨x3_2, x6_2, rfl, rfl, HA, HK2, BK132, BK135, HB⟩ := hrel
              cases gk with
              | zero => exact absurd HA.out (by simp [jacquardref03_Print.l1])
              | succ k2 =>
                have H := HA.out
                clear HA
                simp only [jacquardref03_Print.l1] at H
                by_cases c13 : x6_2 < (((rd_T52 l0_1 x4_1).f0).length : Int)
                · rw [if_pos c13] at H
                  have c13b0 : decide (x6_2 < (((rd_T52 l0_1 x4_1).f0).length : Int)) = true := decide_eq_true c13
                  clear c13
                  by_cases c14 : x3_2.size + 4 ≤ 9223372036854775807
                  · rw [if_pos c14] at H
                    have c14b0 := eq_true c14
                    have c14b1 : decide (x3_2.size + 4 ≤ 9223372036854775807) = true := decide_eq_true c14
                    try have c14b2 : (9223372036854775807 < x3_2.size + 4) = False := eq_false (Nat.not_lt.2 c14)
                    by_cases c15 : 0 ≤ x6_2
                    · rw [if_pos c15] at H
                      have c15b0 : decide (0 ≤ x6_2) = true := decide_eq_true c15
                      clear c15
                      replace H := Option.bind_eq_some_iff.mp H
                      obtain ⟨t137, A160, H⟩ := H
                      replace H : (if (x3_2 ++ (⟨#[112, 104, 105, 32]⟩ : ByteArray)).size + t137.size ≤ 9223372036854775807 then (jacquardref03_Print.l2 k2 ((x3_2 ++ (⟨#[112, 104, 105, 32]⟩ : ByteArray)) ++ t137) x4_1 x6_2 0 a0_0 l0_1 ((rd_T52 l0_1 x4_1).f0) ((rd_T52 l0_1 x4_1).f1) ((rd_T52 l0_1 x4_1).f2.f0) ((rd_T52 l0_1 x4_1).f2.f1) ((rd_T52 l0_1 x4_1).f2.f2) ((rd_T52 l0_1 x4_1).f2.f3)) else (none)) = some r := H
                      have A16 := Aside0.mk A160
                      clear A160
                      by_cases c17 : (x3_2 ++ (⟨#[112, 104, 105, 32]⟩ : ByteArray)).size + t137.size ≤ 9223372036854775807
                      · rw [if_pos c17] at H
                        have c17b0 := eq_true c17
                        have c17b1 : decide ((x3_2 ++ (⟨#[112, 104, 105, 32]⟩ : ByteArray)).size + t137.size ≤ 9223372036854775807) = true := decide_eq_true c17
                        try have c17b2 : (9223372036854775807 < (x3_2 ++ (⟨#[112, 104, 105, 32]⟩ : ByteArray)).size + t137.size) = False := eq_false (Nat.not_lt.2 c17)
                        try (have c17b3 := c17b2; simp only [ByteArray.size_append, show (⟨#[112, 104, 105, 32]⟩ : ByteArray).size = 4 from rfl] at c17b3)
                        have H' := Aside0.mk H
                        clear H
                        have hnb18 := NB135_132.out
                        have hnc18 := NB132_135.out
                        have hcz19_0 : wr.cell? ⟨gb135, 0, none⟩ = some (.slice A134_0 ((rd_T52 l0_1 x4_1).f0).length c134_0) := (blk_cell BK135.out 0).trans rfl
                        have hcz19_1 : wr.cell? ⟨gb135, 1, none⟩ = some (.slice A134_1 ((rd_T52 l0_1 x4_1).f1).length c134_1) := (blk_cell BK135.out 1).trans rfl
                        have hcz19_2 : wr.cell? ⟨gb135, 2, none⟩ = some (.int .i64 ((rd_T52 l0_1 x4_1).f2.f0)) := (blk_cell BK135.out 2).trans rfl
                        have hcz19_3 : wr.cell? ⟨gb135, 3, none⟩ = some (.slice A134_3 ((rd_T52 l0_1 x4_1).f2.f1).length c134_3) := (blk_cell BK135.out 3).trans rfl
                        have hcz19_4 : wr.cell? ⟨gb135, 4, none⟩ = some (.slice A134_4 ((rd_T52 l0_1 x4_1).f2.f2).length c134_4) := (blk_cell BK135.out 4).trans rfl
                        have hcz19_5 : wr.cell? ⟨gb135, 5, none⟩ = some (.int .i32 ((rd_T52 l0_1 x4_1).f2.f3)) := (blk_cell BK135.out 5).trans rfl
                        have hfz19_0 := blk_frozen BK135.out 0
                        have hfz19_1 := blk_frozen BK135.out 1
                        have hfz19_2 := blk_frozen BK135.out 2
                        have hfz19_3 := blk_frozen BK135.out 3
                        have hfz19_4 := blk_frozen BK135.out 4
                        have hfz19_5 := blk_frozen BK135.out 5
                        have p136 : 0 ≤ (x6_2 : Int) := of_decide_eq_true (by first | (with_reducible assumption) | assumption)
                        have q136 : x6_2 < (((rd_T52 l0_1 x4_1).f0).length : Int) := of_decide_eq_true (by first | (with_reducible assumption) | assumption)
                        obtain ⟨ad136, A136_1, c136_1, e136, hx136_0, hx136_1, hl136_1, hi136_1⟩ := at_T76 HR134_0.out x6_2 p136 q136
                        cases e136
                        replace hx136_0 := (HB.out.cell (World.block_lt_of_cell? w _ hx136_0)).trans hx136_0
                        replace hx136_1 := (HB.out.cell (World.block_lt_of_cell? w _ hx136_1)).trans hx136_1
                        have HR136_1 := Aside0.mk hi136_1
                        have HC136_1 := Aside0.mk hl136_1
                        clear hi136_1 hl136_1
                        replace p136 := eq_true p136
                        replace q136 := eq_true q136
                        go_wp2_with (first | ((with_reducible refine gate_callee (f := 46) rfl ?_); refine goesL_ (some 41) rfl rfl Tryd.func46 (by kernel_rfl) rfl #[.int .i64 ((rd_T76 ((rd_T52 l0_1 x4_1).f0) x6_2).f0)] rfl (by (try simp only [List.map_toArray, List.map_cons, List.map_nil]); first | done | rfl | (simp only [List.length_drop, List.length_take]; rfl)) ?_; (with_reducible refine (jacquardref03_digits.calls k2 ((rd_T76 ((rd_T52 l0_1 x4_1).f0) x6_2).f0) t137 _ A16.out).mono ?_); rintro e w20 ⟨rfl, hb⟩; refine ⟨_, rfl, ?_⟩; have n0_ := Aside0.mk (blk_below (g := gb132) (o := .cells #[.int .i64 a0_0, .slice (some ad134) l0_1.length c0_1] 28 (0, 0)) (by (with_reducible repeat (first | refine blk_drewN ?_ _ | refine blk_drew ?_ | refine blk_alloc ?_ _)); exact BK132.out) hb); have n1_ := Aside0.mk (blk_below (g := gb135) (o := .cells #[.slice (some ad136) ((rd_T52 l0_1 x4_1).f0).length c134_0, .slice A134_1 ((rd_T52 l0_1 x4_1).f1).length c134_1, .int .i64 ((rd_T52 l0_1 x4_1).f2.f0), .slice A134_3 ((rd_T52 l0_1 x4_1).f2.f1).length c134_3, .slice A134_4 ((rd_T52 l0_1 x4_1).f2.f2).length c134_4, .int .i32 ((rd_T52 l0_1 x4_1).f2.f3)] 52 (0, 0)) (by (with_reducible repeat (first | refine blk_drewN ?_ _ | refine blk_drew ?_ | refine blk_alloc ?_ _)); exact BK135.out) hb); have n2_ := Aside0.mk (below_step (by repeat (first | (with_reducible first | exact HB.out | apply below_alloc | apply pw_below_drewN | apply below_drew1 | refine below_set ?_ GE132.out | refine below_set ?_ GE135.out) | exact HB.out)) hb); clear BK132; clear BK135; clear HB; have BK132 := n0_; have BK135 := n1_; have HB := n2_; clear n0_ n1_ n2_; (try clear hb); (try clear hb2); (try clear hk); (try clear hi)))
                        go_loopg [3, 7] k2 (fun kq v3 v7 w' => ∃ (x3_3 : ByteArray) (x7_3 : Int), v3 = .string x3_3 ∧ v7 = .int .i64 x7_3 ∧ Aside0 (jacquardref03_Print.l2 kq x3_3 x4_1 x6_2 x7_3 a0_0 l0_1 ((rd_T52 l0_1 x4_1).f0) ((rd_T52 l0_1 x4_1).f1) ((rd_T52 l0_1 x4_1).f2.f0) ((rd_T52 l0_1 x4_1).f2.f1) ((rd_T52 l0_1 x4_1).f2.f2) ((rd_T52 l0_1 x4_1).f2.f3) = some r) ∧ Aside0 (kq ≤ k2) ∧ Aside0 (w'.heap[gb132]? = some (.cells #[.int .i64 a0_0, (.slice (some ad134) l0_1.length c0_1)] 28 (0, 0))) ∧ Aside0 (w'.heap[gb135]? = some (.cells #[(.slice (some ad136) ((rd_T52 l0_1 x4_1).f0).length c134_0), (.slice A134_1 ((rd_T52 l0_1 x4_1).f1).length c134_1), .int .i64 ((rd_T52 l0_1 x4_1).f2.f0), (.slice A134_3 ((rd_T52 l0_1 x4_1).f2.f1).length c134_3), (.slice A134_4 ((rd_T52 l0_1 x4_1).f2.f2).length c134_4), .int .i32 ((rd_T52 l0_1 x4_1).f2.f3)] 52 (0, 0))) ∧ Aside0 (Below w.heap.size w w'))
                        case atStart => exact ⟨((x3_2 ++ (⟨#[112, 104, 105, 32]⟩ : ByteArray)) ++ t137), (0), (by first | rfl | (simp; done) | (simp [*]; done)), (by first | rfl | (simp; done) | (simp [*]; done)), H', ⟨Nat.le_refl _⟩, ⟨by (with_reducible repeat (first | refine blk_drewN ?_ _ | refine blk_drew ?_ | refine blk_alloc ?_ _)); exact BK132.out⟩, ⟨by (with_reducible repeat (first | refine blk_drewN ?_ _ | refine blk_drew ?_ | refine blk_alloc ?_ _)); exact BK135.out⟩, ⟨by repeat (first | (with_reducible first | exact HB.out | apply below_alloc | apply pw_below_drewN | apply below_drew1 | refine below_set ?_ GE132.out | refine below_set ?_ GE135.out) | exact HB.out)⟩⟩
                        case round =>
                          clear H'
                          try clear c1
                          try clear p1
                          try clear q1
                          try clear hx1
                          try clear c2
                          try clear p2
                          try clear c4
                          try clear c6
                          try clear c6b0
                          try clear c7
                          try clear c7b0
                          try clear c8
                          try clear c8b0
                          try clear c8b1
                          try clear c8b2
                          try clear c11
                          try clear c13
                          try clear c13b0
                          try clear p13
                          try clear q13
                          try clear hx13
                          try clear c14
                          try clear c14b0
                          try clear c14b1
                          try clear c14b2
                          try clear c15
                          try clear c15b0
                          try clear c17
                          try clear c17b0
                          try clear c17b1
                          try clear c17b2
                          try clear c18
                          try clear hcz12_0
                          try clear hcz12_1
                          try clear hcz12_2
                          try clear hcz12_3
                          try clear hcz12_4
                          try clear hcz12_5
                          try clear hcz19_0
                          try clear hcz19_1
                          try clear hcz19_2
                          try clear hcz19_3
                          try clear hcz19_4
                          try clear hcz19_5
                          try clear hcz4_0
                          try clear hcz4_1
                          try clear hcz9_0
                          try clear hcz9_1
                          try clear hfz12_0
                          try clear hfz12_1
                          try clear hfz12_2
                          try clear hfz12_3
                          try clear hfz12_4
                          try clear hfz12_5
                          try clear hfz19_0
                          try clear hfz19_1
                          try clear hfz19_2
                          try clear hfz19_3
                          try clear hfz19_4
                          try clear hfz19_5
                          try clear hfz4_0
                          try clear hfz4_1
                          try clear hfz9_0
                          try clear hfz9_1
                          try clear hx134_0
                          try clear hx134_1
                          try clear hx134_2
                          try clear hx134_3
                          try clear hx134_4
                          try clear hx134_5
                          try clear hx136_0
                          try clear hx136_1
                          try clear p1
                          try clear p134
                          try clear p136
                          try clear p2
                          try clear q1
                          try clear q134
                          try clear q136
                          obtain ⟨x3_3, x7_3, rfl, rfl, HA, HK3, BK132, BK135, HB⟩ := hrel
                          cases gk with
                          | zero => exact absurd HA.out (by simp [jacquardref03_Print.l2])
                          | succ k3 =>
                            have H := HA.out
                            clear HA
                            simp only [jacquardref03_Print.l2] at H
                            by_cases c21 : 0 ≤ x6_2
                            · rw [if_pos c21] at H
                              have c21b0 : decide (0 ≤ x6_2) = true := decide_eq_true c21
                              clear c21
                              by_cases c22 : x6_2 < (((rd_T52 l0_1 x4_1).f0).length : Int)
                              · rw [if_pos c22] at H
                                have c22b0 : decide (x6_2 < (((rd_T52 l0_1 x4_1).f0).length : Int)) = true := decide_eq_true c22
                                clear c22
                                by_cases c23 : x7_3 < (((rd_T76 ((rd_T52 l0_1 x4_1).f0) x6_2).f1).length : Int)
                                · rw [if_pos c23] at H
                                  have c23b0 : decide (x7_3 < (((rd_T76 ((rd_T52 l0_1 x4_1).f0) x6_2).f1).length : Int)) = true := decide_eq_true c23
                                  clear c23
                                  by_cases c24 : 0 ≤ x7_3
                                  · rw [if_pos c24] at H
                                    have c24b0 : decide (0 ≤ x7_3) = true := decide_eq_true c24
                                    clear c24
                                    replace H := Option.bind_eq_some_iff.mp H
                                    obtain ⟨t141, A250, H⟩ := H
                                    replace H : (if x3_3.size + t141.size ≤ 9223372036854775807 then (if (x3_3 ++ t141).size + 1 ≤ 9223372036854775807 then ((jacquardref03_digits.f k3 ((rd_T79 ((rd_T76 ((rd_T52 l0_1 x4_1).f0) x6_2).f1) x7_3).f1)).bind fun t144 => (if ((x3_3 ++ t141) ++ (⟨#[58]⟩ : ByteArray)).size + t144.size ≤ 9223372036854775807 then (jacquardref03_Print.l2 k3 (((x3_3 ++ t141) ++ (⟨#[58]⟩ : ByteArray)) ++ t144) x4_1 x6_2 (wrap64 (x7_3 + 1)) a0_0 l0_1 ((rd_T52 l0_1 x4_1).f0) ((rd_T52 l0_1 x4_1).f1) ((rd_T52 l0_1 x4_1).f2.f0) ((rd_T52 l0_1 x4_1).f2.f1) ((rd_T52 l0_1 x4_1).f2.f2) ((rd_T52 l0_1 x4_1).f2.f3)) else (none))) else (none)) else (none)) = some r := H
                                    have A25 := Aside0.mk A250
                                    clear A250
                                    by_cases c26 : x3_3.size + t141.size ≤ 9223372036854775807
                                    · rw [if_pos c26] at H
                                      have c26b0 := eq_true c26
                                      have c26b1 : decide (x3_3.size + t141.size ≤ 9223372036854775807) = true := decide_eq_true c26
                                      try have c26b2 : (9223372036854775807 < x3_3.size + t141.size) = False := eq_false (Nat.not_lt.2 c26)
                                      by_cases c27 : (x3_3 ++ t141).size + 1 ≤ 9223372036854775807
                                      · rw [if_pos c27] at H
                                        have c27b0 := eq_true c27
                                        have c27b1 : decide ((x3_3 ++ t141).size + 1 ≤ 9223372036854775807) = true := decide_eq_true c27
                                        try have c27b2 : (9223372036854775807 < (x3_3 ++ t141).size + 1) = False := eq_false (Nat.not_lt.2 c27)
                                        try (have c27b3 := c27b2; simp only [ByteArray.size_append] at c27b3)
                                        replace H := Option.bind_eq_some_iff.mp H
                                        obtain ⟨t144, A280, H⟩ := H
                                        replace H : (if ((x3_3 ++ t141) ++ (⟨#[58]⟩ : ByteArray)).size + t144.size ≤ 9223372036854775807 then (jacquardref03_Print.l2 k3 (((x3_3 ++ t141) ++ (⟨#[58]⟩ : ByteArray)) ++ t144) x4_1 x6_2 (wrap64 (x7_3 + 1)) a0_0 l0_1 ((rd_T52 l0_1 x4_1).f0) ((rd_T52 l0_1 x4_1).f1) ((rd_T52 l0_1 x4_1).f2.f0) ((rd_T52 l0_1 x4_1).f2.f1) ((rd_T52 l0_1 x4_1).f2.f2) ((rd_T52 l0_1 x4_1).f2.f3)) else (none)) = some r := H
                                        have A28 := Aside0.mk A280
                                        clear A280
                                        by_cases c29 : ((x3_3 ++ t141) ++ (⟨#[58]⟩ : ByteArray)).size + t144.size ≤ 9223372036854775807
                                        · rw [if_pos c29] at H
                                          have c29b0 := eq_true c29
                                          have c29b1 : decide (((x3_3 ++ t141) ++ (⟨#[58]⟩ : ByteArray)).size + t144.size ≤ 9223372036854775807) = true := decide_eq_true c29
                                          try have c29b2 : (9223372036854775807 < ((x3_3 ++ t141) ++ (⟨#[58]⟩ : ByteArray)).size + t144.size) = False := eq_false (Nat.not_lt.2 c29)
                                          try (have c29b3 := c29b2; simp only [ByteArray.size_append, show (⟨#[58]⟩ : ByteArray).size = 1 from rfl] at c29b3)
                                          have H' := Aside0.mk H
                                          clear H
                                          have hnb30 := NB135_132.out
                                          have hnc30 := NB132_135.out
                                          have hcz31_0 : wr.cell? ⟨gb135, 0, none⟩ = some (.slice (some ad136) ((rd_T52 l0_1 x4_1).f0).length c134_0) := (blk_cell BK135.out 0).trans rfl
                                          have hcz31_1 : wr.cell? ⟨gb135, 1, none⟩ = some (.slice A134_1 ((rd_T52 l0_1 x4_1).f1).length c134_1) := (blk_cell BK135.out 1).trans rfl
                                          have hcz31_2 : wr.cell? ⟨gb135, 2, none⟩ = some (.int .i64 ((rd_T52 l0_1 x4_1).f2.f0)) := (blk_cell BK135.out 2).trans rfl
                                          have hcz31_3 : wr.cell? ⟨gb135, 3, none⟩ = some (.slice A134_3 ((rd_T52 l0_1 x4_1).f2.f1).length c134_3) := (blk_cell BK135.out 3).trans rfl
                                          have hcz31_4 : wr.cell? ⟨gb135, 4, none⟩ = some (.slice A134_4 ((rd_T52 l0_1 x4_1).f2.f2).length c134_4) := (blk_cell BK135.out 4).trans rfl
                                          have hcz31_5 : wr.cell? ⟨gb135, 5, none⟩ = some (.int .i32 ((rd_T52 l0_1 x4_1).f2.f3)) := (blk_cell BK135.out 5).trans rfl
                                          have hfz31_0 := blk_frozen BK135.out 0
                                          have hfz31_1 := blk_frozen BK135.out 1
                                          have hfz31_2 := blk_frozen BK135.out 2
                                          have hfz31_3 := blk_frozen BK135.out 3
                                          have hfz31_4 := blk_frozen BK135.out 4
                                          have hfz31_5 := blk_frozen BK135.out 5
                                          have p138 : 0 ≤ (x6_2 : Int) := of_decide_eq_true (by first | (with_reducible assumption) | assumption)
                                          have q138 : x6_2 < (((rd_T52 l0_1 x4_1).f0).length : Int) := of_decide_eq_true (by first | (with_reducible assumption) | assumption)
                                          obtain ⟨ad138, A138_1, c138_1, e138, hx138_0, hx138_1, hl138_1, hi138_1⟩ := at_T76 HR134_0.out x6_2 p138 q138
                                          obtain rfl : ad136 = ad138 := (by injection e138)
                                          replace hx138_0 := (HB.out.cell (World.block_lt_of_cell? w _ hx138_0)).trans hx138_0
                                          replace hx138_1 := (HB.out.cell (World.block_lt_of_cell? w _ hx138_1)).trans hx138_1
                                          have HR138_1 := Aside0.mk hi138_1
                                          have HC138_1 := Aside0.mk hl138_1
                                          clear hi138_1 hl138_1
                                          replace p138 := eq_true p138
                                          replace q138 := eq_true q138
                                          try go_wp2
                                          have n0_ := Aside0.mk (blk_drew BK132.out)
                                          have n1_ := Aside0.mk (blk_drew BK135.out)
                                          have n2_ := Aside0.mk (below_drew1 HB.out)
                                          clear BK132
                                          clear BK135
                                          clear HB
                                          have BK132 := n0_
                                          have BK135 := n1_
                                          have HB := n2_
                                          clear n0_ n1_ n2_
                                          have p139 : 0 ≤ (x6_2 : Int) := of_decide_eq_true (by first | (with_reducible assumption) | assumption)
                                          have q139 : x6_2 < (((rd_T52 l0_1 x4_1).f0).length : Int) := of_decide_eq_true (by first | (with_reducible assumption) | assumption)
                                          obtain ⟨ad139, A139_1, c139_1, e139, hx139_0, hx139_1, hl139_1, hi139_1⟩ := at_T76 HR134_0.out x6_2 p139 q139
                                          have hw139_1 := hx139_1
                                          have hw139_0 := hx139_0
                                          obtain rfl : ad136 = ad139 := (by injection e139)
                                          replace hx139_0 := (HB.out.cell (World.block_lt_of_cell? w _ hx139_0)).trans hx139_0
                                          replace hx139_1 := (HB.out.cell (World.block_lt_of_cell? w _ hx139_1)).trans hx139_1
                                          have HR139_1 := Aside0.mk hi139_1
                                          have HC139_1 := Aside0.mk hl139_1
                                          clear hi139_1 hl139_1
                                          replace p139 := eq_true p139
                                          replace q139 := eq_true q139
                                          have p140 : 0 ≤ (x7_3 : Int) := of_decide_eq_true (by first | (with_reducible assumption) | assumption)
                                          have q140 : x7_3 < (((rd_T76 ((rd_T52 l0_1 x4_1).f0) x6_2).f1).length : Int) := of_decide_eq_true (by first | (with_reducible assumption) | assumption)
                                          obtain ⟨ad140, e140, hx140_0, hx140_1⟩ := at_T79 HR139_1.out x7_3 p140 q140
                                          have hw140_1 := hx140_1
                                          have hw140_0 := hx140_0
                                          cases e140
                                          replace hx140_0 := (HB.out.cell (World.block_lt_of_cell? w _ hx140_0)).trans hx140_0
                                          replace hx140_1 := (HB.out.cell (World.block_lt_of_cell? w _ hx140_1)).trans hx140_1
                                          replace p140 := eq_true p140
                                          replace q140 := eq_true q140
                                          have p142 : 0 ≤ (x6_2 : Int) := of_decide_eq_true (by first | (with_reducible assumption) | assumption)
                                          have q142 : x6_2 < (((rd_T52 l0_1 x4_1).f0).length : Int) := of_decide_eq_true (by first | (with_reducible assumption) | assumption)
                                          obtain ⟨ad142, A142_1, c142_1, e142, hx142_0, hx142_1, hl142_1, hi142_1⟩ := at_T76 HR134_0.out x6_2 p142 q142
                                          have hw142_1 := hx142_1
                                          have hw142_0 := hx142_0
                                          obtain rfl : ad136 = ad142 := (by injection e142)
                                          replace hx142_0 := (HB.out.cell (World.block_lt_of_cell? w _ hx142_0)).trans hx142_0
                                          replace hx142_1 := (HB.out.cell (World.block_lt_of_cell? w _ hx142_1)).trans hx142_1
                                          have HR142_1 := Aside0.mk hi142_1
                                          have HC142_1 := Aside0.mk hl142_1
                                          clear hi142_1 hl142_1
                                          replace p142 := eq_true p142
                                          replace q142 := eq_true q142
                                          have ea_ := Option.some.inj (hx139_1.symm.trans hx142_1)
                                          injection ea_ with ea_ en_ ec_
                                          subst ea_
                                          subst ec_
                                          clear en_
                                          have p143 : 0 ≤ (x7_3 : Int) := of_decide_eq_true (by first | (with_reducible assumption) | assumption)
                                          have q143 : x7_3 < (((rd_T76 ((rd_T52 l0_1 x4_1).f0) x6_2).f1).length : Int) := of_decide_eq_true (by first | (with_reducible assumption) | assumption)
                                          obtain ⟨ad143, e143, hx143_0, hx143_1⟩ := at_T79 HR142_1.out x7_3 p143 q143
                                          have hw143_1 := hx143_1
                                          have hw143_0 := hx143_0
                                          cases e143
                                          replace hx143_0 := (HB.out.cell (World.block_lt_of_cell? w _ hx143_0)).trans hx143_0
                                          replace hx143_1 := (HB.out.cell (World.block_lt_of_cell? w _ hx143_1)).trans hx143_1
                                          replace p143 := eq_true p143
                                          replace q143 := eq_true q143
                                          refine start_ (n := 27) (S := fun w' => w'.cell? ⟨gb135, 0, none⟩ = some (.slice (some ad136) ((rd_T52 l0_1 x4_1).f0).length c134_0) ∧ w'.cell? ⟨gb135, 1, none⟩ = some (.slice A134_1 ((rd_T52 l0_1 x4_1).f1).length c134_1) ∧ w'.cell? ⟨gb135, 2, none⟩ = some (.int .i64 ((rd_T52 l0_1 x4_1).f2.f0)) ∧ w'.cell? ⟨gb135, 3, none⟩ = some (.slice A134_3 ((rd_T52 l0_1 x4_1).f2.f1).length c134_3) ∧ w'.cell? ⟨gb135, 4, none⟩ = some (.slice A134_4 ((rd_T52 l0_1 x4_1).f2.f2).length c134_4) ∧ w'.cell? ⟨gb135, 5, none⟩ = some (.int .i32 ((rd_T52 l0_1 x4_1).f2.f3)) ∧ w'.cell? (ad136.add ((x6_2).toNat * 2)) = some (.int .i64 ((rd_T76 ((rd_T52 l0_1 x4_1).f0) x6_2).f0)) ∧ w'.cell? ⟨(ad136.add ((x6_2).toNat * 2)).block, (ad136.add ((x6_2).toNat * 2)).off + 1, none⟩ = some (.slice (some ad140) ((rd_T76 ((rd_T52 l0_1 x4_1).f0) x6_2).f1).length c139_1) ∧ w'.cell? (ad140.add ((x7_3).toNat * 2)) = some (.int .i64 ((rd_T79 ((rd_T76 ((rd_T52 l0_1 x4_1).f0) x6_2).f1) x7_3).f0)) ∧ w'.cell? ⟨(ad140.add ((x7_3).toNat * 2)).block, (ad140.add ((x7_3).toNat * 2)).off + 1, none⟩ = some (.int .i64 ((rd_T79 ((rd_T76 ((rd_T52 l0_1 x4_1).f0) x6_2).f1) x7_3).f1)) ∧ w'.cell? (ad136.add ((x6_2).toNat * 2)) = some (.int .i64 ((rd_T76 ((rd_T52 l0_1 x4_1).f0) x6_2).f0)) ∧ w'.cell? ⟨(ad136.add ((x6_2).toNat * 2)).block, (ad136.add ((x6_2).toNat * 2)).off + 1, none⟩ = some (.slice (some ad140) ((rd_T76 ((rd_T52 l0_1 x4_1).f0) x6_2).f1).length c139_1) ∧ w'.cell? (ad140.add ((x7_3).toNat * 2)) = some (.int .i64 ((rd_T79 ((rd_T76 ((rd_T52 l0_1 x4_1).f0) x6_2).f1) x7_3).f0)) ∧ w'.cell? ⟨(ad140.add ((x7_3).toNat * 2)).block, (ad140.add ((x7_3).toNat * 2)).off + 1, none⟩ = some (.int .i64 ((rd_T79 ((rd_T76 ((rd_T52 l0_1 x4_1).f0) x6_2).f1) x7_3).f1))) (ds := []) #[false, false, false, false, false, false, false, false, false, false, false, false, false, false, false, false, false, false, false, false, false, false, false, false, false, false, false] (by kernel_rfl) rfl rfl ⟨(blk_cell BK135.out 0).trans rfl, (blk_cell BK135.out 1).trans rfl, (blk_cell BK135.out 2).trans rfl, (blk_cell BK135.out 3).trans rfl, (blk_cell BK135.out 4).trans rfl, (blk_cell BK135.out 5).trans rfl, ((HB.out.cell (World.block_lt_of_cell? w _ hw139_0)).trans hw139_0), ((HB.out.cell (World.block_lt_of_cell? w _ hw139_1)).trans hw139_1), ((HB.out.cell (World.block_lt_of_cell? w _ hw140_0)).trans hw140_0), ((HB.out.cell (World.block_lt_of_cell? w _ hw140_1)).trans hw140_1), ((HB.out.cell (World.block_lt_of_cell? w _ hw142_0)).trans hw142_0), ((HB.out.cell (World.block_lt_of_cell? w _ hw142_1)).trans hw142_1), ((HB.out.cell (World.block_lt_of_cell? w _ hw143_0)).trans hw143_0), ((HB.out.cell (World.block_lt_of_cell? w _ hw143_1)).trans hw143_1)⟩ (fun hHeld => ?_); refine with_tabW jacquardref03_Print.tab14 jacquardref03_Print.bits14 (fun HT_ HW_ => ?_)
                                          generalize wr.drew = w32 at BK132 BK135 HB HR139_1 HR142_1 hx139_0 hx139_1 hx140_0 hx140_1 hx142_0 hx142_1 hx143_0 hx143_1 hHeld ⊢
                                          refine pure_ (i := 0) (N := some 54) (v := ?_) (a' := ?_) #[true, false, false, false, false, false, false, false, false, false, false, false, false, false, false, false, false, false, false, false, false, false, false, false, false, false, false] rfl rfl (any_of HT_.out (by kernel_rfl)) (fun _ _ _ h => h) (Or.inl ⟨by rfl, ?_⟩) ?_ ?_
                                          rotate_left
                                          · intro w'
                                            go_simp
                                            with_reducible rfl
                                          rotate_left
                                          · simp only [Act.put, List.setIfInBounds_toArray, List.set_cons_zero, List.set_cons_succ, i64_w, i32_w]
                                            rfl
                                          refine pure_ (i := 1) (N := some 55) (v := ?_) (a' := ?_) #[true, true, false, false, false, false, false, false, false, false, false, false, false, false, false, false, false, false, false, false, false, false, false, false, false, false, false] rfl rfl (any_of HT_.out (by kernel_rfl)) (fun _ _ _ h => h) (Or.inl ⟨by rfl, ?_⟩) ?_ ?_
                                          rotate_left
                                          · intro w'
                                            go_simp
                                            with_reducible rfl
                                          rotate_left
                                          · simp only [Act.put, List.setIfInBounds_toArray, List.set_cons_zero, List.set_cons_succ, i64_w, i32_w]
                                            rfl
                                          refine pure_ (i := 3) (N := some 57) (v := ?_) (a' := ?_) #[true, true, false, true, false, false, false, false, false, false, false, false, false, false, false, false, false, false, false, false, false, false, false, false, false, false, false] rfl rfl (any_of HT_.out (by kernel_rfl)) (fun _ _ _ h => h) (Or.inl ⟨by rfl, ?_⟩) ?_ ?_
                                          rotate_left
                                          · intro w'
                                            go_simp
                                            with_reducible rfl
                                          rotate_left
                                          · simp only [Act.put, List.setIfInBounds_toArray, List.set_cons_zero, List.set_cons_succ, i64_w, i32_w]
                                            rfl
                                          refine pure_ (i := 7) (N := some 61) (v := ?_) (a' := ?_) #[true, true, false, true, false, false, false, true, false, false, false, false, false, false, false, false, false, false, false, false, false, false, false, false, false, false, false] rfl rfl (any_of HT_.out (by kernel_rfl)) (fun _ _ _ h => h) (Or.inl ⟨by rfl, ?_⟩) ?_ ?_
                                          rotate_left
                                          · intro w'
                                            go_simp
                                            with_reducible rfl
                                          rotate_left
                                          · simp only [Act.put, List.setIfInBounds_toArray, List.set_cons_zero, List.set_cons_succ, i64_w, i32_w]
                                            rfl
                                          refine pure_ (i := 14) (N := some 68) (v := ?_) (a' := ?_) #[true, true, false, true, false, false, false, true, false, false, false, false, false, false, true, false, false, false, false, false, false, false, false, false, false, false, false] rfl rfl (any_of HT_.out (by kernel_rfl)) (fun _ _ _ h => h) (Or.inl ⟨by rfl, ?_⟩) ?_ ?_
                                          rotate_left
                                          · intro w'
                                            go_simp
                                            with_reducible rfl
                                          rotate_left
                                          · simp only [Act.put, List.setIfInBounds_toArray, List.set_cons_zero, List.set_cons_succ, i64_w, i32_w]
                                            rfl
                                          refine pure_ (i := 16) (N := some 70) (v := ?_) (a' := ?_) #[true, true, false, true, false, false, false, true, false, false, false, false, false, false, true, false, true, false, false, false, false, false, false, false, false, false, false] rfl rfl (any_of HT_.out (by kernel_rfl)) (fun _ _ _ h => h) (Or.inl ⟨by rfl, ?_⟩) ?_ ?_
                                          rotate_left
                                          · intro w'
                                            go_simp
                                            with_reducible rfl
                                          rotate_left
                                          · simp only [Act.put, List.setIfInBounds_toArray, List.set_cons_zero, List.set_cons_succ, i64_w, i32_w]
                                            rfl
                                          refine pure_ (i := 20) (N := some 74) (v := ?_) (a' := ?_) #[true, true, false, true, false, false, false, true, false, false, false, false, false, false, true, false, true, false, false, false, true, false, false, false, false, false, false] rfl rfl (any_of HT_.out (by kernel_rfl)) (fun _ _ _ h => h) (Or.inl ⟨by rfl, ?_⟩) ?_ ?_
                                          rotate_left
                                          · intro w'
                                            go_simp
                                            with_reducible rfl
                                          rotate_left
                                          · simp only [Act.put, List.setIfInBounds_toArray, List.set_cons_zero, List.set_cons_succ, i64_w, i32_w]
                                            rfl
                                          refine take_ (i := 2) (N := some 56) (v := ?_) (a' := ?_) #[true, true, true, true, false, false, false, true, false, false, false, false, false, false, true, false, true, false, false, false, true, false, false, false, false, false, false] rfl rfl (take_ofW HT_.out HW_.out (by kernel_rfl)) (fun _ _ _ h => h) (Or.inl ⟨by rfl, ?_⟩) hHeld ?_ ?_
                                          rotate_left
                                          · rintro w' ⟨s0, s1, s2, s3, s4, s5, s6, s7, s8, s9, s10, s11, s12, s13⟩
                                            go_simp
                                            with_reducible rfl
                                          rotate_left
                                          · simp only [Act.put, List.setIfInBounds_toArray, List.set_cons_zero, List.set_cons_succ, i64_w, i32_w]
                                            rfl
                                          refine pure_ (i := 4) (N := some 58) (v := ?_) (a' := ?_) #[true, true, true, true, true, false, false, true, false, false, false, false, false, false, true, false, true, false, false, false, true, false, false, false, false, false, false] rfl rfl (any_of HT_.out (by kernel_rfl)) (fun _ _ _ h => h) (Or.inl ⟨by rfl, ?_⟩) ?_ ?_
                                          rotate_left
                                          · intro w'
                                            go_simp
                                            with_reducible rfl
                                          rotate_left
                                          · simp only [Act.put, List.setIfInBounds_toArray, List.set_cons_zero, List.set_cons_succ, i64_w, i32_w]
                                            rfl
                                          refine pure_ (i := 5) (N := some 59) (v := ?_) (a' := ?_) #[true, true, true, true, true, true, false, true, false, false, false, false, false, false, true, false, true, false, false, false, true, false, false, false, false, false, false] rfl rfl (any_of HT_.out (by kernel_rfl)) (fun _ _ _ h => h) (Or.inl ⟨by rfl, ?_⟩) ?_ ?_
                                          rotate_left
                                          · intro w'
                                            go_simp
                                            with_reducible rfl
                                          rotate_left
                                          · simp only [Act.put, List.setIfInBounds_toArray, List.set_cons_zero, List.set_cons_succ, i64_w, i32_w]
                                            rfl
                                          refine take_ (i := 6) (N := some 60) (v := ?_) (a' := ?_) #[true, true, true, true, true, true, true, true, false, false, false, false, false, false, true, false, true, false, false, false, true, false, false, false, false, false, false] rfl rfl (take_ofW HT_.out HW_.out (by kernel_rfl)) (fun _ _ _ h => h) (Or.inl ⟨by rfl, ?_⟩) hHeld ?_ ?_
                                          rotate_left
                                          · rintro w' ⟨s0, s1, s2, s3, s4, s5, s6, s7, s8, s9, s10, s11, s12, s13⟩
                                            go_simp
                                            with_reducible rfl
                                          rotate_left
                                          · simp only [Act.put, List.setIfInBounds_toArray, List.set_cons_zero, List.set_cons_succ, i64_w, i32_w]
                                            rfl
                                          refine pure_ (i := 8) (N := some 62) (v := ?_) (a' := ?_) #[true, true, true, true, true, true, true, true, true, false, false, false, false, false, true, false, true, false, false, false, true, false, false, false, false, false, false] rfl rfl (any_of HT_.out (by kernel_rfl)) (fun _ _ _ h => h) (Or.inl ⟨by rfl, ?_⟩) ?_ ?_
                                          rotate_left
                                          · intro w'
                                            go_simp
                                            with_reducible rfl
                                          rotate_left
                                          · simp only [Act.put, List.setIfInBounds_toArray, List.set_cons_zero, List.set_cons_succ, i64_w, i32_w]
                                            rfl
                                          refine pure_ (i := 9) (N := some 63) (v := ?_) (a' := ?_) #[true, true, true, true, true, true, true, true, true, true, false, false, false, false, true, false, true, false, false, false, true, false, false, false, false, false, false] rfl rfl (any_of HT_.out (by kernel_rfl)) (fun _ _ _ h => h) (Or.inl ⟨by rfl, ?_⟩) ?_ ?_
                                          rotate_left
                                          · intro w'
                                            go_simp
                                            with_reducible rfl
                                          rotate_left
                                          · simp only [Act.put, List.setIfInBounds_toArray, List.set_cons_zero, List.set_cons_succ, i64_w, i32_w]
                                            rfl
                                          refine take_ (i := 10) (N := some 64) (v := ?_) (a' := ?_) #[true, true, true, true, true, true, true, true, true, true, true, false, false, false, true, false, true, false, false, false, true, false, false, false, false, false, false] rfl rfl (take_ofW HT_.out HW_.out (by kernel_rfl)) (fun _ _ _ h => h) (Or.inl ⟨by rfl, ?_⟩) hHeld ?_ ?_
                                          rotate_left
                                          · rintro w' ⟨s0, s1, s2, s3, s4, s5, s6, s7, s8, s9, s10, s11, s12, s13⟩
                                            go_simp
                                            with_reducible rfl
                                          rotate_left
                                          · simp only [Act.put, List.setIfInBounds_toArray, List.set_cons_zero, List.set_cons_succ, i64_w, i32_w]
                                            rfl
                                          refine take_ (i := 15) (N := some 69) (v := ?_) (a' := ?_) #[true, true, true, true, true, true, true, true, true, true, true, false, false, false, true, true, true, false, false, false, true, false, false, false, false, false, false] rfl rfl (take_ofW HT_.out HW_.out (by kernel_rfl)) (fun _ _ _ h => h) (Or.inl ⟨by rfl, ?_⟩) hHeld ?_ ?_
                                          rotate_left
                                          · rintro w' ⟨s0, s1, s2, s3, s4, s5, s6, s7, s8, s9, s10, s11, s12, s13⟩
                                            go_simp
                                            with_reducible rfl
                                          rotate_left
                                          · simp only [Act.put, List.setIfInBounds_toArray, List.set_cons_zero, List.set_cons_succ, i64_w, i32_w]
                                            rfl
                                          refine pure_ (i := 17) (N := some 71) (v := ?_) (a' := ?_) #[true, true, true, true, true, true, true, true, true, true, true, false, false, false, true, true, true, true, false, false, true, false, false, false, false, false, false] rfl rfl (any_of HT_.out (by kernel_rfl)) (fun _ _ _ h => h) (Or.inl ⟨by rfl, ?_⟩) ?_ ?_
                                          rotate_left
                                          · intro w'
                                            go_simp
                                            with_reducible rfl
                                          rotate_left
                                          · simp only [Act.put, List.setIfInBounds_toArray, List.set_cons_zero, List.set_cons_succ, i64_w, i32_w]
                                            rfl
                                          refine pure_ (i := 18) (N := some 72) (v := ?_) (a' := ?_) #[true, true, true, true, true, true, true, true, true, true, true, false, false, false, true, true, true, true, true, false, true, false, false, false, false, false, false] rfl rfl (any_of HT_.out (by kernel_rfl)) (fun _ _ _ h => h) (Or.inl ⟨by rfl, ?_⟩) ?_ ?_
                                          rotate_left
                                          · intro w'
                                            go_simp
                                            with_reducible rfl
                                          rotate_left
                                          · simp only [Act.put, List.setIfInBounds_toArray, List.set_cons_zero, List.set_cons_succ, i64_w, i32_w]
                                            rfl
                                          refine take_ (i := 19) (N := some 73) (v := ?_) (a' := ?_) #[true, true, true, true, true, true, true, true, true, true, true, false, false, false, true, true, true, true, true, true, true, false, false, false, false, false, false] rfl rfl (take_ofW HT_.out HW_.out (by kernel_rfl)) (fun _ _ _ h => h) (Or.inl ⟨by rfl, ?_⟩) hHeld ?_ ?_
                                          rotate_left
                                          · rintro w' ⟨s0, s1, s2, s3, s4, s5, s6, s7, s8, s9, s10, s11, s12, s13⟩
                                            go_simp
                                            with_reducible rfl
                                          rotate_left
                                          · simp only [Act.put, List.setIfInBounds_toArray, List.set_cons_zero, List.set_cons_succ, i64_w, i32_w]
                                            rfl
                                          refine pure_ (i := 21) (N := some 75) (v := ?_) (a' := ?_) #[true, true, true, true, true, true, true, true, true, true, true, false, false, false, true, true, true, true, true, true, true, true, false, false, false, false, false] rfl rfl (any_of HT_.out (by kernel_rfl)) (fun _ _ _ h => h) (Or.inl ⟨by rfl, ?_⟩) ?_ ?_
                                          rotate_left
                                          · intro w'
                                            go_simp
                                            with_reducible rfl
                                          rotate_left
                                          · simp only [Act.put, List.setIfInBounds_toArray, List.set_cons_zero, List.set_cons_succ, i64_w, i32_w]
                                            rfl
                                          refine pure_ (i := 22) (N := some 76) (v := ?_) (a' := ?_) #[true, true, true, true, true, true, true, true, true, true, true, false, false, false, true, true, true, true, true, true, true, true, true, false, false, false, false] rfl rfl (any_of HT_.out (by kernel_rfl)) (fun _ _ _ h => h) (Or.inl ⟨by rfl, ?_⟩) ?_ ?_
                                          rotate_left
                                          · intro w'
                                            go_simp
                                            with_reducible rfl
                                          rotate_left
                                          · simp only [Act.put, List.setIfInBounds_toArray, List.set_cons_zero, List.set_cons_succ, i64_w, i32_w]
                                            rfl
                                          refine take_ (i := 23) (N := some 77) (v := ?_) (a' := ?_) #[true, true, true, true, true, true, true, true, true, true, true, false, false, false, true, true, true, true, true, true, true, true, true, true, false, false, false] rfl rfl (take_ofW HT_.out HW_.out (by kernel_rfl)) (fun _ _ _ h => h) (Or.inl ⟨by rfl, ?_⟩) hHeld ?_ ?_
                                          rotate_left
                                          · rintro w' ⟨s0, s1, s2, s3, s4, s5, s6, s7, s8, s9, s10, s11, s12, s13⟩
                                            go_simp
                                            with_reducible rfl
                                          rotate_left
                                          · simp only [Act.put, List.setIfInBounds_toArray, List.set_cons_zero, List.set_cons_succ, i64_w, i32_w]
                                            rfl
                                          refine one_ (i := 11) (N := some 65) #[true, true, true, true, true, true, true, true, true, true, true, true, false, false, true, true, true, true, true, true, true, true, true, true, false, false, false] rfl rfl (one_of HT_.out (by kernel_rfl)) (by decide) (fun K hK => ?_)
                                          refine goes_ Tryd.func46 (by kernel_rfl) rfl #[.int .i64 ((rd_T79 ((rd_T76 ((rd_T52 l0_1 x4_1).f0) x6_2).f1) x7_3).f0)] (by rfl) rfl rfl (by (try simp only [List.map_toArray, List.map_cons, List.map_nil]); first | done | rfl | (simp only [List.length_drop, List.length_take]; rfl)) ?_
                                          with_reducible refine (jacquardref03_digits.calls k3 ((rd_T79 ((rd_T76 ((rd_T52 l0_1 x4_1).f0) x6_2).f1) x7_3).f0) t141 _ A25.out).mono ?_
                                          rintro e w33 ⟨rfl, hb⟩
                                          refine ⟨_, rfl, ?_⟩
                                          have n0_ := Aside0.mk (blk_below (g := gb132) (o := .cells #[.int .i64 a0_0, .slice (some ad134) l0_1.length c0_1] 28 (0, 0)) (by (with_reducible repeat (first | refine blk_drewN ?_ _ | refine blk_drew ?_ | refine blk_alloc ?_ _)); exact BK132.out) hb)
                                          have n1_ := Aside0.mk (blk_below (g := gb135) (o := .cells #[.slice (some ad136) ((rd_T52 l0_1 x4_1).f0).length c134_0, .slice A134_1 ((rd_T52 l0_1 x4_1).f1).length c134_1, .int .i64 ((rd_T52 l0_1 x4_1).f2.f0), .slice A134_3 ((rd_T52 l0_1 x4_1).f2.f1).length c134_3, .slice A134_4 ((rd_T52 l0_1 x4_1).f2.f2).length c134_4, .int .i32 ((rd_T52 l0_1 x4_1).f2.f3)] 52 (0, 0)) (by (with_reducible repeat (first | refine blk_drewN ?_ _ | refine blk_drew ?_ | refine blk_alloc ?_ _)); exact BK135.out) hb)
                                          have n2_ := Aside0.mk (below_step (by repeat (first | (with_reducible first | exact HB.out | apply below_alloc | apply pw_below_drewN | apply below_drew1 | refine below_set ?_ GE132.out | refine below_set ?_ GE135.out) | exact HB.out)) hb)
                                          clear BK132
                                          clear BK135
                                          clear HB
                                          have BK132 := n0_
                                          have BK135 := n1_
                                          have HB := n2_
                                          clear n0_ n1_ n2_
                                          (try clear hb)
                                          (try clear hb2)
                                          (try clear hk)
                                          (try clear hi)
                                          refine hK.out _ _ ⟨(blk_cell BK135.out 0).trans rfl, (blk_cell BK135.out 1).trans rfl, (blk_cell BK135.out 2).trans rfl, (blk_cell BK135.out 3).trans rfl, (blk_cell BK135.out 4).trans rfl, (blk_cell BK135.out 5).trans rfl, ((HB.out.cell (World.block_lt_of_cell? w _ hw139_0)).trans hw139_0), ((HB.out.cell (World.block_lt_of_cell? w _ hw139_1)).trans hw139_1), ((HB.out.cell (World.block_lt_of_cell? w _ hw140_0)).trans hw140_0), ((HB.out.cell (World.block_lt_of_cell? w _ hw140_1)).trans hw140_1), ((HB.out.cell (World.block_lt_of_cell? w _ hw142_0)).trans hw142_0), ((HB.out.cell (World.block_lt_of_cell? w _ hw142_1)).trans hw142_1), ((HB.out.cell (World.block_lt_of_cell? w _ hw143_0)).trans hw143_0), ((HB.out.cell (World.block_lt_of_cell? w _ hw143_1)).trans hw143_1)⟩ (fun hHeld => ?_)
                                          clear hK K
                                          refine norm_ (a' := ?_) ?_ ?_
                                          rotate_left
                                          · show Act.put _ (some 65) _ = _
                                            simp only [Act.put, List.setIfInBounds_toArray, List.set_cons_zero, List.set_cons_succ, i64_w, i32_w]
                                            rfl
                                          refine pure_ (i := 12) (N := some 66) (v := ?_) (a' := ?_) #[true, true, true, true, true, true, true, true, true, true, true, true, true, false, true, true, true, true, true, true, true, true, true, true, false, false, false] rfl rfl (any_of HT_.out (by kernel_rfl)) (fun _ _ _ h => h) (Or.inl ⟨by rfl, ?_⟩) ?_ ?_
                                          rotate_left
                                          · intro w'
                                            go_simp
                                            with_reducible rfl
                                          rotate_left
                                          · simp only [Act.put, List.setIfInBounds_toArray, List.set_cons_zero, List.set_cons_succ, i64_w, i32_w]
                                            rfl
                                          refine pure_ (i := 13) (N := some 67) (v := ?_) (a' := ?_) #[true, true, true, true, true, true, true, true, true, true, true, true, true, true, true, true, true, true, true, true, true, true, true, true, false, false, false] rfl rfl (any_of HT_.out (by kernel_rfl)) (fun _ _ _ h => h) (Or.inl ⟨by rfl, ?_⟩) ?_ ?_
                                          rotate_left
                                          · intro w'
                                            go_simp
                                            with_reducible rfl
                                          rotate_left
                                          · simp only [Act.put, List.setIfInBounds_toArray, List.set_cons_zero, List.set_cons_succ, i64_w, i32_w]
                                            rfl
                                          refine one_ (i := 24) (N := some 78) #[true, true, true, true, true, true, true, true, true, true, true, true, true, true, true, true, true, true, true, true, true, true, true, true, true, false, false] rfl rfl (one_of HT_.out (by kernel_rfl)) (by decide) (fun K hK => ?_)
                                          refine goes_ Tryd.func46 (by kernel_rfl) rfl #[.int .i64 ((rd_T79 ((rd_T76 ((rd_T52 l0_1 x4_1).f0) x6_2).f1) x7_3).f1)] (by rfl) rfl rfl (by (try simp only [List.map_toArray, List.map_cons, List.map_nil]); first | done | rfl | (simp only [List.length_drop, List.length_take]; rfl)) ?_
                                          with_reducible refine (jacquardref03_digits.calls k3 ((rd_T79 ((rd_T76 ((rd_T52 l0_1 x4_1).f0) x6_2).f1) x7_3).f1) t144 _ A28.out).mono ?_
                                          rintro e w34 ⟨rfl, hb⟩
                                          refine ⟨_, rfl, ?_⟩
                                          have n0_ := Aside0.mk (blk_below (g := gb132) (o := .cells #[.int .i64 a0_0, .slice (some ad134) l0_1.length c0_1] 28 (0, 0)) (by (with_reducible repeat (first | refine blk_drewN ?_ _ | refine blk_drew ?_ | refine blk_alloc ?_ _)); exact BK132.out) hb)
                                          have n1_ := Aside0.mk (blk_below (g := gb135) (o := .cells #[.slice (some ad136) ((rd_T52 l0_1 x4_1).f0).length c134_0, .slice A134_1 ((rd_T52 l0_1 x4_1).f1).length c134_1, .int .i64 ((rd_T52 l0_1 x4_1).f2.f0), .slice A134_3 ((rd_T52 l0_1 x4_1).f2.f1).length c134_3, .slice A134_4 ((rd_T52 l0_1 x4_1).f2.f2).length c134_4, .int .i32 ((rd_T52 l0_1 x4_1).f2.f3)] 52 (0, 0)) (by (with_reducible repeat (first | refine blk_drewN ?_ _ | refine blk_drew ?_ | refine blk_alloc ?_ _)); exact BK135.out) hb)
                                          have n2_ := Aside0.mk (below_step (by repeat (first | (with_reducible first | exact HB.out | apply below_alloc | apply pw_below_drewN | apply below_drew1 | refine below_set ?_ GE132.out | refine below_set ?_ GE135.out) | exact HB.out)) hb)
                                          clear BK132
                                          clear BK135
                                          clear HB
                                          have BK132 := n0_
                                          have BK135 := n1_
                                          have HB := n2_
                                          clear n0_ n1_ n2_
                                          (try clear hb)
                                          (try clear hb2)
                                          (try clear hk)
                                          (try clear hi)
                                          refine hK.out _ _ ⟨(blk_cell BK135.out 0).trans rfl, (blk_cell BK135.out 1).trans rfl, (blk_cell BK135.out 2).trans rfl, (blk_cell BK135.out 3).trans rfl, (blk_cell BK135.out 4).trans rfl, (blk_cell BK135.out 5).trans rfl, ((HB.out.cell (World.block_lt_of_cell? w _ hw139_0)).trans hw139_0), ((HB.out.cell (World.block_lt_of_cell? w _ hw139_1)).trans hw139_1), ((HB.out.cell (World.block_lt_of_cell? w _ hw140_0)).trans hw140_0), ((HB.out.cell (World.block_lt_of_cell? w _ hw140_1)).trans hw140_1), ((HB.out.cell (World.block_lt_of_cell? w _ hw142_0)).trans hw142_0), ((HB.out.cell (World.block_lt_of_cell? w _ hw142_1)).trans hw142_1), ((HB.out.cell (World.block_lt_of_cell? w _ hw143_0)).trans hw143_0), ((HB.out.cell (World.block_lt_of_cell? w _ hw143_1)).trans hw143_1)⟩ (fun hHeld => ?_)
                                          clear hK K
                                          refine norm_ (a' := ?_) ?_ ?_
                                          rotate_left
                                          · show Act.put _ (some 78) _ = _
                                            simp only [Act.put, List.setIfInBounds_toArray, List.set_cons_zero, List.set_cons_succ, i64_w, i32_w]
                                            rfl
                                          refine pure_ (i := 25) (N := some 79) (v := ?_) (a' := ?_) #[true, true, true, true, true, true, true, true, true, true, true, true, true, true, true, true, true, true, true, true, true, true, true, true, true, true, false] rfl rfl (any_of HT_.out (by kernel_rfl)) (fun _ _ _ h => h) (Or.inl ⟨by rfl, ?_⟩) ?_ ?_
                                          rotate_left
                                          · intro w'
                                            go_simp
                                            with_reducible rfl
                                          rotate_left
                                          · simp only [Act.put, List.setIfInBounds_toArray, List.set_cons_zero, List.set_cons_succ, i64_w, i32_w]
                                            rfl
                                          refine pure_ (i := 26) (N := some 3) (v := ?_) (a' := ?_) #[true, true, true, true, true, true, true, true, true, true, true, true, true, true, true, true, true, true, true, true, true, true, true, true, true, true, true] rfl rfl (any_of HT_.out (by kernel_rfl)) (fun _ _ _ h => h) (Or.inl ⟨by rfl, ?_⟩) ?_ ?_
                                          rotate_left
                                          · intro w'
                                            go_simp
                                            with_reducible rfl
                                          rotate_left
                                          · simp only [Act.put, List.setIfInBounds_toArray, List.set_cons_zero, List.set_cons_succ, i64_w, i32_w]
                                            rfl
                                          refine done_ (done_of HT_.out (by kernel_rfl)) ?_
                                          try go_wp2
                                          go_roundg k3
                                          case measure => have := HK1.out; have := HK2.out; have := HK3.out; omega
                                          case rel => exact ⟨(((x3_3 ++ t141) ++ (⟨#[58]⟩ : ByteArray)) ++ t144), (wrap64 (x7_3 + 1)), (by first | rfl | (simp; done) | (simp [*]; done)), (by first | rfl | (simp; done) | (simp [*]; done)), H', ⟨by have := HK1.out; have := HK2.out; have := HK3.out; omega⟩, ⟨by (with_reducible repeat (first | refine blk_drewN ?_ _ | refine blk_drew ?_ | refine blk_alloc ?_ _)); exact BK132.out⟩, ⟨by (with_reducible repeat (first | refine blk_drewN ?_ _ | refine blk_drew ?_ | refine blk_alloc ?_ _)); exact BK135.out⟩, ⟨by repeat (first | (with_reducible first | exact HB.out | apply below_alloc | apply pw_below_drewN | apply below_drew1 | refine below_set ?_ GE132.out | refine below_set ?_ GE135.out) | exact HB.out)⟩⟩
                                        · rw [if_neg c29] at H
                                          exact absurd H (by simp)
                                      · rw [if_neg c27] at H
                                        exact absurd H (by simp)
                                    · rw [if_neg c26] at H
                                      exact absurd H (by simp)
                                  · rw [if_neg c24] at H
                                    exact absurd H (by simp)
                                · rw [if_neg c23] at H
                                  have c23b0 : decide (x7_3 < (((rd_T76 ((rd_T52 l0_1 x4_1).f0) x6_2).f1).length : Int)) = false := decide_eq_false c23
                                  clear c23
                                  have H' := Aside0.mk H
                                  clear H
                                  have hnb35 := NB135_132.out
                                  have hnc35 := NB132_135.out
                                  have hcz36_0 : wr.cell? ⟨gb135, 0, none⟩ = some (.slice (some ad136) ((rd_T52 l0_1 x4_1).f0).length c134_0) := (blk_cell BK135.out 0).trans rfl
                                  have hcz36_1 : wr.cell? ⟨gb135, 1, none⟩ = some (.slice A134_1 ((rd_T52 l0_1 x4_1).f1).length c134_1) := (blk_cell BK135.out 1).trans rfl
                                  have hcz36_2 : wr.cell? ⟨gb135, 2, none⟩ = some (.int .i64 ((rd_T52 l0_1 x4_1).f2.f0)) := (blk_cell BK135.out 2).trans rfl
                                  have hcz36_3 : wr.cell? ⟨gb135, 3, none⟩ = some (.slice A134_3 ((rd_T52 l0_1 x4_1).f2.f1).length c134_3) := (blk_cell BK135.out 3).trans rfl
                                  have hcz36_4 : wr.cell? ⟨gb135, 4, none⟩ = some (.slice A134_4 ((rd_T52 l0_1 x4_1).f2.f2).length c134_4) := (blk_cell BK135.out 4).trans rfl
                                  have hcz36_5 : wr.cell? ⟨gb135, 5, none⟩ = some (.int .i32 ((rd_T52 l0_1 x4_1).f2.f3)) := (blk_cell BK135.out 5).trans rfl
                                  have hfz36_0 := blk_frozen BK135.out 0
                                  have hfz36_1 := blk_frozen BK135.out 1
                                  have hfz36_2 := blk_frozen BK135.out 2
                                  have hfz36_3 := blk_frozen BK135.out 3
                                  have hfz36_4 := blk_frozen BK135.out 4
                                  have hfz36_5 := blk_frozen BK135.out 5
                                  have p138 : 0 ≤ (x6_2 : Int) := of_decide_eq_true (by first | (with_reducible assumption) | assumption)
                                  have q138 : x6_2 < (((rd_T52 l0_1 x4_1).f0).length : Int) := of_decide_eq_true (by first | (with_reducible assumption) | assumption)
                                  obtain ⟨ad138, A138_1, c138_1, e138, hx138_0, hx138_1, hl138_1, hi138_1⟩ := at_T76 HR134_0.out x6_2 p138 q138
                                  obtain rfl : ad136 = ad138 := (by injection e138)
                                  replace hx138_0 := (HB.out.cell (World.block_lt_of_cell? w _ hx138_0)).trans hx138_0
                                  replace hx138_1 := (HB.out.cell (World.block_lt_of_cell? w _ hx138_1)).trans hx138_1
                                  have HR138_1 := Aside0.mk hi138_1
                                  have HC138_1 := Aside0.mk hl138_1
                                  clear hi138_1 hl138_1
                                  replace p138 := eq_true p138
                                  replace q138 := eq_true q138
                                  go_wp2
                                  go_roundg k3
                                  case measure => have := HK1.out; have := HK2.out; have := HK3.out; omega
                                  case rel => exact ⟨(x3_3), (wrap64 (x6_2 + 1)), (by first | rfl | (simp; done) | (simp [*]; done)), (by first | rfl | (simp; done) | (simp [*]; done)), H', ⟨by have := HK1.out; have := HK2.out; have := HK3.out; omega⟩, ⟨by (with_reducible repeat (first | refine blk_drewN ?_ _ | refine blk_drew ?_ | refine blk_alloc ?_ _)); exact BK132.out⟩, ⟨by (with_reducible repeat (first | refine blk_drewN ?_ _ | refine blk_drew ?_ | refine blk_alloc ?_ _)); exact BK135.out⟩, ⟨by repeat (first | (with_reducible first | exact HB.out | apply below_alloc | apply pw_below_drewN | apply below_drew1 | refine below_set ?_ GE132.out | refine below_set ?_ GE135.out) | exact HB.out)⟩⟩
                              · rw [if_neg c22] at H
                                exact absurd H (by simp)
                            · rw [if_neg c21] at H
                              exact absurd H (by simp)
                      · rw [if_neg c17] at H
                        exact absurd H (by simp)
                    · rw [if_neg c15] at H
                      exact absurd H (by simp)
                  · rw [if_neg c14] at H
                    exact absurd H (by simp)
                · rw [if_neg c13] at H
                  have c13b0 : decide (x6_2 < (((rd_T52 l0_1 x4_1).f0).length : Int)) = false := decide_eq_false c13
                  clear c13
                  have H' := Aside0.mk H
                  clear H
                  have hnb37 := NB135_132.out
                  have hnc37 := NB132_135.out
                  have hcz38_0 : wr.cell? ⟨gb135, 0, none⟩ = some (.slice A134_0 ((rd_T52 l0_1 x4_1).f0).length c134_0) := (blk_cell BK135.out 0).trans rfl
                  have hcz38_1 : wr.cell? ⟨gb135, 1, none⟩ = some (.slice A134_1 ((rd_T52 l0_1 x4_1).f1).length c134_1) := (blk_cell BK135.out 1).trans rfl
                  have hcz38_2 : wr.cell? ⟨gb135, 2, none⟩ = some (.int .i64 ((rd_T52 l0_1 x4_1).f2.f0)) := (blk_cell BK135.out 2).trans rfl
                  have hcz38_3 : wr.cell? ⟨gb135, 3, none⟩ = some (.slice A134_3 ((rd_T52 l0_1 x4_1).f2.f1).length c134_3) := (blk_cell BK135.out 3).trans rfl
                  have hcz38_4 : wr.cell? ⟨gb135, 4, none⟩ = some (.slice A134_4 ((rd_T52 l0_1 x4_1).f2.f2).length c134_4) := (blk_cell BK135.out 4).trans rfl
                  have hcz38_5 : wr.cell? ⟨gb135, 5, none⟩ = some (.int .i32 ((rd_T52 l0_1 x4_1).f2.f3)) := (blk_cell BK135.out 5).trans rfl
                  have hfz38_0 := blk_frozen BK135.out 0
                  have hfz38_1 := blk_frozen BK135.out 1
                  have hfz38_2 := blk_frozen BK135.out 2
                  have hfz38_3 := blk_frozen BK135.out 3
                  have hfz38_4 := blk_frozen BK135.out 4
                  have hfz38_5 := blk_frozen BK135.out 5
                  go_wp2
                  go_loopg [3, 8] k2 (fun kq v3 v8 w' => ∃ (x3_3 : ByteArray) (x8_3 : Int), v3 = .string x3_3 ∧ v8 = .int .i64 x8_3 ∧ Aside0 (jacquardref03_Print.l3 kq x3_3 x4_1 x8_3 a0_0 l0_1 ((rd_T52 l0_1 x4_1).f0) ((rd_T52 l0_1 x4_1).f1) ((rd_T52 l0_1 x4_1).f2.f0) ((rd_T52 l0_1 x4_1).f2.f1) ((rd_T52 l0_1 x4_1).f2.f2) ((rd_T52 l0_1 x4_1).f2.f3) = some r) ∧ Aside0 (kq ≤ k2) ∧ Aside0 (w'.heap[gb132]? = some (.cells #[.int .i64 a0_0, (.slice (some ad134) l0_1.length c0_1)] 28 (0, 0))) ∧ Aside0 (w'.heap[gb135]? = some (.cells #[(.slice A134_0 ((rd_T52 l0_1 x4_1).f0).length c134_0), (.slice A134_1 ((rd_T52 l0_1 x4_1).f1).length c134_1), .int .i64 ((rd_T52 l0_1 x4_1).f2.f0), (.slice A134_3 ((rd_T52 l0_1 x4_1).f2.f1).length c134_3), (.slice A134_4 ((rd_T52 l0_1 x4_1).f2.f2).length c134_4), .int .i32 ((rd_T52 l0_1 x4_1).f2.f3)] 52 (0, 0))) ∧ Aside0 (Below w.heap.size w w'))
                  case atStart => exact ⟨(x3_2), (0), (by first | rfl | (simp; done) | (simp [*]; done)), (by first | rfl | (simp; done) | (simp [*]; done)), H', ⟨Nat.le_refl _⟩, ⟨by (with_reducible repeat (first | refine blk_drewN ?_ _ | refine blk_drew ?_ | refine blk_alloc ?_ _)); exact BK132.out⟩, ⟨by (with_reducible repeat (first | refine blk_drewN ?_ _ | refine blk_drew ?_ | refine blk_alloc ?_ _)); exact BK135.out⟩, ⟨by repeat (first | (with_reducible first | exact HB.out | apply below_alloc | apply pw_below_drewN | apply below_drew1 | refine below_set ?_ GE132.out | refine below_set ?_ GE135.out) | exact HB.out)⟩⟩
                  case round =>
                    clear H'
                    try clear c1
                    try clear p1
                    try clear q1
                    try clear hx1
                    try clear c2
                    try clear p2
                    try clear c3
                    try clear c4
                    try clear c6
                    try clear c6b0
                    try clear p6
                    try clear c7
                    try clear c7b0
                    try clear c8
                    try clear c8b0
                    try clear c8b1
                    try clear c8b2
                    try clear c11
                    try clear c13
                    try clear c13b0
                    try clear p13
                    try clear q13
                    try clear hx13
                    try clear c14
                    try clear c14b0
                    try clear c14b1
                    try clear c14b2
                    try clear p14
                    try clear q14
                    try clear hx14
                    try clear c15
                    try clear c15b0
                    try clear c17
                    try clear c17b0
                    try clear c17b1
                    try clear c17b2
                    try clear c18
                    try clear c21
                    try clear c21b0
                    try clear c22
                    try clear c22b0
                    try clear c23
                    try clear c23b0
                    try clear c24
                    try clear c24b0
                    try clear c26
                    try clear c26b0
                    try clear c26b1
                    try clear c26b2
                    try clear c27
                    try clear c27b0
                    try clear c27b1
                    try clear c27b2
                    try clear c29
                    try clear c29b0
                    try clear c29b1
                    try clear c29b2
                    try clear c30
                    try clear c35
                    try clear c37
                    try clear hcz12_0
                    try clear hcz12_1
                    try clear hcz12_2
                    try clear hcz12_3
                    try clear hcz12_4
                    try clear hcz12_5
                    try clear hcz19_0
                    try clear hcz19_1
                    try clear hcz19_2
                    try clear hcz19_3
                    try clear hcz19_4
                    try clear hcz19_5
                    try clear hcz31_0
                    try clear hcz31_1
                    try clear hcz31_2
                    try clear hcz31_3
                    try clear hcz31_4
                    try clear hcz31_5
                    try clear hcz36_0
                    try clear hcz36_1
                    try clear hcz36_2
                    try clear hcz36_3
                    try clear hcz36_4
                    try clear hcz36_5
                    try clear hcz38_0
                    try clear hcz38_1
                    try clear hcz38_2
                    try clear hcz38_3
                    try clear hcz38_4
                    try clear hcz38_5
                    try clear hcz4_0
                    try clear hcz4_1
                    try clear hcz9_0
                    try clear hcz9_1
                    try clear hfz12_0
                    try clear hfz12_1
                    try clear hfz12_2
                    try clear hfz12_3
                    try clear hfz12_4
                    try clear hfz12_5
                    try clear hfz19_0
                    try clear hfz19_1
                    try clear hfz19_2
                    try clear hfz19_3
                    try clear hfz19_4
                    try clear hfz19_5
                    try clear hfz31_0
                    try clear hfz31_1
                    try clear hfz31_2
                    try clear hfz31_3
                    try clear hfz31_4
                    try clear hfz31_5
                    try clear hfz36_0
                    try clear hfz36_1
                    try clear hfz36_2
                    try clear hfz36_3
                    try clear hfz36_4
                    try clear hfz36_5
                    try clear hfz38_0
                    try clear hfz38_1
                    try clear hfz38_2
                    try clear hfz38_3
                    try clear hfz38_4
                    try clear hfz38_5
                    try clear hfz4_0
                    try clear hfz4_1
                    try clear hfz9_0
                    try clear hfz9_1
                    try clear hx134_0
                    try clear hx134_1
                    try clear hx134_2
                    try clear hx134_3
                    try clear hx134_4
                    try clear hx134_5
                    try clear hx136_0
                    try clear hx136_1
                    try clear hx138_0
                    try clear hx138_1
                    try clear hx139_0
                    try clear hx139_1
                    try clear hx140_0
                    try clear hx140_1
                    try clear hx142_0
                    try clear hx142_1
                    try clear hx143_0
                    try clear hx143_1
                    try clear p1
                    try clear p13
                    try clear p134
                    try clear p136
                    try clear p138
                    try clear p139
                    try clear p140
                    try clear p142
                    try clear p143
                    try clear p2
                    try clear q1
                    try clear q13
                    try clear q134
                    try clear q136
                    try clear q138
                    try clear q139
                    try clear q140
                    try clear q142
                    try clear q143
                    obtain ⟨x3_3, x8_3, rfl, rfl, HA, HK3, BK132, BK135, HB⟩ := hrel
                    cases gk with
                    | zero => exact absurd HA.out (by simp [jacquardref03_Print.l3])
                    | succ k3 =>
                      have H := HA.out
                      clear HA
                      simp only [jacquardref03_Print.l3] at H
                      by_cases c39 : x8_3 < (((rd_T52 l0_1 x4_1).f1).length : Int)
                      · rw [if_pos c39] at H
                        have c39b0 : decide (x8_3 < (((rd_T52 l0_1 x4_1).f1).length : Int)) = true := decide_eq_true c39
                        clear c39
                        by_cases c40 : x3_3.size + 1 ≤ 9223372036854775807
                        · rw [if_pos c40] at H
                          have c40b0 := eq_true c40
                          have c40b1 : decide (x3_3.size + 1 ≤ 9223372036854775807) = true := decide_eq_true c40
                          try have c40b2 : (9223372036854775807 < x3_3.size + 1) = False := eq_false (Nat.not_lt.2 c40)
                          by_cases c41 : 0 ≤ x8_3
                          · rw [if_pos c41] at H
                            have c41b0 : decide (0 ≤ x8_3) = true := decide_eq_true c41
                            clear c41
                            replace H := Option.bind_eq_some_iff.mp H
                            obtain ⟨t146, A420, H⟩ := H
                            replace H : (if (x3_3 ++ (⟨#[59]⟩ : ByteArray)).size + t146.size ≤ 9223372036854775807 then ((jacquardref03_digits.f k3 ((rd_T46 ((rd_T52 l0_1 x4_1).f1) x8_3).f1)).bind fun t148 => (if ((x3_3 ++ (⟨#[59]⟩ : ByteArray)) ++ t146).size + t148.size ≤ 9223372036854775807 then ((jacquardref03_digits.f k3 ((rd_T46 ((rd_T52 l0_1 x4_1).f1) x8_3).f2)).bind fun t150 => (if (((x3_3 ++ (⟨#[59]⟩ : ByteArray)) ++ t146) ++ t148).size + t150.size ≤ 9223372036854775807 then ((jacquardref03_row.f k3 ((rd_T46 ((rd_T52 l0_1 x4_1).f1) x8_3).f3)).bind fun t152 => (if ((((x3_3 ++ (⟨#[59]⟩ : ByteArray)) ++ t146) ++ t148) ++ t150).size + t152.size ≤ 9223372036854775807 then ((jacquardref03_digits.f k3 (wrap64 ((rd_T46 ((rd_T52 l0_1 x4_1).f1) x8_3).f4))).bind fun t154 => (if (((((x3_3 ++ (⟨#[59]⟩ : ByteArray)) ++ t146) ++ t148) ++ t150) ++ t152).size + t154.size ≤ 9223372036854775807 then (jacquardref03_Print.l3 k3 ((((((x3_3 ++ (⟨#[59]⟩ : ByteArray)) ++ t146) ++ t148) ++ t150) ++ t152) ++ t154) x4_1 (wrap64 (x8_3 + 1)) a0_0 l0_1 ((rd_T52 l0_1 x4_1).f0) ((rd_T52 l0_1 x4_1).f1) ((rd_T52 l0_1 x4_1).f2.f0) ((rd_T52 l0_1 x4_1).f2.f1) ((rd_T52 l0_1 x4_1).f2.f2) ((rd_T52 l0_1 x4_1).f2.f3)) else (none))) else (none))) else (none))) else (none))) else (none)) = some r := H
                            have A42 := Aside0.mk A420
                            clear A420
                            by_cases c43 : (x3_3 ++ (⟨#[59]⟩ : ByteArray)).size + t146.size ≤ 9223372036854775807
                            · rw [if_pos c43] at H
                              have c43b0 := eq_true c43
                              have c43b1 : decide ((x3_3 ++ (⟨#[59]⟩ : ByteArray)).size + t146.size ≤ 9223372036854775807) = true := decide_eq_true c43
                              try have c43b2 : (9223372036854775807 < (x3_3 ++ (⟨#[59]⟩ : ByteArray)).size + t146.size) = False := eq_false (Nat.not_lt.2 c43)
                              try (have c43b3 := c43b2; simp only [ByteArray.size_append, show (⟨#[59]⟩ : ByteArray).size = 1 from rfl] at c43b3)
                              replace H := Option.bind_eq_some_iff.mp H
                              obtain ⟨t148, A440, H⟩ := H
                              replace H : (if ((x3_3 ++ (⟨#[59]⟩ : ByteArray)) ++ t146).size + t148.size ≤ 9223372036854775807 then ((jacquardref03_digits.f k3 ((rd_T46 ((rd_T52 l0_1 x4_1).f1) x8_3).f2)).bind fun t150 => (if (((x3_3 ++ (⟨#[59]⟩ : ByteArray)) ++ t146) ++ t148).size + t150.size ≤ 9223372036854775807 then ((jacquardref03_row.f k3 ((rd_T46 ((rd_T52 l0_1 x4_1).f1) x8_3).f3)).bind fun t152 => (if ((((x3_3 ++ (⟨#[59]⟩ : ByteArray)) ++ t146) ++ t148) ++ t150).size + t152.size ≤ 9223372036854775807 then ((jacquardref03_digits.f k3 (wrap64 ((rd_T46 ((rd_T52 l0_1 x4_1).f1) x8_3).f4))).bind fun t154 => (if (((((x3_3 ++ (⟨#[59]⟩ : ByteArray)) ++ t146) ++ t148) ++ t150) ++ t152).size + t154.size ≤ 9223372036854775807 then (jacquardref03_Print.l3 k3 ((((((x3_3 ++ (⟨#[59]⟩ : ByteArray)) ++ t146) ++ t148) ++ t150) ++ t152) ++ t154) x4_1 (wrap64 (x8_3 + 1)) a0_0 l0_1 ((rd_T52 l0_1 x4_1).f0) ((rd_T52 l0_1 x4_1).f1) ((rd_T52 l0_1 x4_1).f2.f0) ((rd_T52 l0_1 x4_1).f2.f1) ((rd_T52 l0_1 x4_1).f2.f2) ((rd_T52 l0_1 x4_1).f2.f3)) else (none))) else (none))) else (none))) else (none)) = some r := H
                              have A44 := Aside0.mk A440
                              clear A440
                              by_cases c45 : ((x3_3 ++ (⟨#[59]⟩ : ByteArray)) ++ t146).size + t148.size ≤ 9223372036854775807
                              · rw [if_pos c45] at H
                                have c45b0 := eq_true c45
                                have c45b1 : decide (((x3_3 ++ (⟨#[59]⟩ : ByteArray)) ++ t146).size + t148.size ≤ 9223372036854775807) = true := decide_eq_true c45
                                try have c45b2 : (9223372036854775807 < ((x3_3 ++ (⟨#[59]⟩ : ByteArray)) ++ t146).size + t148.size) = False := eq_false (Nat.not_lt.2 c45)
                                try (have c45b3 := c45b2; simp only [ByteArray.size_append, show (⟨#[59]⟩ : ByteArray).size = 1 from rfl] at c45b3)
                                replace H := Option.bind_eq_some_iff.mp H
                                obtain ⟨t150, A460, H⟩ := H
                                replace H : (if (((x3_3 ++ (⟨#[59]⟩ : ByteArray)) ++ t146) ++ t148).size + t150.size ≤ 9223372036854775807 then ((jacquardref03_row.f k3 ((rd_T46 ((rd_T52 l0_1 x4_1).f1) x8_3).f3)).bind fun t152 => (if ((((x3_3 ++ (⟨#[59]⟩ : ByteArray)) ++ t146) ++ t148) ++ t150).size + t152.size ≤ 9223372036854775807 then ((jacquardref03_digits.f k3 (wrap64 ((rd_T46 ((rd_T52 l0_1 x4_1).f1) x8_3).f4))).bind fun t154 => (if (((((x3_3 ++ (⟨#[59]⟩ : ByteArray)) ++ t146) ++ t148) ++ t150) ++ t152).size + t154.size ≤ 9223372036854775807 then (jacquardref03_Print.l3 k3 ((((((x3_3 ++ (⟨#[59]⟩ : ByteArray)) ++ t146) ++ t148) ++ t150) ++ t152) ++ t154) x4_1 (wrap64 (x8_3 + 1)) a0_0 l0_1 ((rd_T52 l0_1 x4_1).f0) ((rd_T52 l0_1 x4_1).f1) ((rd_T52 l0_1 x4_1).f2.f0) ((rd_T52 l0_1 x4_1).f2.f1) ((rd_T52 l0_1 x4_1).f2.f2) ((rd_T52 l0_1 x4_1).f2.f3)) else (none))) else (none))) else (none)) = some r := H
                                have A46 := Aside0.mk A460
                                clear A460
                                by_cases c47 : (((x3_3 ++ (⟨#[59]⟩ : ByteArray)) ++ t146) ++ t148).size + t150.size ≤ 9223372036854775807
                                · rw [if_pos c47] at H
                                  have c47b0 := eq_true c47
                                  have c47b1 : decide ((((x3_3 ++ (⟨#[59]⟩ : ByteArray)) ++ t146) ++ t148).size + t150.size ≤ 9223372036854775807) = true := decide_eq_true c47
                                  try have c47b2 : (9223372036854775807 < (((x3_3 ++ (⟨#[59]⟩ : ByteArray)) ++ t146) ++ t148).size + t150.size) = False := eq_false (Nat.not_lt.2 c47)
                                  try (have c47b3 := c47b2; simp only [ByteArray.size_append, show (⟨#[59]⟩ : ByteArray).size = 1 from rfl] at c47b3)
                                  replace H := Option.bind_eq_some_iff.mp H
                                  obtain ⟨t152, A480, H⟩ := H
                                  replace H : (if ((((x3_3 ++ (⟨#[59]⟩ : ByteArray)) ++ t146) ++ t148) ++ t150).size + t152.size ≤ 9223372036854775807 then ((jacquardref03_digits.f k3 (wrap64 ((rd_T46 ((rd_T52 l0_1 x4_1).f1) x8_3).f4))).bind fun t154 => (if (((((x3_3 ++ (⟨#[59]⟩ : ByteArray)) ++ t146) ++ t148) ++ t150) ++ t152).size + t154.size ≤ 9223372036854775807 then (jacquardref03_Print.l3 k3 ((((((x3_3 ++ (⟨#[59]⟩ : ByteArray)) ++ t146) ++ t148) ++ t150) ++ t152) ++ t154) x4_1 (wrap64 (x8_3 + 1)) a0_0 l0_1 ((rd_T52 l0_1 x4_1).f0) ((rd_T52 l0_1 x4_1).f1) ((rd_T52 l0_1 x4_1).f2.f0) ((rd_T52 l0_1 x4_1).f2.f1) ((rd_T52 l0_1 x4_1).f2.f2) ((rd_T52 l0_1 x4_1).f2.f3)) else (none))) else (none)) = some r := H
                                  have A48 := Aside0.mk A480
                                  clear A480
                                  by_cases c49 : ((((x3_3 ++ (⟨#[59]⟩ : ByteArray)) ++ t146) ++ t148) ++ t150).size + t152.size ≤ 9223372036854775807
                                  · rw [if_pos c49] at H
                                    have c49b0 := eq_true c49
                                    have c49b1 : decide (((((x3_3 ++ (⟨#[59]⟩ : ByteArray)) ++ t146) ++ t148) ++ t150).size + t152.size ≤ 9223372036854775807) = true := decide_eq_true c49
                                    try have c49b2 : (9223372036854775807 < ((((x3_3 ++ (⟨#[59]⟩ : ByteArray)) ++ t146) ++ t148) ++ t150).size + t152.size) = False := eq_false (Nat.not_lt.2 c49)
                                    try (have c49b3 := c49b2; simp only [ByteArray.size_append, show (⟨#[59]⟩ : ByteArray).size = 1 from rfl] at c49b3)
                                    replace H := Option.bind_eq_some_iff.mp H
                                    obtain ⟨t154, A500, H⟩ := H
                                    replace H : (if (((((x3_3 ++ (⟨#[59]⟩ : ByteArray)) ++ t146) ++ t148) ++ t150) ++ t152).size + t154.size ≤ 9223372036854775807 then (jacquardref03_Print.l3 k3 ((((((x3_3 ++ (⟨#[59]⟩ : ByteArray)) ++ t146) ++ t148) ++ t150) ++ t152) ++ t154) x4_1 (wrap64 (x8_3 + 1)) a0_0 l0_1 ((rd_T52 l0_1 x4_1).f0) ((rd_T52 l0_1 x4_1).f1) ((rd_T52 l0_1 x4_1).f2.f0) ((rd_T52 l0_1 x4_1).f2.f1) ((rd_T52 l0_1 x4_1).f2.f2) ((rd_T52 l0_1 x4_1).f2.f3)) else (none)) = some r := H
                                    have A50 := Aside0.mk A500
                                    clear A500
                                    by_cases c51 : (((((x3_3 ++ (⟨#[59]⟩ : ByteArray)) ++ t146) ++ t148) ++ t150) ++ t152).size + t154.size ≤ 9223372036854775807
                                    · rw [if_pos c51] at H
                                      have c51b0 := eq_true c51
                                      have c51b1 : decide ((((((x3_3 ++ (⟨#[59]⟩ : ByteArray)) ++ t146) ++ t148) ++ t150) ++ t152).size + t154.size ≤ 9223372036854775807) = true := decide_eq_true c51
                                      try have c51b2 : (9223372036854775807 < (((((x3_3 ++ (⟨#[59]⟩ : ByteArray)) ++ t146) ++ t148) ++ t150) ++ t152).size + t154.size) = False := eq_false (Nat.not_lt.2 c51)
                                      try (have c51b3 := c51b2; simp only [ByteArray.size_append, show (⟨#[59]⟩ : ByteArray).size = 1 from rfl] at c51b3)
                                      have H' := Aside0.mk H
                                      clear H
                                      have hnb52 := NB135_132.out
                                      have hnc52 := NB132_135.out
                                      have hcz53_0 : wr.cell? ⟨gb135, 0, none⟩ = some (.slice A134_0 ((rd_T52 l0_1 x4_1).f0).length c134_0) := (blk_cell BK135.out 0).trans rfl
                                      have hcz53_1 : wr.cell? ⟨gb135, 1, none⟩ = some (.slice A134_1 ((rd_T52 l0_1 x4_1).f1).length c134_1) := (blk_cell BK135.out 1).trans rfl
                                      have hcz53_2 : wr.cell? ⟨gb135, 2, none⟩ = some (.int .i64 ((rd_T52 l0_1 x4_1).f2.f0)) := (blk_cell BK135.out 2).trans rfl
                                      have hcz53_3 : wr.cell? ⟨gb135, 3, none⟩ = some (.slice A134_3 ((rd_T52 l0_1 x4_1).f2.f1).length c134_3) := (blk_cell BK135.out 3).trans rfl
                                      have hcz53_4 : wr.cell? ⟨gb135, 4, none⟩ = some (.slice A134_4 ((rd_T52 l0_1 x4_1).f2.f2).length c134_4) := (blk_cell BK135.out 4).trans rfl
                                      have hcz53_5 : wr.cell? ⟨gb135, 5, none⟩ = some (.int .i32 ((rd_T52 l0_1 x4_1).f2.f3)) := (blk_cell BK135.out 5).trans rfl
                                      have hfz53_0 := blk_frozen BK135.out 0
                                      have hfz53_1 := blk_frozen BK135.out 1
                                      have hfz53_2 := blk_frozen BK135.out 2
                                      have hfz53_3 := blk_frozen BK135.out 3
                                      have hfz53_4 := blk_frozen BK135.out 4
                                      have hfz53_5 := blk_frozen BK135.out 5
                                      try go_wp2
                                      have n0_ := Aside0.mk (blk_drew BK132.out)
                                      have n1_ := Aside0.mk (blk_drew BK135.out)
                                      have n2_ := Aside0.mk (below_drew1 HB.out)
                                      clear BK132
                                      clear BK135
                                      clear HB
                                      have BK132 := n0_
                                      have BK135 := n1_
                                      have HB := n2_
                                      clear n0_ n1_ n2_
                                      have p145 : 0 ≤ (x8_3 : Int) := of_decide_eq_true (by first | (with_reducible assumption) | assumption)
                                      have q145 : x8_3 < (((rd_T52 l0_1 x4_1).f1).length : Int) := of_decide_eq_true (by first | (with_reducible assumption) | assumption)
                                      obtain ⟨ad145, A145_3, c145_3, e145, hx145_0, hx145_1, hx145_2, hx145_3, hx145_4, hl145_3, hi145_3⟩ := at_T46 HR134_1.out x8_3 p145 q145
                                      have hw145_4 := hx145_4
                                      have hw145_3 := hx145_3
                                      have hw145_2 := hx145_2
                                      have hw145_1 := hx145_1
                                      have hw145_0 := hx145_0
                                      cases e145
                                      replace hx145_0 := (HB.out.cell (World.block_lt_of_cell? w _ hx145_0)).trans hx145_0
                                      replace hx145_1 := (HB.out.cell (World.block_lt_of_cell? w _ hx145_1)).trans hx145_1
                                      replace hx145_2 := (HB.out.cell (World.block_lt_of_cell? w _ hx145_2)).trans hx145_2
                                      replace hx145_3 := (HB.out.cell (World.block_lt_of_cell? w _ hx145_3)).trans hx145_3
                                      replace hx145_4 := (HB.out.cell (World.block_lt_of_cell? w _ hx145_4)).trans hx145_4
                                      have HR145_3 := Aside0.mk hi145_3
                                      have HC145_3 := Aside0.mk hl145_3
                                      clear hi145_3 hl145_3
                                      replace p145 := eq_true p145
                                      replace q145 := eq_true q145
                                      have p147 : 0 ≤ (x8_3 : Int) := of_decide_eq_true (by first | (with_reducible assumption) | assumption)
                                      have q147 : x8_3 < (((rd_T52 l0_1 x4_1).f1).length : Int) := of_decide_eq_true (by first | (with_reducible assumption) | assumption)
                                      obtain ⟨ad147, A147_3, c147_3, e147, hx147_0, hx147_1, hx147_2, hx147_3, hx147_4, hl147_3, hi147_3⟩ := at_T46 HR134_1.out x8_3 p147 q147
                                      have hw147_4 := hx147_4
                                      have hw147_3 := hx147_3
                                      have hw147_2 := hx147_2
                                      have hw147_1 := hx147_1
                                      have hw147_0 := hx147_0
                                      obtain rfl : ad145 = ad147 := (by injection e147)
                                      replace hx147_0 := (HB.out.cell (World.block_lt_of_cell? w _ hx147_0)).trans hx147_0
                                      replace hx147_1 := (HB.out.cell (World.block_lt_of_cell? w _ hx147_1)).trans hx147_1
                                      replace hx147_2 := (HB.out.cell (World.block_lt_of_cell? w _ hx147_2)).trans hx147_2
                                      replace hx147_3 := (HB.out.cell (World.block_lt_of_cell? w _ hx147_3)).trans hx147_3
                                      replace hx147_4 := (HB.out.cell (World.block_lt_of_cell? w _ hx147_4)).trans hx147_4
                                      have HR147_3 := Aside0.mk hi147_3
                                      have HC147_3 := Aside0.mk hl147_3
                                      clear hi147_3 hl147_3
                                      replace p147 := eq_true p147
                                      replace q147 := eq_true q147
                                      have ea_ := Option.some.inj (hx145_3.symm.trans hx147_3)
                                      injection ea_ with ea_ en_ ec_
                                      subst ea_
                                      subst ec_
                                      clear en_
                                      have p149 : 0 ≤ (x8_3 : Int) := of_decide_eq_true (by first | (with_reducible assumption) | assumption)
                                      have q149 : x8_3 < (((rd_T52 l0_1 x4_1).f1).length : Int) := of_decide_eq_true (by first | (with_reducible assumption) | assumption)
                                      obtain ⟨ad149, A149_3, c149_3, e149, hx149_0, hx149_1, hx149_2, hx149_3, hx149_4, hl149_3, hi149_3⟩ := at_T46 HR134_1.out x8_3 p149 q149
                                      have hw149_4 := hx149_4
                                      have hw149_3 := hx149_3
                                      have hw149_2 := hx149_2
                                      have hw149_1 := hx149_1
                                      have hw149_0 := hx149_0
                                      obtain rfl : ad145 = ad149 := (by injection e149)
                                      replace hx149_0 := (HB.out.cell (World.block_lt_of_cell? w _ hx149_0)).trans hx149_0
                                      replace hx149_1 := (HB.out.cell (World.block_lt_of_cell? w _ hx149_1)).trans hx149_1
                                      replace hx149_2 := (HB.out.cell (World.block_lt_of_cell? w _ hx149_2)).trans hx149_2
                                      replace hx149_3 := (HB.out.cell (World.block_lt_of_cell? w _ hx149_3)).trans hx149_3
                                      replace hx149_4 := (HB.out.cell (World.block_lt_of_cell? w _ hx149_4)).trans hx149_4
                                      have HR149_3 := Aside0.mk hi149_3
                                      have HC149_3 := Aside0.mk hl149_3
                                      clear hi149_3 hl149_3
                                      replace p149 := eq_true p149
                                      replace q149 := eq_true q149
                                      have ea_ := Option.some.inj (hx145_3.symm.trans hx149_3)
                                      injection ea_ with ea_ en_ ec_
                                      subst ea_
                                      subst ec_
                                      clear en_
                                      have p151 : 0 ≤ (x8_3 : Int) := of_decide_eq_true (by first | (with_reducible assumption) | assumption)
                                      have q151 : x8_3 < (((rd_T52 l0_1 x4_1).f1).length : Int) := of_decide_eq_true (by first | (with_reducible assumption) | assumption)
                                      obtain ⟨ad151, A151_3, c151_3, e151, hx151_0, hx151_1, hx151_2, hx151_3, hx151_4, hl151_3, hi151_3⟩ := at_T46 HR134_1.out x8_3 p151 q151
                                      have hw151_4 := hx151_4
                                      have hw151_3 := hx151_3
                                      have hw151_2 := hx151_2
                                      have hw151_1 := hx151_1
                                      have hw151_0 := hx151_0
                                      obtain rfl : ad145 = ad151 := (by injection e151)
                                      replace hx151_0 := (HB.out.cell (World.block_lt_of_cell? w _ hx151_0)).trans hx151_0
                                      replace hx151_1 := (HB.out.cell (World.block_lt_of_cell? w _ hx151_1)).trans hx151_1
                                      replace hx151_2 := (HB.out.cell (World.block_lt_of_cell? w _ hx151_2)).trans hx151_2
                                      replace hx151_3 := (HB.out.cell (World.block_lt_of_cell? w _ hx151_3)).trans hx151_3
                                      replace hx151_4 := (HB.out.cell (World.block_lt_of_cell? w _ hx151_4)).trans hx151_4
                                      have HR151_3 := Aside0.mk hi151_3
                                      have HC151_3 := Aside0.mk hl151_3
                                      clear hi151_3 hl151_3
                                      replace p151 := eq_true p151
                                      replace q151 := eq_true q151
                                      have ea_ := Option.some.inj (hx145_3.symm.trans hx151_3)
                                      injection ea_ with ea_ en_ ec_
                                      subst ea_
                                      subst ec_
                                      clear en_
                                      have p153 : 0 ≤ (x8_3 : Int) := of_decide_eq_true (by first | (with_reducible assumption) | assumption)
                                      have q153 : x8_3 < (((rd_T52 l0_1 x4_1).f1).length : Int) := of_decide_eq_true (by first | (with_reducible assumption) | assumption)
                                      obtain ⟨ad153, A153_3, c153_3, e153, hx153_0, hx153_1, hx153_2, hx153_3, hx153_4, hl153_3, hi153_3⟩ := at_T46 HR134_1.out x8_3 p153 q153
                                      have hw153_4 := hx153_4
                                      have hw153_3 := hx153_3
                                      have hw153_2 := hx153_2
                                      have hw153_1 := hx153_1
                                      have hw153_0 := hx153_0
                                      obtain rfl : ad145 = ad153 := (by injection e153)
                                      replace hx153_0 := (HB.out.cell (World.block_lt_of_cell? w _ hx153_0)).trans hx153_0
                                      replace hx153_1 := (HB.out.cell (World.block_lt_of_cell? w _ hx153_1)).trans hx153_1
                                      replace hx153_2 := (HB.out.cell (World.block_lt_of_cell? w _ hx153_2)).trans hx153_2
                                      replace hx153_3 := (HB.out.cell (World.block_lt_of_cell? w _ hx153_3)).trans hx153_3
                                      replace hx153_4 := (HB.out.cell (World.block_lt_of_cell? w _ hx153_4)).trans hx153_4
                                      have HR153_3 := Aside0.mk hi153_3
                                      have HC153_3 := Aside0.mk hl153_3
                                      clear hi153_3 hl153_3
                                      replace p153 := eq_true p153
                                      replace q153 := eq_true q153
                                      have ea_ := Option.some.inj (hx145_3.symm.trans hx153_3)
                                      injection ea_ with ea_ en_ ec_
                                      subst ea_
                                      subst ec_
                                      clear en_
                                      refine start_ (n := 44) (S := fun w' => w'.cell? ⟨gb135, 0, none⟩ = some (.slice A134_0 ((rd_T52 l0_1 x4_1).f0).length c134_0) ∧ w'.cell? ⟨gb135, 1, none⟩ = some (.slice (some ad145) ((rd_T52 l0_1 x4_1).f1).length c134_1) ∧ w'.cell? ⟨gb135, 2, none⟩ = some (.int .i64 ((rd_T52 l0_1 x4_1).f2.f0)) ∧ w'.cell? ⟨gb135, 3, none⟩ = some (.slice A134_3 ((rd_T52 l0_1 x4_1).f2.f1).length c134_3) ∧ w'.cell? ⟨gb135, 4, none⟩ = some (.slice A134_4 ((rd_T52 l0_1 x4_1).f2.f2).length c134_4) ∧ w'.cell? ⟨gb135, 5, none⟩ = some (.int .i32 ((rd_T52 l0_1 x4_1).f2.f3)) ∧ w'.cell? (ad145.add ((x8_3).toNat * 5)) = some (.int .i64 ((rd_T46 ((rd_T52 l0_1 x4_1).f1) x8_3).f0)) ∧ w'.cell? ⟨(ad145.add ((x8_3).toNat * 5)).block, (ad145.add ((x8_3).toNat * 5)).off + 1, none⟩ = some (.int .i64 ((rd_T46 ((rd_T52 l0_1 x4_1).f1) x8_3).f1)) ∧ w'.cell? ⟨(ad145.add ((x8_3).toNat * 5)).block, (ad145.add ((x8_3).toNat * 5)).off + 2, none⟩ = some (.int .i64 ((rd_T46 ((rd_T52 l0_1 x4_1).f1) x8_3).f2)) ∧ w'.cell? ⟨(ad145.add ((x8_3).toNat * 5)).block, (ad145.add ((x8_3).toNat * 5)).off + 3, none⟩ = some (.slice A145_3 ((rd_T46 ((rd_T52 l0_1 x4_1).f1) x8_3).f3).length c145_3) ∧ w'.cell? ⟨(ad145.add ((x8_3).toNat * 5)).block, (ad145.add ((x8_3).toNat * 5)).off + 4, none⟩ = some (.int .i32 ((rd_T46 ((rd_T52 l0_1 x4_1).f1) x8_3).f4)) ∧ w'.cell? (ad145.add ((x8_3).toNat * 5)) = some (.int .i64 ((rd_T46 ((rd_T52 l0_1 x4_1).f1) x8_3).f0)) ∧ w'.cell? ⟨(ad145.add ((x8_3).toNat * 5)).block, (ad145.add ((x8_3).toNat * 5)).off + 1, none⟩ = some (.int .i64 ((rd_T46 ((rd_T52 l0_1 x4_1).f1) x8_3).f1)) ∧ w'.cell? ⟨(ad145.add ((x8_3).toNat * 5)).block, (ad145.add ((x8_3).toNat * 5)).off + 2, none⟩ = some (.int .i64 ((rd_T46 ((rd_T52 l0_1 x4_1).f1) x8_3).f2)) ∧ w'.cell? ⟨(ad145.add ((x8_3).toNat * 5)).block, (ad145.add ((x8_3).toNat * 5)).off + 3, none⟩ = some (.slice A145_3 ((rd_T46 ((rd_T52 l0_1 x4_1).f1) x8_3).f3).length c145_3) ∧ w'.cell? ⟨(ad145.add ((x8_3).toNat * 5)).block, (ad145.add ((x8_3).toNat * 5)).off + 4, none⟩ = some (.int .i32 ((rd_T46 ((rd_T52 l0_1 x4_1).f1) x8_3).f4)) ∧ w'.cell? (ad145.add ((x8_3).toNat * 5)) = some (.int .i64 ((rd_T46 ((rd_T52 l0_1 x4_1).f1) x8_3).f0)) ∧ w'.cell? ⟨(ad145.add ((x8_3).toNat * 5)).block, (ad145.add ((x8_3).toNat * 5)).off + 1, none⟩ = some (.int .i64 ((rd_T46 ((rd_T52 l0_1 x4_1).f1) x8_3).f1)) ∧ w'.cell? ⟨(ad145.add ((x8_3).toNat * 5)).block, (ad145.add ((x8_3).toNat * 5)).off + 2, none⟩ = some (.int .i64 ((rd_T46 ((rd_T52 l0_1 x4_1).f1) x8_3).f2)) ∧ w'.cell? ⟨(ad145.add ((x8_3).toNat * 5)).block, (ad145.add ((x8_3).toNat * 5)).off + 3, none⟩ = some (.slice A145_3 ((rd_T46 ((rd_T52 l0_1 x4_1).f1) x8_3).f3).length c145_3) ∧ w'.cell? ⟨(ad145.add ((x8_3).toNat * 5)).block, (ad145.add ((x8_3).toNat * 5)).off + 4, none⟩ = some (.int .i32 ((rd_T46 ((rd_T52 l0_1 x4_1).f1) x8_3).f4)) ∧ w'.cell? (ad145.add ((x8_3).toNat * 5)) = some (.int .i64 ((rd_T46 ((rd_T52 l0_1 x4_1).f1) x8_3).f0)) ∧ w'.cell? ⟨(ad145.add ((x8_3).toNat * 5)).block, (ad145.add ((x8_3).toNat * 5)).off + 1, none⟩ = some (.int .i64 ((rd_T46 ((rd_T52 l0_1 x4_1).f1) x8_3).f1)) ∧ w'.cell? ⟨(ad145.add ((x8_3).toNat * 5)).block, (ad145.add ((x8_3).toNat * 5)).off + 2, none⟩ = some (.int .i64 ((rd_T46 ((rd_T52 l0_1 x4_1).f1) x8_3).f2)) ∧ w'.cell? ⟨(ad145.add ((x8_3).toNat * 5)).block, (ad145.add ((x8_3).toNat * 5)).off + 3, none⟩ = some (.slice A145_3 ((rd_T46 ((rd_T52 l0_1 x4_1).f1) x8_3).f3).length c145_3) ∧ w'.cell? ⟨(ad145.add ((x8_3).toNat * 5)).block, (ad145.add ((x8_3).toNat * 5)).off + 4, none⟩ = some (.int .i32 ((rd_T46 ((rd_T52 l0_1 x4_1).f1) x8_3).f4)) ∧ w'.cell? (ad145.add ((x8_3).toNat * 5)) = some (.int .i64 ((rd_T46 ((rd_T52 l0_1 x4_1).f1) x8_3).f0)) ∧ w'.cell? ⟨(ad145.add ((x8_3).toNat * 5)).block, (ad145.add ((x8_3).toNat * 5)).off + 1, none⟩ = some (.int .i64 ((rd_T46 ((rd_T52 l0_1 x4_1).f1) x8_3).f1)) ∧ w'.cell? ⟨(ad145.add ((x8_3).toNat * 5)).block, (ad145.add ((x8_3).toNat * 5)).off + 2, none⟩ = some (.int .i64 ((rd_T46 ((rd_T52 l0_1 x4_1).f1) x8_3).f2)) ∧ w'.cell? ⟨(ad145.add ((x8_3).toNat * 5)).block, (ad145.add ((x8_3).toNat * 5)).off + 3, none⟩ = some (.slice A145_3 ((rd_T46 ((rd_T52 l0_1 x4_1).f1) x8_3).f3).length c145_3) ∧ w'.cell? ⟨(ad145.add ((x8_3).toNat * 5)).block, (ad145.add ((x8_3).toNat * 5)).off + 4, none⟩ = some (.int .i32 ((rd_T46 ((rd_T52 l0_1 x4_1).f1) x8_3).f4))) (ds := []) #[false, false, false, false, false, false, false, false, false, false, false, false, false, false, false, false, false, false, false, false, false, false, false, false, false, false, false, false, false, false, false, false, false, false, false, false, false, false, false, false, false, false, false, false] (by kernel_rfl) rfl rfl ⟨(blk_cell BK135.out 0).trans rfl, (blk_cell BK135.out 1).trans rfl, (blk_cell BK135.out 2).trans rfl, (blk_cell BK135.out 3).trans rfl, (blk_cell BK135.out 4).trans rfl, (blk_cell BK135.out 5).trans rfl, ((HB.out.cell (World.block_lt_of_cell? w _ hw145_0)).trans hw145_0), ((HB.out.cell (World.block_lt_of_cell? w _ hw145_1)).trans hw145_1), ((HB.out.cell (World.block_lt_of_cell? w _ hw145_2)).trans hw145_2), ((HB.out.cell (World.block_lt_of_cell? w _ hw145_3)).trans hw145_3), ((HB.out.cell (World.block_lt_of_cell? w _ hw145_4)).trans hw145_4), ((HB.out.cell (World.block_lt_of_cell? w _ hw147_0)).trans hw147_0), ((HB.out.cell (World.block_lt_of_cell? w _ hw147_1)).trans hw147_1), ((HB.out.cell (World.block_lt_of_cell? w _ hw147_2)).trans hw147_2), ((HB.out.cell (World.block_lt_of_cell? w _ hw147_3)).trans hw147_3), ((HB.out.cell (World.block_lt_of_cell? w _ hw147_4)).trans hw147_4), ((HB.out.cell (World.block_lt_of_cell? w _ hw149_0)).trans hw149_0), ((HB.out.cell (World.block_lt_of_cell? w _ hw149_1)).trans hw149_1), ((HB.out.cell (World.block_lt_of_cell? w _ hw149_2)).trans hw149_2), ((HB.out.cell (World.block_lt_of_cell? w _ hw149_3)).trans hw149_3), ((HB.out.cell (World.block_lt_of_cell? w _ hw149_4)).trans hw149_4), ((HB.out.cell (World.block_lt_of_cell? w _ hw151_0)).trans hw151_0), ((HB.out.cell (World.block_lt_of_cell? w _ hw151_1)).trans hw151_1), ((HB.out.cell (World.block_lt_of_cell? w _ hw151_2)).trans hw151_2), ((HB.out.cell (World.block_lt_of_cell? w _ hw151_3)).trans hw151_3), ((HB.out.cell (World.block_lt_of_cell? w _ hw151_4)).trans hw151_4), ((HB.out.cell (World.block_lt_of_cell? w _ hw153_0)).trans hw153_0), ((HB.out.cell (World.block_lt_of_cell? w _ hw153_1)).trans hw153_1), ((HB.out.cell (World.block_lt_of_cell? w _ hw153_2)).trans hw153_2), ((HB.out.cell (World.block_lt_of_cell? w _ hw153_3)).trans hw153_3), ((HB.out.cell (World.block_lt_of_cell? w _ hw153_4)).trans hw153_4)⟩ (fun hHeld => ?_); refine with_tabW jacquardref03_Print.tab18 jacquardref03_Print.bits18 (fun HT_ HW_ => ?_)
                                      generalize wr.drew = w54 at BK132 BK135 HB HR145_3 HR147_3 HR149_3 HR151_3 HR153_3 hx145_0 hx145_1 hx145_2 hx145_3 hx145_4 hx147_0 hx147_1 hx147_2 hx147_3 hx147_4 hx149_0 hx149_1 hx149_2 hx149_3 hx149_4 hx151_0 hx151_1 hx151_2 hx151_3 hx151_4 hx153_0 hx153_1 hx153_2 hx153_3 hx153_4 hHeld ⊢
                                      refine pure_ (i := 0) (N := some 87) (v := ?_) (a' := ?_) #[true, false, false, false, false, false, false, false, false, false, false, false, false, false, false, false, false, false, false, false, false, false, false, false, false, false, false, false, false, false, false, false, false, false, false, false, false, false, false, false, false, false, false, false] rfl rfl (any_of HT_.out (by kernel_rfl)) (fun _ _ _ h => h) (Or.inl ⟨by rfl, ?_⟩) ?_ ?_
                                      rotate_left
                                      · intro w'
                                        go_simp
                                        with_reducible rfl
                                      rotate_left
                                      · simp only [Act.put, List.setIfInBounds_toArray, List.set_cons_zero, List.set_cons_succ, i64_w, i32_w]
                                        rfl
                                      refine pure_ (i := 1) (N := some 88) (v := ?_) (a' := ?_) #[true, true, false, false, false, false, false, false, false, false, false, false, false, false, false, false, false, false, false, false, false, false, false, false, false, false, false, false, false, false, false, false, false, false, false, false, false, false, false, false, false, false, false, false] rfl rfl (any_of HT_.out (by kernel_rfl)) (fun _ _ _ h => h) (Or.inl ⟨by rfl, ?_⟩) ?_ ?_
                                      rotate_left
                                      · intro w'
                                        go_simp
                                        with_reducible rfl
                                      rotate_left
                                      · simp only [Act.put, List.setIfInBounds_toArray, List.set_cons_zero, List.set_cons_succ, i64_w, i32_w]
                                        rfl
                                      refine pure_ (i := 2) (N := some 89) (v := ?_) (a' := ?_) #[true, true, true, false, false, false, false, false, false, false, false, false, false, false, false, false, false, false, false, false, false, false, false, false, false, false, false, false, false, false, false, false, false, false, false, false, false, false, false, false, false, false, false, false] rfl rfl (any_of HT_.out (by kernel_rfl)) (fun _ _ _ h => h) (Or.inl ⟨by rfl, ?_⟩) ?_ ?_
                                      rotate_left
                                      · intro w'
                                        go_simp
                                        with_reducible rfl
                                      rotate_left
                                      · simp only [Act.put, List.setIfInBounds_toArray, List.set_cons_zero, List.set_cons_succ, i64_w, i32_w]
                                        rfl
                                      refine pure_ (i := 4) (N := some 91) (v := ?_) (a' := ?_) #[true, true, true, false, true, false, false, false, false, false, false, false, false, false, false, false, false, false, false, false, false, false, false, false, false, false, false, false, false, false, false, false, false, false, false, false, false, false, false, false, false, false, false, false] rfl rfl (any_of HT_.out (by kernel_rfl)) (fun _ _ _ h => h) (Or.inl ⟨by rfl, ?_⟩) ?_ ?_
                                      rotate_left
                                      · intro w'
                                        go_simp
                                        with_reducible rfl
                                      rotate_left
                                      · simp only [Act.put, List.setIfInBounds_toArray, List.set_cons_zero, List.set_cons_succ, i64_w, i32_w]
                                        rfl
                                      refine pure_ (i := 10) (N := some 97) (v := ?_) (a' := ?_) #[true, true, true, false, true, false, false, false, false, false, true, false, false, false, false, false, false, false, false, false, false, false, false, false, false, false, false, false, false, false, false, false, false, false, false, false, false, false, false, false, false, false, false, false] rfl rfl (any_of HT_.out (by kernel_rfl)) (fun _ _ _ h => h) (Or.inl ⟨by rfl, ?_⟩) ?_ ?_
                                      rotate_left
                                      · intro w'
                                        go_simp
                                        with_reducible rfl
                                      rotate_left
                                      · simp only [Act.put, List.setIfInBounds_toArray, List.set_cons_zero, List.set_cons_succ, i64_w, i32_w]
                                        rfl
                                      refine pure_ (i := 12) (N := some 99) (v := ?_) (a' := ?_) #[true, true, true, false, true, false, false, false, false, false, true, false, true, false, false, false, false, false, false, false, false, false, false, false, false, false, false, false, false, false, false, false, false, false, false, false, false, false, false, false, false, false, false, false] rfl rfl (any_of HT_.out (by kernel_rfl)) (fun _ _ _ h => h) (Or.inl ⟨by rfl, ?_⟩) ?_ ?_
                                      rotate_left
                                      · intro w'
                                        go_simp
                                        with_reducible rfl
                                      rotate_left
                                      · simp only [Act.put, List.setIfInBounds_toArray, List.set_cons_zero, List.set_cons_succ, i64_w, i32_w]
                                        rfl
                                      refine pure_ (i := 18) (N := some 105) (v := ?_) (a' := ?_) #[true, true, true, false, true, false, false, false, false, false, true, false, true, false, false, false, false, false, true, false, false, false, false, false, false, false, false, false, false, false, false, false, false, false, false, false, false, false, false, false, false, false, false, false] rfl rfl (any_of HT_.out (by kernel_rfl)) (fun _ _ _ h => h) (Or.inl ⟨by rfl, ?_⟩) ?_ ?_
                                      rotate_left
                                      · intro w'
                                        go_simp
                                        with_reducible rfl
                                      rotate_left
                                      · simp only [Act.put, List.setIfInBounds_toArray, List.set_cons_zero, List.set_cons_succ, i64_w, i32_w]
                                        rfl
                                      refine pure_ (i := 20) (N := some 107) (v := ?_) (a' := ?_) #[true, true, true, false, true, false, false, false, false, false, true, false, true, false, false, false, false, false, true, false, true, false, false, false, false, false, false, false, false, false, false, false, false, false, false, false, false, false, false, false, false, false, false, false] rfl rfl (any_of HT_.out (by kernel_rfl)) (fun _ _ _ h => h) (Or.inl ⟨by rfl, ?_⟩) ?_ ?_
                                      rotate_left
                                      · intro w'
                                        go_simp
                                        with_reducible rfl
                                      rotate_left
                                      · simp only [Act.put, List.setIfInBounds_toArray, List.set_cons_zero, List.set_cons_succ, i64_w, i32_w]
                                        rfl
                                      refine pure_ (i := 26) (N := some 113) (v := ?_) (a' := ?_) #[true, true, true, false, true, false, false, false, false, false, true, false, true, false, false, false, false, false, true, false, true, false, false, false, false, false, true, false, false, false, false, false, false, false, false, false, false, false, false, false, false, false, false, false] rfl rfl (any_of HT_.out (by kernel_rfl)) (fun _ _ _ h => h) (Or.inl ⟨by rfl, ?_⟩) ?_ ?_
                                      rotate_left
                                      · intro w'
                                        go_simp
                                        with_reducible rfl
                                      rotate_left
                                      · simp only [Act.put, List.setIfInBounds_toArray, List.set_cons_zero, List.set_cons_succ, i64_w, i32_w]
                                        rfl
                                      refine pure_ (i := 28) (N := some 115) (v := ?_) (a' := ?_) #[true, true, true, false, true, false, false, false, false, false, true, false, true, false, false, false, false, false, true, false, true, false, false, false, false, false, true, false, true, false, false, false, false, false, false, false, false, false, false, false, false, false, false, false] rfl rfl (any_of HT_.out (by kernel_rfl)) (fun _ _ _ h => h) (Or.inl ⟨by rfl, ?_⟩) ?_ ?_
                                      rotate_left
                                      · intro w'
                                        go_simp
                                        with_reducible rfl
                                      rotate_left
                                      · simp only [Act.put, List.setIfInBounds_toArray, List.set_cons_zero, List.set_cons_succ, i64_w, i32_w]
                                        rfl
                                      refine pure_ (i := 34) (N := some 121) (v := ?_) (a' := ?_) #[true, true, true, false, true, false, false, false, false, false, true, false, true, false, false, false, false, false, true, false, true, false, false, false, false, false, true, false, true, false, false, false, false, false, true, false, false, false, false, false, false, false, false, false] rfl rfl (any_of HT_.out (by kernel_rfl)) (fun _ _ _ h => h) (Or.inl ⟨by rfl, ?_⟩) ?_ ?_
                                      rotate_left
                                      · intro w'
                                        go_simp
                                        with_reducible rfl
                                      rotate_left
                                      · simp only [Act.put, List.setIfInBounds_toArray, List.set_cons_zero, List.set_cons_succ, i64_w, i32_w]
                                        rfl
                                      refine pure_ (i := 36) (N := some 123) (v := ?_) (a' := ?_) #[true, true, true, false, true, false, false, false, false, false, true, false, true, false, false, false, false, false, true, false, true, false, false, false, false, false, true, false, true, false, false, false, false, false, true, false, true, false, false, false, false, false, false, false] rfl rfl (any_of HT_.out (by kernel_rfl)) (fun _ _ _ h => h) (Or.inl ⟨by rfl, ?_⟩) ?_ ?_
                                      rotate_left
                                      · intro w'
                                        go_simp
                                        with_reducible rfl
                                      rotate_left
                                      · simp only [Act.put, List.setIfInBounds_toArray, List.set_cons_zero, List.set_cons_succ, i64_w, i32_w]
                                        rfl
                                      refine take_ (i := 3) (N := some 90) (v := ?_) (a' := ?_) #[true, true, true, true, true, false, false, false, false, false, true, false, true, false, false, false, false, false, true, false, true, false, false, false, false, false, true, false, true, false, false, false, false, false, true, false, true, false, false, false, false, false, false, false] rfl rfl (take_ofW HT_.out HW_.out (by kernel_rfl)) (fun _ _ _ h => h) (Or.inl ⟨by rfl, ?_⟩) hHeld ?_ ?_
                                      rotate_left
                                      · rintro w' ⟨s0, s1, s2, s3, s4, s5, s6, s7, s8, s9, s10, s11, s12, s13, s14, s15, s16, s17, s18, s19, s20, s21, s22, s23, s24, s25, s26, s27, s28, s29, s30⟩
                                        go_simp
                                        with_reducible rfl
                                      rotate_left
                                      · simp only [Act.put, List.setIfInBounds_toArray, List.set_cons_zero, List.set_cons_succ, i64_w, i32_w]
                                        rfl
                                      refine pure_ (i := 5) (N := some 92) (v := ?_) (a' := ?_) #[true, true, true, true, true, true, false, false, false, false, true, false, true, false, false, false, false, false, true, false, true, false, false, false, false, false, true, false, true, false, false, false, false, false, true, false, true, false, false, false, false, false, false, false] rfl rfl (any_of HT_.out (by kernel_rfl)) (fun _ _ _ h => h) (Or.inl ⟨by rfl, ?_⟩) ?_ ?_
                                      rotate_left
                                      · intro w'
                                        go_simp
                                        with_reducible rfl
                                      rotate_left
                                      · simp only [Act.put, List.setIfInBounds_toArray, List.set_cons_zero, List.set_cons_succ, i64_w, i32_w]
                                        rfl
                                      refine pure_ (i := 6) (N := some 93) (v := ?_) (a' := ?_) #[true, true, true, true, true, true, true, false, false, false, true, false, true, false, false, false, false, false, true, false, true, false, false, false, false, false, true, false, true, false, false, false, false, false, true, false, true, false, false, false, false, false, false, false] rfl rfl (any_of HT_.out (by kernel_rfl)) (fun _ _ _ h => h) (Or.inl ⟨by rfl, ?_⟩) ?_ ?_
                                      rotate_left
                                      · intro w'
                                        go_simp
                                        with_reducible rfl
                                      rotate_left
                                      · simp only [Act.put, List.setIfInBounds_toArray, List.set_cons_zero, List.set_cons_succ, i64_w, i32_w]
                                        rfl
                                      refine take_ (i := 7) (N := some 94) (v := ?_) (a' := ?_) #[true, true, true, true, true, true, true, true, false, false, true, false, true, false, false, false, false, false, true, false, true, false, false, false, false, false, true, false, true, false, false, false, false, false, true, false, true, false, false, false, false, false, false, false] rfl rfl (take_ofW HT_.out HW_.out (by kernel_rfl)) (fun _ _ _ h => h) (Or.inl ⟨by rfl, ?_⟩) hHeld ?_ ?_
                                      rotate_left
                                      · rintro w' ⟨s0, s1, s2, s3, s4, s5, s6, s7, s8, s9, s10, s11, s12, s13, s14, s15, s16, s17, s18, s19, s20, s21, s22, s23, s24, s25, s26, s27, s28, s29, s30⟩
                                        go_simp
                                        with_reducible rfl
                                      rotate_left
                                      · simp only [Act.put, List.setIfInBounds_toArray, List.set_cons_zero, List.set_cons_succ, i64_w, i32_w]
                                        rfl
                                      refine take_ (i := 11) (N := some 98) (v := ?_) (a' := ?_) #[true, true, true, true, true, true, true, true, false, false, true, true, true, false, false, false, false, false, true, false, true, false, false, false, false, false, true, false, true, false, false, false, false, false, true, false, true, false, false, false, false, false, false, false] rfl rfl (take_ofW HT_.out HW_.out (by kernel_rfl)) (fun _ _ _ h => h) (Or.inl ⟨by rfl, ?_⟩) hHeld ?_ ?_
                                      rotate_left
                                      · rintro w' ⟨s0, s1, s2, s3, s4, s5, s6, s7, s8, s9, s10, s11, s12, s13, s14, s15, s16, s17, s18, s19, s20, s21, s22, s23, s24, s25, s26, s27, s28, s29, s30⟩
                                        go_simp
                                        with_reducible rfl
                                      rotate_left
                                      · simp only [Act.put, List.setIfInBounds_toArray, List.set_cons_zero, List.set_cons_succ, i64_w, i32_w]
                                        rfl
                                      refine pure_ (i := 13) (N := some 100) (v := ?_) (a' := ?_) #[true, true, true, true, true, true, true, true, false, false, true, true, true, true, false, false, false, false, true, false, true, false, false, false, false, false, true, false, true, false, false, false, false, false, true, false, true, false, false, false, false, false, false, false] rfl rfl (any_of HT_.out (by kernel_rfl)) (fun _ _ _ h => h) (Or.inl ⟨by rfl, ?_⟩) ?_ ?_
                                      rotate_left
                                      · intro w'
                                        go_simp
                                        with_reducible rfl
                                      rotate_left
                                      · simp only [Act.put, List.setIfInBounds_toArray, List.set_cons_zero, List.set_cons_succ, i64_w, i32_w]
                                        rfl
                                      refine pure_ (i := 14) (N := some 101) (v := ?_) (a' := ?_) #[true, true, true, true, true, true, true, true, false, false, true, true, true, true, true, false, false, false, true, false, true, false, false, false, false, false, true, false, true, false, false, false, false, false, true, false, true, false, false, false, false, false, false, false] rfl rfl (any_of HT_.out (by kernel_rfl)) (fun _ _ _ h => h) (Or.inl ⟨by rfl, ?_⟩) ?_ ?_
                                      rotate_left
                                      · intro w'
                                        go_simp
                                        with_reducible rfl
                                      rotate_left
                                      · simp only [Act.put, List.setIfInBounds_toArray, List.set_cons_zero, List.set_cons_succ, i64_w, i32_w]
                                        rfl
                                      refine take_ (i := 15) (N := some 102) (v := ?_) (a' := ?_) #[true, true, true, true, true, true, true, true, false, false, true, true, true, true, true, true, false, false, true, false, true, false, false, false, false, false, true, false, true, false, false, false, false, false, true, false, true, false, false, false, false, false, false, false] rfl rfl (take_ofW HT_.out HW_.out (by kernel_rfl)) (fun _ _ _ h => h) (Or.inl ⟨by rfl, ?_⟩) hHeld ?_ ?_
                                      rotate_left
                                      · rintro w' ⟨s0, s1, s2, s3, s4, s5, s6, s7, s8, s9, s10, s11, s12, s13, s14, s15, s16, s17, s18, s19, s20, s21, s22, s23, s24, s25, s26, s27, s28, s29, s30⟩
                                        go_simp
                                        with_reducible rfl
                                      rotate_left
                                      · simp only [Act.put, List.setIfInBounds_toArray, List.set_cons_zero, List.set_cons_succ, i64_w, i32_w]
                                        rfl
                                      refine take_ (i := 19) (N := some 106) (v := ?_) (a' := ?_) #[true, true, true, true, true, true, true, true, false, false, true, true, true, true, true, true, false, false, true, true, true, false, false, false, false, false, true, false, true, false, false, false, false, false, true, false, true, false, false, false, false, false, false, false] rfl rfl (take_ofW HT_.out HW_.out (by kernel_rfl)) (fun _ _ _ h => h) (Or.inl ⟨by rfl, ?_⟩) hHeld ?_ ?_
                                      rotate_left
                                      · rintro w' ⟨s0, s1, s2, s3, s4, s5, s6, s7, s8, s9, s10, s11, s12, s13, s14, s15, s16, s17, s18, s19, s20, s21, s22, s23, s24, s25, s26, s27, s28, s29, s30⟩
                                        go_simp
                                        with_reducible rfl
                                      rotate_left
                                      · simp only [Act.put, List.setIfInBounds_toArray, List.set_cons_zero, List.set_cons_succ, i64_w, i32_w]
                                        rfl
                                      refine pure_ (i := 21) (N := some 108) (v := ?_) (a' := ?_) #[true, true, true, true, true, true, true, true, false, false, true, true, true, true, true, true, false, false, true, true, true, true, false, false, false, false, true, false, true, false, false, false, false, false, true, false, true, false, false, false, false, false, false, false] rfl rfl (any_of HT_.out (by kernel_rfl)) (fun _ _ _ h => h) (Or.inl ⟨by rfl, ?_⟩) ?_ ?_
                                      rotate_left
                                      · intro w'
                                        go_simp
                                        with_reducible rfl
                                      rotate_left
                                      · simp only [Act.put, List.setIfInBounds_toArray, List.set_cons_zero, List.set_cons_succ, i64_w, i32_w]
                                        rfl
                                      refine pure_ (i := 22) (N := some 109) (v := ?_) (a' := ?_) #[true, true, true, true, true, true, true, true, false, false, true, true, true, true, true, true, false, false, true, true, true, true, true, false, false, false, true, false, true, false, false, false, false, false, true, false, true, false, false, false, false, false, false, false] rfl rfl (any_of HT_.out (by kernel_rfl)) (fun _ _ _ h => h) (Or.inl ⟨by rfl, ?_⟩) ?_ ?_
                                      rotate_left
                                      · intro w'
                                        go_simp
                                        with_reducible rfl
                                      rotate_left
                                      · simp only [Act.put, List.setIfInBounds_toArray, List.set_cons_zero, List.set_cons_succ, i64_w, i32_w]
                                        rfl
                                      refine take_ (i := 23) (N := some 110) (v := ?_) (a' := ?_) #[true, true, true, true, true, true, true, true, false, false, true, true, true, true, true, true, false, false, true, true, true, true, true, true, false, false, true, false, true, false, false, false, false, false, true, false, true, false, false, false, false, false, false, false] rfl rfl (take_ofW HT_.out HW_.out (by kernel_rfl)) (fun _ _ _ h => h) (Or.inl ⟨by rfl, ?_⟩) hHeld ?_ ?_
                                      rotate_left
                                      · rintro w' ⟨s0, s1, s2, s3, s4, s5, s6, s7, s8, s9, s10, s11, s12, s13, s14, s15, s16, s17, s18, s19, s20, s21, s22, s23, s24, s25, s26, s27, s28, s29, s30⟩
                                        go_simp
                                        with_reducible rfl
                                      rotate_left
                                      · simp only [Act.put, List.setIfInBounds_toArray, List.set_cons_zero, List.set_cons_succ, i64_w, i32_w]
                                        rfl
                                      refine take_ (i := 27) (N := some 114) (v := ?_) (a' := ?_) #[true, true, true, true, true, true, true, true, false, false, true, true, true, true, true, true, false, false, true, true, true, true, true, true, false, false, true, true, true, false, false, false, false, false, true, false, true, false, false, false, false, false, false, false] rfl rfl (take_ofW HT_.out HW_.out (by kernel_rfl)) (fun _ _ _ h => h) (Or.inl ⟨by rfl, ?_⟩) hHeld ?_ ?_
                                      rotate_left
                                      · rintro w' ⟨s0, s1, s2, s3, s4, s5, s6, s7, s8, s9, s10, s11, s12, s13, s14, s15, s16, s17, s18, s19, s20, s21, s22, s23, s24, s25, s26, s27, s28, s29, s30⟩
                                        go_simp
                                        with_reducible rfl
                                      rotate_left
                                      · simp only [Act.put, List.setIfInBounds_toArray, List.set_cons_zero, List.set_cons_succ, i64_w, i32_w]
                                        rfl
                                      refine pure_ (i := 29) (N := some 116) (v := ?_) (a' := ?_) #[true, true, true, true, true, true, true, true, false, false, true, true, true, true, true, true, false, false, true, true, true, true, true, true, false, false, true, true, true, true, false, false, false, false, true, false, true, false, false, false, false, false, false, false] rfl rfl (any_of HT_.out (by kernel_rfl)) (fun _ _ _ h => h) (Or.inl ⟨by rfl, ?_⟩) ?_ ?_
                                      rotate_left
                                      · intro w'
                                        go_simp
                                        with_reducible rfl
                                      rotate_left
                                      · simp only [Act.put, List.setIfInBounds_toArray, List.set_cons_zero, List.set_cons_succ, i64_w, i32_w]
                                        rfl
                                      refine pure_ (i := 30) (N := some 117) (v := ?_) (a' := ?_) #[true, true, true, true, true, true, true, true, false, false, true, true, true, true, true, true, false, false, true, true, true, true, true, true, false, false, true, true, true, true, true, false, false, false, true, false, true, false, false, false, false, false, false, false] rfl rfl (any_of HT_.out (by kernel_rfl)) (fun _ _ _ h => h) (Or.inl ⟨by rfl, ?_⟩) ?_ ?_
                                      rotate_left
                                      · intro w'
                                        go_simp
                                        with_reducible rfl
                                      rotate_left
                                      · simp only [Act.put, List.setIfInBounds_toArray, List.set_cons_zero, List.set_cons_succ, i64_w, i32_w]
                                        rfl
                                      refine take_ (i := 31) (N := some 118) (v := ?_) (a' := ?_) #[true, true, true, true, true, true, true, true, false, false, true, true, true, true, true, true, false, false, true, true, true, true, true, true, false, false, true, true, true, true, true, true, false, false, true, false, true, false, false, false, false, false, false, false] rfl rfl (take_ofW HT_.out HW_.out (by kernel_rfl)) (fun _ _ _ h => h) (Or.inl ⟨by rfl, ?_⟩) hHeld ?_ ?_
                                      rotate_left
                                      · rintro w' ⟨s0, s1, s2, s3, s4, s5, s6, s7, s8, s9, s10, s11, s12, s13, s14, s15, s16, s17, s18, s19, s20, s21, s22, s23, s24, s25, s26, s27, s28, s29, s30⟩
                                        go_simp
                                        with_reducible rfl
                                      rotate_left
                                      · simp only [Act.put, List.setIfInBounds_toArray, List.set_cons_zero, List.set_cons_succ, i64_w, i32_w]
                                        rfl
                                      refine take_ (i := 35) (N := some 122) (v := ?_) (a' := ?_) #[true, true, true, true, true, true, true, true, false, false, true, true, true, true, true, true, false, false, true, true, true, true, true, true, false, false, true, true, true, true, true, true, false, false, true, true, true, false, false, false, false, false, false, false] rfl rfl (take_ofW HT_.out HW_.out (by kernel_rfl)) (fun _ _ _ h => h) (Or.inl ⟨by rfl, ?_⟩) hHeld ?_ ?_
                                      rotate_left
                                      · rintro w' ⟨s0, s1, s2, s3, s4, s5, s6, s7, s8, s9, s10, s11, s12, s13, s14, s15, s16, s17, s18, s19, s20, s21, s22, s23, s24, s25, s26, s27, s28, s29, s30⟩
                                        go_simp
                                        with_reducible rfl
                                      rotate_left
                                      · simp only [Act.put, List.setIfInBounds_toArray, List.set_cons_zero, List.set_cons_succ, i64_w, i32_w]
                                        rfl
                                      refine pure_ (i := 37) (N := some 124) (v := ?_) (a' := ?_) #[true, true, true, true, true, true, true, true, false, false, true, true, true, true, true, true, false, false, true, true, true, true, true, true, false, false, true, true, true, true, true, true, false, false, true, true, true, true, false, false, false, false, false, false] rfl rfl (any_of HT_.out (by kernel_rfl)) (fun _ _ _ h => h) (Or.inl ⟨by rfl, ?_⟩) ?_ ?_
                                      rotate_left
                                      · intro w'
                                        go_simp
                                        with_reducible rfl
                                      rotate_left
                                      · simp only [Act.put, List.setIfInBounds_toArray, List.set_cons_zero, List.set_cons_succ, i64_w, i32_w]
                                        rfl
                                      refine pure_ (i := 38) (N := some 125) (v := ?_) (a' := ?_) #[true, true, true, true, true, true, true, true, false, false, true, true, true, true, true, true, false, false, true, true, true, true, true, true, false, false, true, true, true, true, true, true, false, false, true, true, true, true, true, false, false, false, false, false] rfl rfl (any_of HT_.out (by kernel_rfl)) (fun _ _ _ h => h) (Or.inl ⟨by rfl, ?_⟩) ?_ ?_
                                      rotate_left
                                      · intro w'
                                        go_simp
                                        with_reducible rfl
                                      rotate_left
                                      · simp only [Act.put, List.setIfInBounds_toArray, List.set_cons_zero, List.set_cons_succ, i64_w, i32_w]
                                        rfl
                                      refine take_ (i := 39) (N := some 126) (v := ?_) (a' := ?_) #[true, true, true, true, true, true, true, true, false, false, true, true, true, true, true, true, false, false, true, true, true, true, true, true, false, false, true, true, true, true, true, true, false, false, true, true, true, true, true, true, false, false, false, false] rfl rfl (take_ofW HT_.out HW_.out (by kernel_rfl)) (fun _ _ _ h => h) (Or.inl ⟨by rfl, ?_⟩) hHeld ?_ ?_
                                      rotate_left
                                      · rintro w' ⟨s0, s1, s2, s3, s4, s5, s6, s7, s8, s9, s10, s11, s12, s13, s14, s15, s16, s17, s18, s19, s20, s21, s22, s23, s24, s25, s26, s27, s28, s29, s30⟩
                                        go_simp
                                        with_reducible rfl
                                      rotate_left
                                      · simp only [Act.put, List.setIfInBounds_toArray, List.set_cons_zero, List.set_cons_succ, i64_w, i32_w]
                                        rfl
                                      refine pure_ (i := 40) (N := some 127) (v := ?_) (a' := ?_) #[true, true, true, true, true, true, true, true, false, false, true, true, true, true, true, true, false, false, true, true, true, true, true, true, false, false, true, true, true, true, true, true, false, false, true, true, true, true, true, true, true, false, false, false] rfl rfl (any_of HT_.out (by kernel_rfl)) (fun _ _ _ h => h) (Or.inl ⟨by rfl, ?_⟩) ?_ ?_
                                      rotate_left
                                      · intro w'
                                        go_simp
                                        with_reducible rfl
                                      rotate_left
                                      · simp only [Act.put, List.setIfInBounds_toArray, List.set_cons_zero, List.set_cons_succ, i64_w, i32_w]
                                        rfl
                                      refine one_ (i := 8) (N := some 95) #[true, true, true, true, true, true, true, true, true, false, true, true, true, true, true, true, false, false, true, true, true, true, true, true, false, false, true, true, true, true, true, true, false, false, true, true, true, true, true, true, true, false, false, false] rfl rfl (one_of HT_.out (by kernel_rfl)) (by decide) (fun K hK => ?_)
                                      refine goes_ Tryd.func46 (by kernel_rfl) rfl #[.int .i64 ((rd_T46 ((rd_T52 l0_1 x4_1).f1) x8_3).f0)] (by rfl) rfl rfl (by (try simp only [List.map_toArray, List.map_cons, List.map_nil]); first | done | rfl | (simp only [List.length_drop, List.length_take]; rfl)) ?_
                                      with_reducible refine (jacquardref03_digits.calls k3 ((rd_T46 ((rd_T52 l0_1 x4_1).f1) x8_3).f0) t146 _ A42.out).mono ?_
                                      rintro e w55 ⟨rfl, hb⟩
                                      refine ⟨_, rfl, ?_⟩
                                      have n0_ := Aside0.mk (blk_below (g := gb132) (o := .cells #[.int .i64 a0_0, .slice (some ad134) l0_1.length c0_1] 28 (0, 0)) (by (with_reducible repeat (first | refine blk_drewN ?_ _ | refine blk_drew ?_ | refine blk_alloc ?_ _)); exact BK132.out) hb)
                                      have n1_ := Aside0.mk (blk_below (g := gb135) (o := .cells #[.slice A134_0 ((rd_T52 l0_1 x4_1).f0).length c134_0, .slice (some ad145) ((rd_T52 l0_1 x4_1).f1).length c134_1, .int .i64 ((rd_T52 l0_1 x4_1).f2.f0), .slice A134_3 ((rd_T52 l0_1 x4_1).f2.f1).length c134_3, .slice A134_4 ((rd_T52 l0_1 x4_1).f2.f2).length c134_4, .int .i32 ((rd_T52 l0_1 x4_1).f2.f3)] 52 (0, 0)) (by (with_reducible repeat (first | refine blk_drewN ?_ _ | refine blk_drew ?_ | refine blk_alloc ?_ _)); exact BK135.out) hb)
                                      have n2_ := Aside0.mk (below_step (by repeat (first | (with_reducible first | exact HB.out | apply below_alloc | apply pw_below_drewN | apply below_drew1 | refine below_set ?_ GE132.out | refine below_set ?_ GE135.out) | exact HB.out)) hb)
                                      clear BK132
                                      clear BK135
                                      clear HB
                                      have BK132 := n0_
                                      have BK135 := n1_
                                      have HB := n2_
                                      clear n0_ n1_ n2_
                                      (try clear hb)
                                      (try clear hb2)
                                      (try clear hk)
                                      (try clear hi)
                                      refine hK.out _ _ ⟨(blk_cell BK135.out 0).trans rfl, (blk_cell BK135.out 1).trans rfl, (blk_cell BK135.out 2).trans rfl, (blk_cell BK135.out 3).trans rfl, (blk_cell BK135.out 4).trans rfl, (blk_cell BK135.out 5).trans rfl, ((HB.out.cell (World.block_lt_of_cell? w _ hw145_0)).trans hw145_0), ((HB.out.cell (World.block_lt_of_cell? w _ hw145_1)).trans hw145_1), ((HB.out.cell (World.block_lt_of_cell? w _ hw145_2)).trans hw145_2), ((HB.out.cell (World.block_lt_of_cell? w _ hw145_3)).trans hw145_3), ((HB.out.cell (World.block_lt_of_cell? w _ hw145_4)).trans hw145_4), ((HB.out.cell (World.block_lt_of_cell? w _ hw147_0)).trans hw147_0), ((HB.out.cell (World.block_lt_of_cell? w _ hw147_1)).trans hw147_1), ((HB.out.cell (World.block_lt_of_cell? w _ hw147_2)).trans hw147_2), ((HB.out.cell (World.block_lt_of_cell? w _ hw147_3)).trans hw147_3), ((HB.out.cell (World.block_lt_of_cell? w _ hw147_4)).trans hw147_4), ((HB.out.cell (World.block_lt_of_cell? w _ hw149_0)).trans hw149_0), ((HB.out.cell (World.block_lt_of_cell? w _ hw149_1)).trans hw149_1), ((HB.out.cell (World.block_lt_of_cell? w _ hw149_2)).trans hw149_2), ((HB.out.cell (World.block_lt_of_cell? w _ hw149_3)).trans hw149_3), ((HB.out.cell (World.block_lt_of_cell? w _ hw149_4)).trans hw149_4), ((HB.out.cell (World.block_lt_of_cell? w _ hw151_0)).trans hw151_0), ((HB.out.cell (World.block_lt_of_cell? w _ hw151_1)).trans hw151_1), ((HB.out.cell (World.block_lt_of_cell? w _ hw151_2)).trans hw151_2), ((HB.out.cell (World.block_lt_of_cell? w _ hw151_3)).trans hw151_3), ((HB.out.cell (World.block_lt_of_cell? w _ hw151_4)).trans hw151_4), ((HB.out.cell (World.block_lt_of_cell? w _ hw153_0)).trans hw153_0), ((HB.out.cell (World.block_lt_of_cell? w _ hw153_1)).trans hw153_1), ((HB.out.cell (World.block_lt_of_cell? w _ hw153_2)).trans hw153_2), ((HB.out.cell (World.block_lt_of_cell? w _ hw153_3)).trans hw153_3), ((HB.out.cell (World.block_lt_of_cell? w _ hw153_4)).trans hw153_4)⟩ (fun hHeld => ?_)
                                      clear hK K
                                      refine norm_ (a' := ?_) ?_ ?_
                                      rotate_left
                                      · show Act.put _ (some 95) _ = _
                                        simp only [Act.put, List.setIfInBounds_toArray, List.set_cons_zero, List.set_cons_succ, i64_w, i32_w]
                                        rfl
                                      refine pure_ (i := 9) (N := some 96) (v := ?_) (a' := ?_) #[true, true, true, true, true, true, true, true, true, true, true, true, true, true, true, true, false, false, true, true, true, true, true, true, false, false, true, true, true, true, true, true, false, false, true, true, true, true, true, true, true, false, false, false] rfl rfl (any_of HT_.out (by kernel_rfl)) (fun _ _ _ h => h) (Or.inl ⟨by rfl, ?_⟩) ?_ ?_
                                      rotate_left
                                      · intro w'
                                        go_simp
                                        with_reducible rfl
                                      rotate_left
                                      · simp only [Act.put, List.setIfInBounds_toArray, List.set_cons_zero, List.set_cons_succ, i64_w, i32_w]
                                        rfl
                                      refine one_ (i := 16) (N := some 103) #[true, true, true, true, true, true, true, true, true, true, true, true, true, true, true, true, true, false, true, true, true, true, true, true, false, false, true, true, true, true, true, true, false, false, true, true, true, true, true, true, true, false, false, false] rfl rfl (one_of HT_.out (by kernel_rfl)) (by decide) (fun K hK => ?_)
                                      refine goes_ Tryd.func46 (by kernel_rfl) rfl #[.int .i64 ((rd_T46 ((rd_T52 l0_1 x4_1).f1) x8_3).f1)] (by rfl) rfl rfl (by (try simp only [List.map_toArray, List.map_cons, List.map_nil]); first | done | rfl | (simp only [List.length_drop, List.length_take]; rfl)) ?_
                                      with_reducible refine (jacquardref03_digits.calls k3 ((rd_T46 ((rd_T52 l0_1 x4_1).f1) x8_3).f1) t148 _ A44.out).mono ?_
                                      rintro e w56 ⟨rfl, hb⟩
                                      refine ⟨_, rfl, ?_⟩
                                      have n0_ := Aside0.mk (blk_below (g := gb132) (o := .cells #[.int .i64 a0_0, .slice (some ad134) l0_1.length c0_1] 28 (0, 0)) (by (with_reducible repeat (first | refine blk_drewN ?_ _ | refine blk_drew ?_ | refine blk_alloc ?_ _)); exact BK132.out) hb)
                                      have n1_ := Aside0.mk (blk_below (g := gb135) (o := .cells #[.slice A134_0 ((rd_T52 l0_1 x4_1).f0).length c134_0, .slice (some ad145) ((rd_T52 l0_1 x4_1).f1).length c134_1, .int .i64 ((rd_T52 l0_1 x4_1).f2.f0), .slice A134_3 ((rd_T52 l0_1 x4_1).f2.f1).length c134_3, .slice A134_4 ((rd_T52 l0_1 x4_1).f2.f2).length c134_4, .int .i32 ((rd_T52 l0_1 x4_1).f2.f3)] 52 (0, 0)) (by (with_reducible repeat (first | refine blk_drewN ?_ _ | refine blk_drew ?_ | refine blk_alloc ?_ _)); exact BK135.out) hb)
                                      have n2_ := Aside0.mk (below_step (by repeat (first | (with_reducible first | exact HB.out | apply below_alloc | apply pw_below_drewN | apply below_drew1 | refine below_set ?_ GE132.out | refine below_set ?_ GE135.out) | exact HB.out)) hb)
                                      clear BK132
                                      clear BK135
                                      clear HB
                                      have BK132 := n0_
                                      have BK135 := n1_
                                      have HB := n2_
                                      clear n0_ n1_ n2_
                                      (try clear hb)
                                      (try clear hb2)
                                      (try clear hk)
                                      (try clear hi)
                                      refine hK.out _ _ ⟨(blk_cell BK135.out 0).trans rfl, (blk_cell BK135.out 1).trans rfl, (blk_cell BK135.out 2).trans rfl, (blk_cell BK135.out 3).trans rfl, (blk_cell BK135.out 4).trans rfl, (blk_cell BK135.out 5).trans rfl, ((HB.out.cell (World.block_lt_of_cell? w _ hw145_0)).trans hw145_0), ((HB.out.cell (World.block_lt_of_cell? w _ hw145_1)).trans hw145_1), ((HB.out.cell (World.block_lt_of_cell? w _ hw145_2)).trans hw145_2), ((HB.out.cell (World.block_lt_of_cell? w _ hw145_3)).trans hw145_3), ((HB.out.cell (World.block_lt_of_cell? w _ hw145_4)).trans hw145_4), ((HB.out.cell (World.block_lt_of_cell? w _ hw147_0)).trans hw147_0), ((HB.out.cell (World.block_lt_of_cell? w _ hw147_1)).trans hw147_1), ((HB.out.cell (World.block_lt_of_cell? w _ hw147_2)).trans hw147_2), ((HB.out.cell (World.block_lt_of_cell? w _ hw147_3)).trans hw147_3), ((HB.out.cell (World.block_lt_of_cell? w _ hw147_4)).trans hw147_4), ((HB.out.cell (World.block_lt_of_cell? w _ hw149_0)).trans hw149_0), ((HB.out.cell (World.block_lt_of_cell? w _ hw149_1)).trans hw149_1), ((HB.out.cell (World.block_lt_of_cell? w _ hw149_2)).trans hw149_2), ((HB.out.cell (World.block_lt_of_cell? w _ hw149_3)).trans hw149_3), ((HB.out.cell (World.block_lt_of_cell? w _ hw149_4)).trans hw149_4), ((HB.out.cell (World.block_lt_of_cell? w _ hw151_0)).trans hw151_0), ((HB.out.cell (World.block_lt_of_cell? w _ hw151_1)).trans hw151_1), ((HB.out.cell (World.block_lt_of_cell? w _ hw151_2)).trans hw151_2), ((HB.out.cell (World.block_lt_of_cell? w _ hw151_3)).trans hw151_3), ((HB.out.cell (World.block_lt_of_cell? w _ hw151_4)).trans hw151_4), ((HB.out.cell (World.block_lt_of_cell? w _ hw153_0)).trans hw153_0), ((HB.out.cell (World.block_lt_of_cell? w _ hw153_1)).trans hw153_1), ((HB.out.cell (World.block_lt_of_cell? w _ hw153_2)).trans hw153_2), ((HB.out.cell (World.block_lt_of_cell? w _ hw153_3)).trans hw153_3), ((HB.out.cell (World.block_lt_of_cell? w _ hw153_4)).trans hw153_4)⟩ (fun hHeld => ?_)
                                      clear hK K
                                      refine norm_ (a' := ?_) ?_ ?_
                                      rotate_left
                                      · show Act.put _ (some 103) _ = _
                                        simp only [Act.put, List.setIfInBounds_toArray, List.set_cons_zero, List.set_cons_succ, i64_w, i32_w]
                                        rfl
                                      refine pure_ (i := 17) (N := some 104) (v := ?_) (a' := ?_) #[true, true, true, true, true, true, true, true, true, true, true, true, true, true, true, true, true, true, true, true, true, true, true, true, false, false, true, true, true, true, true, true, false, false, true, true, true, true, true, true, true, false, false, false] rfl rfl (any_of HT_.out (by kernel_rfl)) (fun _ _ _ h => h) (Or.inl ⟨by rfl, ?_⟩) ?_ ?_
                                      rotate_left
                                      · intro w'
                                        go_simp
                                        with_reducible rfl
                                      rotate_left
                                      · simp only [Act.put, List.setIfInBounds_toArray, List.set_cons_zero, List.set_cons_succ, i64_w, i32_w]
                                        rfl
                                      refine one_ (i := 24) (N := some 111) #[true, true, true, true, true, true, true, true, true, true, true, true, true, true, true, true, true, true, true, true, true, true, true, true, true, false, true, true, true, true, true, true, false, false, true, true, true, true, true, true, true, false, false, false] rfl rfl (one_of HT_.out (by kernel_rfl)) (by decide) (fun K hK => ?_)
                                      refine goes_ Tryd.func46 (by kernel_rfl) rfl #[.int .i64 ((rd_T46 ((rd_T52 l0_1 x4_1).f1) x8_3).f2)] (by rfl) rfl rfl (by (try simp only [List.map_toArray, List.map_cons, List.map_nil]); first | done | rfl | (simp only [List.length_drop, List.length_take]; rfl)) ?_
                                      with_reducible refine (jacquardref03_digits.calls k3 ((rd_T46 ((rd_T52 l0_1 x4_1).f1) x8_3).f2) t150 _ A46.out).mono ?_
                                      rintro e w57 ⟨rfl, hb⟩
                                      refine ⟨_, rfl, ?_⟩
                                      have n0_ := Aside0.mk (blk_below (g := gb132) (o := .cells #[.int .i64 a0_0, .slice (some ad134) l0_1.length c0_1] 28 (0, 0)) (by (with_reducible repeat (first | refine blk_drewN ?_ _ | refine blk_drew ?_ | refine blk_alloc ?_ _)); exact BK132.out) hb)
                                      have n1_ := Aside0.mk (blk_below (g := gb135) (o := .cells #[.slice A134_0 ((rd_T52 l0_1 x4_1).f0).length c134_0, .slice (some ad145) ((rd_T52 l0_1 x4_1).f1).length c134_1, .int .i64 ((rd_T52 l0_1 x4_1).f2.f0), .slice A134_3 ((rd_T52 l0_1 x4_1).f2.f1).length c134_3, .slice A134_4 ((rd_T52 l0_1 x4_1).f2.f2).length c134_4, .int .i32 ((rd_T52 l0_1 x4_1).f2.f3)] 52 (0, 0)) (by (with_reducible repeat (first | refine blk_drewN ?_ _ | refine blk_drew ?_ | refine blk_alloc ?_ _)); exact BK135.out) hb)
                                      have n2_ := Aside0.mk (below_step (by repeat (first | (with_reducible first | exact HB.out | apply below_alloc | apply pw_below_drewN | apply below_drew1 | refine below_set ?_ GE132.out | refine below_set ?_ GE135.out) | exact HB.out)) hb)
                                      clear BK132
                                      clear BK135
                                      clear HB
                                      have BK132 := n0_
                                      have BK135 := n1_
                                      have HB := n2_
                                      clear n0_ n1_ n2_
                                      (try clear hb)
                                      (try clear hb2)
                                      (try clear hk)
                                      (try clear hi)
                                      refine hK.out _ _ ⟨(blk_cell BK135.out 0).trans rfl, (blk_cell BK135.out 1).trans rfl, (blk_cell BK135.out 2).trans rfl, (blk_cell BK135.out 3).trans rfl, (blk_cell BK135.out 4).trans rfl, (blk_cell BK135.out 5).trans rfl, ((HB.out.cell (World.block_lt_of_cell? w _ hw145_0)).trans hw145_0), ((HB.out.cell (World.block_lt_of_cell? w _ hw145_1)).trans hw145_1), ((HB.out.cell (World.block_lt_of_cell? w _ hw145_2)).trans hw145_2), ((HB.out.cell (World.block_lt_of_cell? w _ hw145_3)).trans hw145_3), ((HB.out.cell (World.block_lt_of_cell? w _ hw145_4)).trans hw145_4), ((HB.out.cell (World.block_lt_of_cell? w _ hw147_0)).trans hw147_0), ((HB.out.cell (World.block_lt_of_cell? w _ hw147_1)).trans hw147_1), ((HB.out.cell (World.block_lt_of_cell? w _ hw147_2)).trans hw147_2), ((HB.out.cell (World.block_lt_of_cell? w _ hw147_3)).trans hw147_3), ((HB.out.cell (World.block_lt_of_cell? w _ hw147_4)).trans hw147_4), ((HB.out.cell (World.block_lt_of_cell? w _ hw149_0)).trans hw149_0), ((HB.out.cell (World.block_lt_of_cell? w _ hw149_1)).trans hw149_1), ((HB.out.cell (World.block_lt_of_cell? w _ hw149_2)).trans hw149_2), ((HB.out.cell (World.block_lt_of_cell? w _ hw149_3)).trans hw149_3), ((HB.out.cell (World.block_lt_of_cell? w _ hw149_4)).trans hw149_4), ((HB.out.cell (World.block_lt_of_cell? w _ hw151_0)).trans hw151_0), ((HB.out.cell (World.block_lt_of_cell? w _ hw151_1)).trans hw151_1), ((HB.out.cell (World.block_lt_of_cell? w _ hw151_2)).trans hw151_2), ((HB.out.cell (World.block_lt_of_cell? w _ hw151_3)).trans hw151_3), ((HB.out.cell (World.block_lt_of_cell? w _ hw151_4)).trans hw151_4), ((HB.out.cell (World.block_lt_of_cell? w _ hw153_0)).trans hw153_0), ((HB.out.cell (World.block_lt_of_cell? w _ hw153_1)).trans hw153_1), ((HB.out.cell (World.block_lt_of_cell? w _ hw153_2)).trans hw153_2), ((HB.out.cell (World.block_lt_of_cell? w _ hw153_3)).trans hw153_3), ((HB.out.cell (World.block_lt_of_cell? w _ hw153_4)).trans hw153_4)⟩ (fun hHeld => ?_)
                                      clear hK K
                                      refine norm_ (a' := ?_) ?_ ?_
                                      rotate_left
                                      · show Act.put _ (some 111) _ = _
                                        simp only [Act.put, List.setIfInBounds_toArray, List.set_cons_zero, List.set_cons_succ, i64_w, i32_w]
                                        rfl
                                      refine pure_ (i := 25) (N := some 112) (v := ?_) (a' := ?_) #[true, true, true, true, true, true, true, true, true, true, true, true, true, true, true, true, true, true, true, true, true, true, true, true, true, true, true, true, true, true, true, true, false, false, true, true, true, true, true, true, true, false, false, false] rfl rfl (any_of HT_.out (by kernel_rfl)) (fun _ _ _ h => h) (Or.inl ⟨by rfl, ?_⟩) ?_ ?_
                                      rotate_left
                                      · intro w'
                                        go_simp
                                        with_reducible rfl
                                      rotate_left
                                      · simp only [Act.put, List.setIfInBounds_toArray, List.set_cons_zero, List.set_cons_succ, i64_w, i32_w]
                                        rfl
                                      refine one_ (i := 32) (N := some 119) #[true, true, true, true, true, true, true, true, true, true, true, true, true, true, true, true, true, true, true, true, true, true, true, true, true, true, true, true, true, true, true, true, true, false, true, true, true, true, true, true, true, false, false, false] rfl rfl (one_of HT_.out (by kernel_rfl)) (by decide) (fun K hK => ?_)
                                      refine goes_ Tryd.func47 (by kernel_rfl) rfl #[.slice A145_3 ((rd_T46 ((rd_T52 l0_1 x4_1).f1) x8_3).f3).length c145_3] (by rfl) rfl rfl (by (try simp only [List.map_toArray, List.map_cons, List.map_nil]); first | done | rfl | (simp only [List.length_drop, List.length_take]; rfl)) ?_
                                      with_reducible refine (jacquardref03_row.calls k3 _ _ ((rd_T46 ((rd_T52 l0_1 x4_1).f1) x8_3).f3) t152 _ ?side1 ?side2 A48.out).mono ?_
                                      (case side1 => repeat (first | exact (Kd.C_below HR151_3.out HB.out) | (with_reducible refine Kd.C_alloc ?_ _) | (with_reducible refine Kd.C_drewN ?_ _) | (with_reducible refine Kd.C_drew ?_)))
                                      (case side2 => exact HC151_3.out)
                                      rintro e w58 ⟨rfl, hb⟩
                                      refine ⟨_, rfl, ?_⟩
                                      have n0_ := Aside0.mk (blk_below (g := gb132) (o := .cells #[.int .i64 a0_0, .slice (some ad134) l0_1.length c0_1] 28 (0, 0)) (by (with_reducible repeat (first | refine blk_drewN ?_ _ | refine blk_drew ?_ | refine blk_alloc ?_ _)); exact BK132.out) hb)
                                      have n1_ := Aside0.mk (blk_below (g := gb135) (o := .cells #[.slice A134_0 ((rd_T52 l0_1 x4_1).f0).length c134_0, .slice (some ad145) ((rd_T52 l0_1 x4_1).f1).length c134_1, .int .i64 ((rd_T52 l0_1 x4_1).f2.f0), .slice A134_3 ((rd_T52 l0_1 x4_1).f2.f1).length c134_3, .slice A134_4 ((rd_T52 l0_1 x4_1).f2.f2).length c134_4, .int .i32 ((rd_T52 l0_1 x4_1).f2.f3)] 52 (0, 0)) (by (with_reducible repeat (first | refine blk_drewN ?_ _ | refine blk_drew ?_ | refine blk_alloc ?_ _)); exact BK135.out) hb)
                                      have n2_ := Aside0.mk (below_step (by repeat (first | (with_reducible first | exact HB.out | apply below_alloc | apply pw_below_drewN | apply below_drew1 | refine below_set ?_ GE132.out | refine below_set ?_ GE135.out) | exact HB.out)) hb)
                                      clear BK132
                                      clear BK135
                                      clear HB
                                      have BK132 := n0_
                                      have BK135 := n1_
                                      have HB := n2_
                                      clear n0_ n1_ n2_
                                      (try clear hb)
                                      (try clear hb2)
                                      (try clear hk)
                                      (try clear hi)
                                      refine hK.out _ _ ⟨(blk_cell BK135.out 0).trans rfl, (blk_cell BK135.out 1).trans rfl, (blk_cell BK135.out 2).trans rfl, (blk_cell BK135.out 3).trans rfl, (blk_cell BK135.out 4).trans rfl, (blk_cell BK135.out 5).trans rfl, ((HB.out.cell (World.block_lt_of_cell? w _ hw145_0)).trans hw145_0), ((HB.out.cell (World.block_lt_of_cell? w _ hw145_1)).trans hw145_1), ((HB.out.cell (World.block_lt_of_cell? w _ hw145_2)).trans hw145_2), ((HB.out.cell (World.block_lt_of_cell? w _ hw145_3)).trans hw145_3), ((HB.out.cell (World.block_lt_of_cell? w _ hw145_4)).trans hw145_4), ((HB.out.cell (World.block_lt_of_cell? w _ hw147_0)).trans hw147_0), ((HB.out.cell (World.block_lt_of_cell? w _ hw147_1)).trans hw147_1), ((HB.out.cell (World.block_lt_of_cell? w _ hw147_2)).trans hw147_2), ((HB.out.cell (World.block_lt_of_cell? w _ hw147_3)).trans hw147_3), ((HB.out.cell (World.block_lt_of_cell? w _ hw147_4)).trans hw147_4), ((HB.out.cell (World.block_lt_of_cell? w _ hw149_0)).trans hw149_0), ((HB.out.cell (World.block_lt_of_cell? w _ hw149_1)).trans hw149_1), ((HB.out.cell (World.block_lt_of_cell? w _ hw149_2)).trans hw149_2), ((HB.out.cell (World.block_lt_of_cell? w _ hw149_3)).trans hw149_3), ((HB.out.cell (World.block_lt_of_cell? w _ hw149_4)).trans hw149_4), ((HB.out.cell (World.block_lt_of_cell? w _ hw151_0)).trans hw151_0), ((HB.out.cell (World.block_lt_of_cell? w _ hw151_1)).trans hw151_1), ((HB.out.cell (World.block_lt_of_cell? w _ hw151_2)).trans hw151_2), ((HB.out.cell (World.block_lt_of_cell? w _ hw151_3)).trans hw151_3), ((HB.out.cell (World.block_lt_of_cell? w _ hw151_4)).trans hw151_4), ((HB.out.cell (World.block_lt_of_cell? w _ hw153_0)).trans hw153_0), ((HB.out.cell (World.block_lt_of_cell? w _ hw153_1)).trans hw153_1), ((HB.out.cell (World.block_lt_of_cell? w _ hw153_2)).trans hw153_2), ((HB.out.cell (World.block_lt_of_cell? w _ hw153_3)).trans hw153_3), ((HB.out.cell (World.block_lt_of_cell? w _ hw153_4)).trans hw153_4)⟩ (fun hHeld => ?_)
                                      clear hK K
                                      refine norm_ (a' := ?_) ?_ ?_
                                      rotate_left
                                      · show Act.put _ (some 119) _ = _
                                        simp only [Act.put, List.setIfInBounds_toArray, List.set_cons_zero, List.set_cons_succ, i64_w, i32_w]
                                        rfl
                                      refine pure_ (i := 33) (N := some 120) (v := ?_) (a' := ?_) #[true, true, true, true, true, true, true, true, true, true, true, true, true, true, true, true, true, true, true, true, true, true, true, true, true, true, true, true, true, true, true, true, true, true, true, true, true, true, true, true, true, false, false, false] rfl rfl (any_of HT_.out (by kernel_rfl)) (fun _ _ _ h => h) (Or.inl ⟨by rfl, ?_⟩) ?_ ?_
                                      rotate_left
                                      · intro w'
                                        go_simp
                                        with_reducible rfl
                                      rotate_left
                                      · simp only [Act.put, List.setIfInBounds_toArray, List.set_cons_zero, List.set_cons_succ, i64_w, i32_w]
                                        rfl
                                      refine one_ (i := 41) (N := some 128) #[true, true, true, true, true, true, true, true, true, true, true, true, true, true, true, true, true, true, true, true, true, true, true, true, true, true, true, true, true, true, true, true, true, true, true, true, true, true, true, true, true, true, false, false] rfl rfl (one_of HT_.out (by kernel_rfl)) (by decide) (fun K hK => ?_)
                                      refine goes_ Tryd.func46 (by kernel_rfl) rfl #[.int .i64 (wrap64 ((rd_T46 ((rd_T52 l0_1 x4_1).f1) x8_3).f4))] (by rfl) rfl rfl (by (try simp only [List.map_toArray, List.map_cons, List.map_nil]); first | done | rfl | (simp only [List.length_drop, List.length_take]; rfl)) ?_
                                      with_reducible refine (jacquardref03_digits.calls k3 (wrap64 ((rd_T46 ((rd_T52 l0_1 x4_1).f1) x8_3).f4)) t154 _ A50.out).mono ?_
                                      rintro e w59 ⟨rfl, hb⟩
                                      refine ⟨_, rfl, ?_⟩
                                      have n0_ := Aside0.mk (blk_below (g := gb132) (o := .cells #[.int .i64 a0_0, .slice (some ad134) l0_1.length c0_1] 28 (0, 0)) (by (with_reducible repeat (first | refine blk_drewN ?_ _ | refine blk_drew ?_ | refine blk_alloc ?_ _)); exact BK132.out) hb)
                                      have n1_ := Aside0.mk (blk_below (g := gb135) (o := .cells #[.slice A134_0 ((rd_T52 l0_1 x4_1).f0).length c134_0, .slice (some ad145) ((rd_T52 l0_1 x4_1).f1).length c134_1, .int .i64 ((rd_T52 l0_1 x4_1).f2.f0), .slice A134_3 ((rd_T52 l0_1 x4_1).f2.f1).length c134_3, .slice A134_4 ((rd_T52 l0_1 x4_1).f2.f2).length c134_4, .int .i32 ((rd_T52 l0_1 x4_1).f2.f3)] 52 (0, 0)) (by (with_reducible repeat (first | refine blk_drewN ?_ _ | refine blk_drew ?_ | refine blk_alloc ?_ _)); exact BK135.out) hb)
                                      have n2_ := Aside0.mk (below_step (by repeat (first | (with_reducible first | exact HB.out | apply below_alloc | apply pw_below_drewN | apply below_drew1 | refine below_set ?_ GE132.out | refine below_set ?_ GE135.out) | exact HB.out)) hb)
                                      clear BK132
                                      clear BK135
                                      clear HB
                                      have BK132 := n0_
                                      have BK135 := n1_
                                      have HB := n2_
                                      clear n0_ n1_ n2_
                                      (try clear hb)
                                      (try clear hb2)
                                      (try clear hk)
                                      (try clear hi)
                                      refine hK.out _ _ ⟨(blk_cell BK135.out 0).trans rfl, (blk_cell BK135.out 1).trans rfl, (blk_cell BK135.out 2).trans rfl, (blk_cell BK135.out 3).trans rfl, (blk_cell BK135.out 4).trans rfl, (blk_cell BK135.out 5).trans rfl, ((HB.out.cell (World.block_lt_of_cell? w _ hw145_0)).trans hw145_0), ((HB.out.cell (World.block_lt_of_cell? w _ hw145_1)).trans hw145_1), ((HB.out.cell (World.block_lt_of_cell? w _ hw145_2)).trans hw145_2), ((HB.out.cell (World.block_lt_of_cell? w _ hw145_3)).trans hw145_3), ((HB.out.cell (World.block_lt_of_cell? w _ hw145_4)).trans hw145_4), ((HB.out.cell (World.block_lt_of_cell? w _ hw147_0)).trans hw147_0), ((HB.out.cell (World.block_lt_of_cell? w _ hw147_1)).trans hw147_1), ((HB.out.cell (World.block_lt_of_cell? w _ hw147_2)).trans hw147_2), ((HB.out.cell (World.block_lt_of_cell? w _ hw147_3)).trans hw147_3), ((HB.out.cell (World.block_lt_of_cell? w _ hw147_4)).trans hw147_4), ((HB.out.cell (World.block_lt_of_cell? w _ hw149_0)).trans hw149_0), ((HB.out.cell (World.block_lt_of_cell? w _ hw149_1)).trans hw149_1), ((HB.out.cell (World.block_lt_of_cell? w _ hw149_2)).trans hw149_2), ((HB.out.cell (World.block_lt_of_cell? w _ hw149_3)).trans hw149_3), ((HB.out.cell (World.block_lt_of_cell? w _ hw149_4)).trans hw149_4), ((HB.out.cell (World.block_lt_of_cell? w _ hw151_0)).trans hw151_0), ((HB.out.cell (World.block_lt_of_cell? w _ hw151_1)).trans hw151_1), ((HB.out.cell (World.block_lt_of_cell? w _ hw151_2)).trans hw151_2), ((HB.out.cell (World.block_lt_of_cell? w _ hw151_3)).trans hw151_3), ((HB.out.cell (World.block_lt_of_cell? w _ hw151_4)).trans hw151_4), ((HB.out.cell (World.block_lt_of_cell? w _ hw153_0)).trans hw153_0), ((HB.out.cell (World.block_lt_of_cell? w _ hw153_1)).trans hw153_1), ((HB.out.cell (World.block_lt_of_cell? w _ hw153_2)).trans hw153_2), ((HB.out.cell (World.block_lt_of_cell? w _ hw153_3)).trans hw153_3), ((HB.out.cell (World.block_lt_of_cell? w _ hw153_4)).trans hw153_4)⟩ (fun hHeld => ?_)
                                      clear hK K
                                      refine norm_ (a' := ?_) ?_ ?_
                                      rotate_left
                                      · show Act.put _ (some 128) _ = _
                                        simp only [Act.put, List.setIfInBounds_toArray, List.set_cons_zero, List.set_cons_succ, i64_w, i32_w]
                                        rfl
                                      refine pure_ (i := 42) (N := some 129) (v := ?_) (a' := ?_) #[true, true, true, true, true, true, true, true, true, true, true, true, true, true, true, true, true, true, true, true, true, true, true, true, true, true, true, true, true, true, true, true, true, true, true, true, true, true, true, true, true, true, true, false] rfl rfl (any_of HT_.out (by kernel_rfl)) (fun _ _ _ h => h) (Or.inl ⟨by rfl, ?_⟩) ?_ ?_
                                      rotate_left
                                      · intro w'
                                        go_simp
                                        with_reducible rfl
                                      rotate_left
                                      · simp only [Act.put, List.setIfInBounds_toArray, List.set_cons_zero, List.set_cons_succ, i64_w, i32_w]
                                        rfl
                                      refine pure_ (i := 43) (N := some 3) (v := ?_) (a' := ?_) #[true, true, true, true, true, true, true, true, true, true, true, true, true, true, true, true, true, true, true, true, true, true, true, true, true, true, true, true, true, true, true, true, true, true, true, true, true, true, true, true, true, true, true, true] rfl rfl (any_of HT_.out (by kernel_rfl)) (fun _ _ _ h => h) (Or.inl ⟨by rfl, ?_⟩) ?_ ?_
                                      rotate_left
                                      · intro w'
                                        go_simp
                                        with_reducible rfl
                                      rotate_left
                                      · simp only [Act.put, List.setIfInBounds_toArray, List.set_cons_zero, List.set_cons_succ, i64_w, i32_w]
                                        rfl
                                      refine done_ (done_of HT_.out (by kernel_rfl)) ?_
                                      try go_wp2
                                      go_roundg k3
                                      case measure => have := HK1.out; have := HK2.out; have := HK3.out; omega
                                      case rel => exact ⟨((((((x3_3 ++ (⟨#[59]⟩ : ByteArray)) ++ t146) ++ t148) ++ t150) ++ t152) ++ t154), (wrap64 (x8_3 + 1)), (by first | rfl | (simp; done) | (simp [*]; done)), (by first | rfl | (simp; done) | (simp [*]; done)), H', ⟨by have := HK1.out; have := HK2.out; have := HK3.out; omega⟩, ⟨by (with_reducible repeat (first | refine blk_drewN ?_ _ | refine blk_drew ?_ | refine blk_alloc ?_ _)); exact BK132.out⟩, ⟨by (with_reducible repeat (first | refine blk_drewN ?_ _ | refine blk_drew ?_ | refine blk_alloc ?_ _)); exact BK135.out⟩, ⟨by repeat (first | (with_reducible first | exact HB.out | apply below_alloc | apply pw_below_drewN | apply below_drew1 | refine below_set ?_ GE132.out | refine below_set ?_ GE135.out) | exact HB.out)⟩⟩
                                    · rw [if_neg c51] at H
                                      exact absurd H (by simp)
                                  · rw [if_neg c49] at H
                                    exact absurd H (by simp)
                                · rw [if_neg c47] at H
                                  exact absurd H (by simp)
                              · rw [if_neg c45] at H
                                exact absurd H (by simp)
                            · rw [if_neg c43] at H
                              exact absurd H (by simp)
                          · rw [if_neg c41] at H
                            exact absurd H (by simp)
                        · rw [if_neg c40] at H
                          exact absurd H (by simp)
                      · rw [if_neg c39] at H
                        have c39b0 : decide (x8_3 < (((rd_T52 l0_1 x4_1).f1).length : Int)) = false := decide_eq_false c39
                        clear c39
                        by_cases c60 : x3_3.size + 1 ≤ 9223372036854775807
                        · rw [if_pos c60] at H
                          have c60b0 := eq_true c60
                          have c60b1 : decide (x3_3.size + 1 ≤ 9223372036854775807) = true := decide_eq_true c60
                          try have c60b2 : (9223372036854775807 < x3_3.size + 1) = False := eq_false (Nat.not_lt.2 c60)
                          replace H := Option.bind_eq_some_iff.mp H
                          obtain ⟨t155, A610, H⟩ := H
                          replace H : (if (x3_3 ++ (⟨#[124]⟩ : ByteArray)).size + t155.size ≤ 9223372036854775807 then ((jacquardref03_row.f k3 ((rd_T52 l0_1 x4_1).f2.f1)).bind fun t156 => (if ((x3_3 ++ (⟨#[124]⟩ : ByteArray)) ++ t155).size + t156.size ≤ 9223372036854775807 then ((jacquardref03_row.f k3 ((rd_T52 l0_1 x4_1).f2.f2)).bind fun t157 => (if (((x3_3 ++ (⟨#[124]⟩ : ByteArray)) ++ t155) ++ t156).size + t157.size ≤ 9223372036854775807 then ((jacquardref03_digits.f k3 (wrap64 (((rd_T52 l0_1 x4_1).f2.f3)))).bind fun t158 => (if ((((x3_3 ++ (⟨#[124]⟩ : ByteArray)) ++ t155) ++ t156) ++ t157).size + t158.size ≤ 9223372036854775807 then (jacquardref03_Print.l0 k3 (((((x3_3 ++ (⟨#[124]⟩ : ByteArray)) ++ t155) ++ t156) ++ t157) ++ t158) (wrap64 (x4_1 + 1)) a0_0 l0_1) else (none))) else (none))) else (none))) else (none)) = some r := H
                          have A61 := Aside0.mk A610
                          clear A610
                          by_cases c62 : (x3_3 ++ (⟨#[124]⟩ : ByteArray)).size + t155.size ≤ 9223372036854775807
                          · rw [if_pos c62] at H
                            have c62b0 := eq_true c62
                            have c62b1 : decide ((x3_3 ++ (⟨#[124]⟩ : ByteArray)).size + t155.size ≤ 9223372036854775807) = true := decide_eq_true c62
                            try have c62b2 : (9223372036854775807 < (x3_3 ++ (⟨#[124]⟩ : ByteArray)).size + t155.size) = False := eq_false (Nat.not_lt.2 c62)
                            try (have c62b3 := c62b2; simp only [ByteArray.size_append, show (⟨#[124]⟩ : ByteArray).size = 1 from rfl] at c62b3)
                            replace H := Option.bind_eq_some_iff.mp H
                            obtain ⟨t156, A630, H⟩ := H
                            replace H : (if ((x3_3 ++ (⟨#[124]⟩ : ByteArray)) ++ t155).size + t156.size ≤ 9223372036854775807 then ((jacquardref03_row.f k3 ((rd_T52 l0_1 x4_1).f2.f2)).bind fun t157 => (if (((x3_3 ++ (⟨#[124]⟩ : ByteArray)) ++ t155) ++ t156).size + t157.size ≤ 9223372036854775807 then ((jacquardref03_digits.f k3 (wrap64 (((rd_T52 l0_1 x4_1).f2.f3)))).bind fun t158 => (if ((((x3_3 ++ (⟨#[124]⟩ : ByteArray)) ++ t155) ++ t156) ++ t157).size + t158.size ≤ 9223372036854775807 then (jacquardref03_Print.l0 k3 (((((x3_3 ++ (⟨#[124]⟩ : ByteArray)) ++ t155) ++ t156) ++ t157) ++ t158) (wrap64 (x4_1 + 1)) a0_0 l0_1) else (none))) else (none))) else (none)) = some r := H
                            have A63 := Aside0.mk A630
                            clear A630
                            by_cases c64 : ((x3_3 ++ (⟨#[124]⟩ : ByteArray)) ++ t155).size + t156.size ≤ 9223372036854775807
                            · rw [if_pos c64] at H
                              have c64b0 := eq_true c64
                              have c64b1 : decide (((x3_3 ++ (⟨#[124]⟩ : ByteArray)) ++ t155).size + t156.size ≤ 9223372036854775807) = true := decide_eq_true c64
                              try have c64b2 : (9223372036854775807 < ((x3_3 ++ (⟨#[124]⟩ : ByteArray)) ++ t155).size + t156.size) = False := eq_false (Nat.not_lt.2 c64)
                              try (have c64b3 := c64b2; simp only [ByteArray.size_append, show (⟨#[124]⟩ : ByteArray).size = 1 from rfl] at c64b3)
                              replace H := Option.bind_eq_some_iff.mp H
                              obtain ⟨t157, A650, H⟩ := H
                              replace H : (if (((x3_3 ++ (⟨#[124]⟩ : ByteArray)) ++ t155) ++ t156).size + t157.size ≤ 9223372036854775807 then ((jacquardref03_digits.f k3 (wrap64 (((rd_T52 l0_1 x4_1).f2.f3)))).bind fun t158 => (if ((((x3_3 ++ (⟨#[124]⟩ : ByteArray)) ++ t155) ++ t156) ++ t157).size + t158.size ≤ 9223372036854775807 then (jacquardref03_Print.l0 k3 (((((x3_3 ++ (⟨#[124]⟩ : ByteArray)) ++ t155) ++ t156) ++ t157) ++ t158) (wrap64 (x4_1 + 1)) a0_0 l0_1) else (none))) else (none)) = some r := H
                              have A65 := Aside0.mk A650
                              clear A650
                              by_cases c66 : (((x3_3 ++ (⟨#[124]⟩ : ByteArray)) ++ t155) ++ t156).size + t157.size ≤ 9223372036854775807
                              · rw [if_pos c66] at H
                                have c66b0 := eq_true c66
                                have c66b1 : decide ((((x3_3 ++ (⟨#[124]⟩ : ByteArray)) ++ t155) ++ t156).size + t157.size ≤ 9223372036854775807) = true := decide_eq_true c66
                                try have c66b2 : (9223372036854775807 < (((x3_3 ++ (⟨#[124]⟩ : ByteArray)) ++ t155) ++ t156).size + t157.size) = False := eq_false (Nat.not_lt.2 c66)
                                try (have c66b3 := c66b2; simp only [ByteArray.size_append, show (⟨#[124]⟩ : ByteArray).size = 1 from rfl] at c66b3)
                                replace H := Option.bind_eq_some_iff.mp H
                                obtain ⟨t158, A670, H⟩ := H
                                replace H : (if ((((x3_3 ++ (⟨#[124]⟩ : ByteArray)) ++ t155) ++ t156) ++ t157).size + t158.size ≤ 9223372036854775807 then (jacquardref03_Print.l0 k3 (((((x3_3 ++ (⟨#[124]⟩ : ByteArray)) ++ t155) ++ t156) ++ t157) ++ t158) (wrap64 (x4_1 + 1)) a0_0 l0_1) else (none)) = some r := H
                                have A67 := Aside0.mk A670
                                clear A670
                                by_cases c68 : ((((x3_3 ++ (⟨#[124]⟩ : ByteArray)) ++ t155) ++ t156) ++ t157).size + t158.size ≤ 9223372036854775807
                                · rw [if_pos c68] at H
                                  have c68b0 := eq_true c68
                                  have c68b1 : decide (((((x3_3 ++ (⟨#[124]⟩ : ByteArray)) ++ t155) ++ t156) ++ t157).size + t158.size ≤ 9223372036854775807) = true := decide_eq_true c68
                                  try have c68b2 : (9223372036854775807 < ((((x3_3 ++ (⟨#[124]⟩ : ByteArray)) ++ t155) ++ t156) ++ t157).size + t158.size) = False := eq_false (Nat.not_lt.2 c68)
                                  try (have c68b3 := c68b2; simp only [ByteArray.size_append, show (⟨#[124]⟩ : ByteArray).size = 1 from rfl] at c68b3)
                                  have H' := Aside0.mk H
                                  clear H
                                  have hnb69 := NB135_132.out
                                  have hnc69 := NB132_135.out
                                  have hcz70_0 : wr.cell? ⟨gb135, 0, none⟩ = some (.slice A134_0 ((rd_T52 l0_1 x4_1).f0).length c134_0) := (blk_cell BK135.out 0).trans rfl
                                  have hcz70_1 : wr.cell? ⟨gb135, 1, none⟩ = some (.slice A134_1 ((rd_T52 l0_1 x4_1).f1).length c134_1) := (blk_cell BK135.out 1).trans rfl
                                  have hcz70_2 : wr.cell? ⟨gb135, 2, none⟩ = some (.int .i64 ((rd_T52 l0_1 x4_1).f2.f0)) := (blk_cell BK135.out 2).trans rfl
                                  have hcz70_3 : wr.cell? ⟨gb135, 3, none⟩ = some (.slice A134_3 ((rd_T52 l0_1 x4_1).f2.f1).length c134_3) := (blk_cell BK135.out 3).trans rfl
                                  have hcz70_4 : wr.cell? ⟨gb135, 4, none⟩ = some (.slice A134_4 ((rd_T52 l0_1 x4_1).f2.f2).length c134_4) := (blk_cell BK135.out 4).trans rfl
                                  have hcz70_5 : wr.cell? ⟨gb135, 5, none⟩ = some (.int .i32 ((rd_T52 l0_1 x4_1).f2.f3)) := (blk_cell BK135.out 5).trans rfl
                                  have hfz70_0 := blk_frozen BK135.out 0
                                  have hfz70_1 := blk_frozen BK135.out 1
                                  have hfz70_2 := blk_frozen BK135.out 2
                                  have hfz70_3 := blk_frozen BK135.out 3
                                  have hfz70_4 := blk_frozen BK135.out 4
                                  have hfz70_5 := blk_frozen BK135.out 5
                                  try go_wp2
                                  have n0_ := Aside0.mk (blk_drew BK132.out)
                                  have n1_ := Aside0.mk (blk_drew BK135.out)
                                  have n2_ := Aside0.mk (below_drew1 HB.out)
                                  clear BK132
                                  clear BK135
                                  clear HB
                                  have BK132 := n0_
                                  have BK135 := n1_
                                  have HB := n2_
                                  clear n0_ n1_ n2_
                                  refine start_ (n := 24) (S := fun w' => w'.cell? ⟨gb135, 0, none⟩ = some (.slice A134_0 ((rd_T52 l0_1 x4_1).f0).length c134_0) ∧ w'.cell? ⟨gb135, 1, none⟩ = some (.slice A134_1 ((rd_T52 l0_1 x4_1).f1).length c134_1) ∧ w'.cell? ⟨gb135, 2, none⟩ = some (.int .i64 ((rd_T52 l0_1 x4_1).f2.f0)) ∧ w'.cell? ⟨gb135, 3, none⟩ = some (.slice A134_3 ((rd_T52 l0_1 x4_1).f2.f1).length c134_3) ∧ w'.cell? ⟨gb135, 4, none⟩ = some (.slice A134_4 ((rd_T52 l0_1 x4_1).f2.f2).length c134_4) ∧ w'.cell? ⟨gb135, 5, none⟩ = some (.int .i32 ((rd_T52 l0_1 x4_1).f2.f3))) (ds := []) #[false, false, false, false, false, false, false, false, false, false, false, false, false, false, false, false, false, false, false, false, false, false, false, false] (by kernel_rfl) rfl rfl ⟨(blk_cell BK135.out 0).trans rfl, (blk_cell BK135.out 1).trans rfl, (blk_cell BK135.out 2).trans rfl, (blk_cell BK135.out 3).trans rfl, (blk_cell BK135.out 4).trans rfl, (blk_cell BK135.out 5).trans rfl⟩ (fun hHeld => ?_); refine with_tabW jacquardref03_Print.tab19 jacquardref03_Print.bits19 (fun HT_ HW_ => ?_)
                                  generalize wr.drew = w71 at BK132 BK135 HB hHeld ⊢
                                  refine pure_ (i := 0) (N := some 130) (v := ?_) (a' := ?_) #[true, false, false, false, false, false, false, false, false, false, false, false, false, false, false, false, false, false, false, false, false, false, false, false] rfl rfl (any_of HT_.out (by kernel_rfl)) (fun _ _ _ h => h) (Or.inl ⟨by rfl, ?_⟩) ?_ ?_
                                  rotate_left
                                  · intro w'
                                    go_simp
                                    with_reducible rfl
                                  rotate_left
                                  · simp only [Act.put, List.setIfInBounds_toArray, List.set_cons_zero, List.set_cons_succ, i64_w, i32_w]
                                    rfl
                                  refine pure_ (i := 1) (N := some 131) (v := ?_) (a' := ?_) #[true, true, false, false, false, false, false, false, false, false, false, false, false, false, false, false, false, false, false, false, false, false, false, false] rfl rfl (any_of HT_.out (by kernel_rfl)) (fun _ _ _ h => h) (Or.inl ⟨by rfl, ?_⟩) ?_ ?_
                                  rotate_left
                                  · intro w'
                                    go_simp
                                    with_reducible rfl
                                  rotate_left
                                  · simp only [Act.put, List.setIfInBounds_toArray, List.set_cons_zero, List.set_cons_succ, i64_w, i32_w]
                                    rfl
                                  refine pure_ (i := 2) (N := some 132) (v := ?_) (a' := ?_) #[true, true, true, false, false, false, false, false, false, false, false, false, false, false, false, false, false, false, false, false, false, false, false, false] rfl rfl (any_of HT_.out (by kernel_rfl)) (fun _ _ _ h => h) (Or.inl ⟨by rfl, ?_⟩) ?_ ?_
                                  rotate_left
                                  · intro w'
                                    go_simp
                                    with_reducible rfl
                                  rotate_left
                                  · simp only [Act.put, List.setIfInBounds_toArray, List.set_cons_zero, List.set_cons_succ, i64_w, i32_w]
                                    rfl
                                  refine pure_ (i := 3) (N := some 133) (v := ?_) (a' := ?_) #[true, true, true, true, false, false, false, false, false, false, false, false, false, false, false, false, false, false, false, false, false, false, false, false] rfl rfl (any_of HT_.out (by kernel_rfl)) (fun _ _ _ h => h) (Or.inl ⟨by rfl, ?_⟩) ?_ ?_
                                  rotate_left
                                  · intro w'
                                    go_simp
                                    with_reducible rfl
                                  rotate_left
                                  · simp only [Act.put, List.setIfInBounds_toArray, List.set_cons_zero, List.set_cons_succ, i64_w, i32_w]
                                    rfl
                                  refine pure_ (i := 7) (N := some 137) (v := ?_) (a' := ?_) #[true, true, true, true, false, false, false, true, false, false, false, false, false, false, false, false, false, false, false, false, false, false, false, false] rfl rfl (any_of HT_.out (by kernel_rfl)) (fun _ _ _ h => h) (Or.inl ⟨by rfl, ?_⟩) ?_ ?_
                                  rotate_left
                                  · intro w'
                                    go_simp
                                    with_reducible rfl
                                  rotate_left
                                  · simp only [Act.put, List.setIfInBounds_toArray, List.set_cons_zero, List.set_cons_succ, i64_w, i32_w]
                                    rfl
                                  refine pure_ (i := 8) (N := some 138) (v := ?_) (a' := ?_) #[true, true, true, true, false, false, false, true, true, false, false, false, false, false, false, false, false, false, false, false, false, false, false, false] rfl rfl (any_of HT_.out (by kernel_rfl)) (fun _ _ _ h => h) (Or.inl ⟨by rfl, ?_⟩) ?_ ?_
                                  rotate_left
                                  · intro w'
                                    go_simp
                                    with_reducible rfl
                                  rotate_left
                                  · simp only [Act.put, List.setIfInBounds_toArray, List.set_cons_zero, List.set_cons_succ, i64_w, i32_w]
                                    rfl
                                  refine pure_ (i := 12) (N := some 142) (v := ?_) (a' := ?_) #[true, true, true, true, false, false, false, true, true, false, false, false, true, false, false, false, false, false, false, false, false, false, false, false] rfl rfl (any_of HT_.out (by kernel_rfl)) (fun _ _ _ h => h) (Or.inl ⟨by rfl, ?_⟩) ?_ ?_
                                  rotate_left
                                  · intro w'
                                    go_simp
                                    with_reducible rfl
                                  rotate_left
                                  · simp only [Act.put, List.setIfInBounds_toArray, List.set_cons_zero, List.set_cons_succ, i64_w, i32_w]
                                    rfl
                                  refine pure_ (i := 13) (N := some 143) (v := ?_) (a' := ?_) #[true, true, true, true, false, false, false, true, true, false, false, false, true, true, false, false, false, false, false, false, false, false, false, false] rfl rfl (any_of HT_.out (by kernel_rfl)) (fun _ _ _ h => h) (Or.inl ⟨by rfl, ?_⟩) ?_ ?_
                                  rotate_left
                                  · intro w'
                                    go_simp
                                    with_reducible rfl
                                  rotate_left
                                  · simp only [Act.put, List.setIfInBounds_toArray, List.set_cons_zero, List.set_cons_succ, i64_w, i32_w]
                                    rfl
                                  refine pure_ (i := 17) (N := some 147) (v := ?_) (a' := ?_) #[true, true, true, true, false, false, false, true, true, false, false, false, true, true, false, false, false, true, false, false, false, false, false, false] rfl rfl (any_of HT_.out (by kernel_rfl)) (fun _ _ _ h => h) (Or.inl ⟨by rfl, ?_⟩) ?_ ?_
                                  rotate_left
                                  · intro w'
                                    go_simp
                                    with_reducible rfl
                                  rotate_left
                                  · simp only [Act.put, List.setIfInBounds_toArray, List.set_cons_zero, List.set_cons_succ, i64_w, i32_w]
                                    rfl
                                  refine pure_ (i := 18) (N := some 148) (v := ?_) (a' := ?_) #[true, true, true, true, false, false, false, true, true, false, false, false, true, true, false, false, false, true, true, false, false, false, false, false] rfl rfl (any_of HT_.out (by kernel_rfl)) (fun _ _ _ h => h) (Or.inl ⟨by rfl, ?_⟩) ?_ ?_
                                  rotate_left
                                  · intro w'
                                    go_simp
                                    with_reducible rfl
                                  rotate_left
                                  · simp only [Act.put, List.setIfInBounds_toArray, List.set_cons_zero, List.set_cons_succ, i64_w, i32_w]
                                    rfl
                                  refine take_ (i := 4) (N := some 134) (v := ?_) (a' := ?_) #[true, true, true, true, true, false, false, true, true, false, false, false, true, true, false, false, false, true, true, false, false, false, false, false] rfl rfl (take_ofW HT_.out HW_.out (by kernel_rfl)) (fun _ _ _ h => h) (Or.inl ⟨by rfl, ?_⟩) hHeld ?_ ?_
                                  rotate_left
                                  · rintro w' ⟨s0, s1, s2, s3, s4, s5⟩
                                    go_simp
                                    with_reducible rfl
                                  rotate_left
                                  · simp only [Act.put, List.setIfInBounds_toArray, List.set_cons_zero, List.set_cons_succ, i64_w, i32_w]
                                    rfl
                                  refine take_ (i := 9) (N := some 139) (v := ?_) (a' := ?_) #[true, true, true, true, true, false, false, true, true, true, false, false, true, true, false, false, false, true, true, false, false, false, false, false] rfl rfl (take_ofW HT_.out HW_.out (by kernel_rfl)) (fun _ _ _ h => h) (Or.inl ⟨by rfl, ?_⟩) hHeld ?_ ?_
                                  rotate_left
                                  · rintro w' ⟨s0, s1, s2, s3, s4, s5⟩
                                    go_simp
                                    with_reducible rfl
                                  rotate_left
                                  · simp only [Act.put, List.setIfInBounds_toArray, List.set_cons_zero, List.set_cons_succ, i64_w, i32_w]
                                    rfl
                                  refine take_ (i := 14) (N := some 144) (v := ?_) (a' := ?_) #[true, true, true, true, true, false, false, true, true, true, false, false, true, true, true, false, false, true, true, false, false, false, false, false] rfl rfl (take_ofW HT_.out HW_.out (by kernel_rfl)) (fun _ _ _ h => h) (Or.inl ⟨by rfl, ?_⟩) hHeld ?_ ?_
                                  rotate_left
                                  · rintro w' ⟨s0, s1, s2, s3, s4, s5⟩
                                    go_simp
                                    with_reducible rfl
                                  rotate_left
                                  · simp only [Act.put, List.setIfInBounds_toArray, List.set_cons_zero, List.set_cons_succ, i64_w, i32_w]
                                    rfl
                                  refine take_ (i := 19) (N := some 149) (v := ?_) (a' := ?_) #[true, true, true, true, true, false, false, true, true, true, false, false, true, true, true, false, false, true, true, true, false, false, false, false] rfl rfl (take_ofW HT_.out HW_.out (by kernel_rfl)) (fun _ _ _ h => h) (Or.inl ⟨by rfl, ?_⟩) hHeld ?_ ?_
                                  rotate_left
                                  · rintro w' ⟨s0, s1, s2, s3, s4, s5⟩
                                    go_simp
                                    with_reducible rfl
                                  rotate_left
                                  · simp only [Act.put, List.setIfInBounds_toArray, List.set_cons_zero, List.set_cons_succ, i64_w, i32_w]
                                    rfl
                                  refine pure_ (i := 20) (N := some 150) (v := ?_) (a' := ?_) #[true, true, true, true, true, false, false, true, true, true, false, false, true, true, true, false, false, true, true, true, true, false, false, false] rfl rfl (any_of HT_.out (by kernel_rfl)) (fun _ _ _ h => h) (Or.inl ⟨by rfl, ?_⟩) ?_ ?_
                                  rotate_left
                                  · intro w'
                                    go_simp
                                    with_reducible rfl
                                  rotate_left
                                  · simp only [Act.put, List.setIfInBounds_toArray, List.set_cons_zero, List.set_cons_succ, i64_w, i32_w]
                                    rfl
                                  refine one_ (i := 5) (N := some 135) #[true, true, true, true, true, true, false, true, true, true, false, false, true, true, true, false, false, true, true, true, true, false, false, false] rfl rfl (one_of HT_.out (by kernel_rfl)) (by decide) (fun K hK => ?_)
                                  refine goes_ Tryd.func46 (by kernel_rfl) rfl #[.int .i64 ((rd_T52 l0_1 x4_1).f2.f0)] (by rfl) rfl rfl (by (try simp only [List.map_toArray, List.map_cons, List.map_nil]); first | done | rfl | (simp only [List.length_drop, List.length_take]; rfl)) ?_
                                  with_reducible refine (jacquardref03_digits.calls k3 ((rd_T52 l0_1 x4_1).f2.f0) t155 _ A61.out).mono ?_
                                  rintro e w72 ⟨rfl, hb⟩
                                  refine ⟨_, rfl, ?_⟩
                                  have n0_ := Aside0.mk (blk_below (g := gb132) (o := .cells #[.int .i64 a0_0, .slice (some ad134) l0_1.length c0_1] 28 (0, 0)) (by (with_reducible repeat (first | refine blk_drewN ?_ _ | refine blk_drew ?_ | refine blk_alloc ?_ _)); exact BK132.out) hb)
                                  have n1_ := Aside0.mk (blk_below (g := gb135) (o := .cells #[.slice A134_0 ((rd_T52 l0_1 x4_1).f0).length c134_0, .slice A134_1 ((rd_T52 l0_1 x4_1).f1).length c134_1, .int .i64 ((rd_T52 l0_1 x4_1).f2.f0), .slice A134_3 ((rd_T52 l0_1 x4_1).f2.f1).length c134_3, .slice A134_4 ((rd_T52 l0_1 x4_1).f2.f2).length c134_4, .int .i32 ((rd_T52 l0_1 x4_1).f2.f3)] 52 (0, 0)) (by (with_reducible repeat (first | refine blk_drewN ?_ _ | refine blk_drew ?_ | refine blk_alloc ?_ _)); exact BK135.out) hb)
                                  have n2_ := Aside0.mk (below_step (by repeat (first | (with_reducible first | exact HB.out | apply below_alloc | apply pw_below_drewN | apply below_drew1 | refine below_set ?_ GE132.out | refine below_set ?_ GE135.out) | exact HB.out)) hb)
                                  clear BK132
                                  clear BK135
                                  clear HB
                                  have BK132 := n0_
                                  have BK135 := n1_
                                  have HB := n2_
                                  clear n0_ n1_ n2_
                                  (try clear hb)
                                  (try clear hb2)
                                  (try clear hk)
                                  (try clear hi)
                                  refine hK.out _ _ ⟨(blk_cell BK135.out 0).trans rfl, (blk_cell BK135.out 1).trans rfl, (blk_cell BK135.out 2).trans rfl, (blk_cell BK135.out 3).trans rfl, (blk_cell BK135.out 4).trans rfl, (blk_cell BK135.out 5).trans rfl⟩ (fun hHeld => ?_)
                                  clear hK K
                                  refine norm_ (a' := ?_) ?_ ?_
                                  rotate_left
                                  · show Act.put _ (some 135) _ = _
                                    simp only [Act.put, List.setIfInBounds_toArray, List.set_cons_zero, List.set_cons_succ, i64_w, i32_w]
                                    rfl
                                  refine pure_ (i := 6) (N := some 136) (v := ?_) (a' := ?_) #[true, true, true, true, true, true, true, true, true, true, false, false, true, true, true, false, false, true, true, true, true, false, false, false] rfl rfl (any_of HT_.out (by kernel_rfl)) (fun _ _ _ h => h) (Or.inl ⟨by rfl, ?_⟩) ?_ ?_
                                  rotate_left
                                  · intro w'
                                    go_simp
                                    with_reducible rfl
                                  rotate_left
                                  · simp only [Act.put, List.setIfInBounds_toArray, List.set_cons_zero, List.set_cons_succ, i64_w, i32_w]
                                    rfl
                                  refine one_ (i := 10) (N := some 140) #[true, true, true, true, true, true, true, true, true, true, true, false, true, true, true, false, false, true, true, true, true, false, false, false] rfl rfl (one_of HT_.out (by kernel_rfl)) (by decide) (fun K hK => ?_)
                                  refine goes_ Tryd.func47 (by kernel_rfl) rfl #[.slice A134_3 ((rd_T52 l0_1 x4_1).f2.f1).length c134_3] (by rfl) rfl rfl (by (try simp only [List.map_toArray, List.map_cons, List.map_nil]); first | done | rfl | (simp only [List.length_drop, List.length_take]; rfl)) ?_
                                  with_reducible refine (jacquardref03_row.calls k3 _ _ ((rd_T52 l0_1 x4_1).f2.f1) t156 _ ?side1 ?side2 A63.out).mono ?_
                                  (case side1 => repeat (first | exact (Kd.C_below HR134_3.out HB.out) | (with_reducible refine Kd.C_alloc ?_ _) | (with_reducible refine Kd.C_drewN ?_ _) | (with_reducible refine Kd.C_drew ?_)))
                                  (case side2 => exact HC134_3.out)
                                  rintro e w73 ⟨rfl, hb⟩
                                  refine ⟨_, rfl, ?_⟩
                                  have n0_ := Aside0.mk (blk_below (g := gb132) (o := .cells #[.int .i64 a0_0, .slice (some ad134) l0_1.length c0_1] 28 (0, 0)) (by (with_reducible repeat (first | refine blk_drewN ?_ _ | refine blk_drew ?_ | refine blk_alloc ?_ _)); exact BK132.out) hb)
                                  have n1_ := Aside0.mk (blk_below (g := gb135) (o := .cells #[.slice A134_0 ((rd_T52 l0_1 x4_1).f0).length c134_0, .slice A134_1 ((rd_T52 l0_1 x4_1).f1).length c134_1, .int .i64 ((rd_T52 l0_1 x4_1).f2.f0), .slice A134_3 ((rd_T52 l0_1 x4_1).f2.f1).length c134_3, .slice A134_4 ((rd_T52 l0_1 x4_1).f2.f2).length c134_4, .int .i32 ((rd_T52 l0_1 x4_1).f2.f3)] 52 (0, 0)) (by (with_reducible repeat (first | refine blk_drewN ?_ _ | refine blk_drew ?_ | refine blk_alloc ?_ _)); exact BK135.out) hb)
                                  have n2_ := Aside0.mk (below_step (by repeat (first | (with_reducible first | exact HB.out | apply below_alloc | apply pw_below_drewN | apply below_drew1 | refine below_set ?_ GE132.out | refine below_set ?_ GE135.out) | exact HB.out)) hb)
                                  clear BK132
                                  clear BK135
                                  clear HB
                                  have BK132 := n0_
                                  have BK135 := n1_
                                  have HB := n2_
                                  clear n0_ n1_ n2_
                                  (try clear hb)
                                  (try clear hb2)
                                  (try clear hk)
                                  (try clear hi)
                                  refine hK.out _ _ ⟨(blk_cell BK135.out 0).trans rfl, (blk_cell BK135.out 1).trans rfl, (blk_cell BK135.out 2).trans rfl, (blk_cell BK135.out 3).trans rfl, (blk_cell BK135.out 4).trans rfl, (blk_cell BK135.out 5).trans rfl⟩ (fun hHeld => ?_)
                                  clear hK K
                                  refine norm_ (a' := ?_) ?_ ?_
                                  rotate_left
                                  · show Act.put _ (some 140) _ = _
                                    simp only [Act.put, List.setIfInBounds_toArray, List.set_cons_zero, List.set_cons_succ, i64_w, i32_w]
                                    rfl
                                  refine pure_ (i := 11) (N := some 141) (v := ?_) (a' := ?_) #[true, true, true, true, true, true, true, true, true, true, true, true, true, true, true, false, false, true, true, true, true, false, false, false] rfl rfl (any_of HT_.out (by kernel_rfl)) (fun _ _ _ h => h) (Or.inl ⟨by rfl, ?_⟩) ?_ ?_
                                  rotate_left
                                  · intro w'
                                    go_simp
                                    with_reducible rfl
                                  rotate_left
                                  · simp only [Act.put, List.setIfInBounds_toArray, List.set_cons_zero, List.set_cons_succ, i64_w, i32_w]
                                    rfl
                                  refine one_ (i := 15) (N := some 145) #[true, true, true, true, true, true, true, true, true, true, true, true, true, true, true, true, false, true, true, true, true, false, false, false] rfl rfl (one_of HT_.out (by kernel_rfl)) (by decide) (fun K hK => ?_)
                                  refine goes_ Tryd.func47 (by kernel_rfl) rfl #[.slice A134_4 ((rd_T52 l0_1 x4_1).f2.f2).length c134_4] (by rfl) rfl rfl (by (try simp only [List.map_toArray, List.map_cons, List.map_nil]); first | done | rfl | (simp only [List.length_drop, List.length_take]; rfl)) ?_
                                  with_reducible refine (jacquardref03_row.calls k3 _ _ ((rd_T52 l0_1 x4_1).f2.f2) t157 _ ?side1 ?side2 A65.out).mono ?_
                                  (case side1 => repeat (first | exact (Kd.C_below HR134_4.out HB.out) | (with_reducible refine Kd.C_alloc ?_ _) | (with_reducible refine Kd.C_drewN ?_ _) | (with_reducible refine Kd.C_drew ?_)))
                                  (case side2 => exact HC134_4.out)
                                  rintro e w74 ⟨rfl, hb⟩
                                  refine ⟨_, rfl, ?_⟩
                                  have n0_ := Aside0.mk (blk_below (g := gb132) (o := .cells #[.int .i64 a0_0, .slice (some ad134) l0_1.length c0_1] 28 (0, 0)) (by (with_reducible repeat (first | refine blk_drewN ?_ _ | refine blk_drew ?_ | refine blk_alloc ?_ _)); exact BK132.out) hb)
                                  have n1_ := Aside0.mk (blk_below (g := gb135) (o := .cells #[.slice A134_0 ((rd_T52 l0_1 x4_1).f0).length c134_0, .slice A134_1 ((rd_T52 l0_1 x4_1).f1).length c134_1, .int .i64 ((rd_T52 l0_1 x4_1).f2.f0), .slice A134_3 ((rd_T52 l0_1 x4_1).f2.f1).length c134_3, .slice A134_4 ((rd_T52 l0_1 x4_1).f2.f2).length c134_4, .int .i32 ((rd_T52 l0_1 x4_1).f2.f3)] 52 (0, 0)) (by (with_reducible repeat (first | refine blk_drewN ?_ _ | refine blk_drew ?_ | refine blk_alloc ?_ _)); exact BK135.out) hb)
                                  have n2_ := Aside0.mk (below_step (by repeat (first | (with_reducible first | exact HB.out | apply below_alloc | apply pw_below_drewN | apply below_drew1 | refine below_set ?_ GE132.out | refine below_set ?_ GE135.out) | exact HB.out)) hb)
                                  clear BK132
                                  clear BK135
                                  clear HB
                                  have BK132 := n0_
                                  have BK135 := n1_
                                  have HB := n2_
                                  clear n0_ n1_ n2_
                                  (try clear hb)
                                  (try clear hb2)
                                  (try clear hk)
                                  (try clear hi)
                                  refine hK.out _ _ ⟨(blk_cell BK135.out 0).trans rfl, (blk_cell BK135.out 1).trans rfl, (blk_cell BK135.out 2).trans rfl, (blk_cell BK135.out 3).trans rfl, (blk_cell BK135.out 4).trans rfl, (blk_cell BK135.out 5).trans rfl⟩ (fun hHeld => ?_)
                                  clear hK K
                                  refine norm_ (a' := ?_) ?_ ?_
                                  rotate_left
                                  · show Act.put _ (some 145) _ = _
                                    simp only [Act.put, List.setIfInBounds_toArray, List.set_cons_zero, List.set_cons_succ, i64_w, i32_w]
                                    rfl
                                  refine pure_ (i := 16) (N := some 146) (v := ?_) (a' := ?_) #[true, true, true, true, true, true, true, true, true, true, true, true, true, true, true, true, true, true, true, true, true, false, false, false] rfl rfl (any_of HT_.out (by kernel_rfl)) (fun _ _ _ h => h) (Or.inl ⟨by rfl, ?_⟩) ?_ ?_
                                  rotate_left
                                  · intro w'
                                    go_simp
                                    with_reducible rfl
                                  rotate_left
                                  · simp only [Act.put, List.setIfInBounds_toArray, List.set_cons_zero, List.set_cons_succ, i64_w, i32_w]
                                    rfl
                                  refine one_ (i := 21) (N := some 151) #[true, true, true, true, true, true, true, true, true, true, true, true, true, true, true, true, true, true, true, true, true, true, false, false] rfl rfl (one_of HT_.out (by kernel_rfl)) (by decide) (fun K hK => ?_)
                                  refine goes_ Tryd.func46 (by kernel_rfl) rfl #[.int .i64 (wrap64 (((rd_T52 l0_1 x4_1).f2.f3)))] (by rfl) rfl rfl (by (try simp only [List.map_toArray, List.map_cons, List.map_nil]); first | done | rfl | (simp only [List.length_drop, List.length_take]; rfl)) ?_
                                  with_reducible refine (jacquardref03_digits.calls k3 (wrap64 (((rd_T52 l0_1 x4_1).f2.f3))) t158 _ A67.out).mono ?_
                                  rintro e w75 ⟨rfl, hb⟩
                                  refine ⟨_, rfl, ?_⟩
                                  have n0_ := Aside0.mk (blk_below (g := gb132) (o := .cells #[.int .i64 a0_0, .slice (some ad134) l0_1.length c0_1] 28 (0, 0)) (by (with_reducible repeat (first | refine blk_drewN ?_ _ | refine blk_drew ?_ | refine blk_alloc ?_ _)); exact BK132.out) hb)
                                  have n1_ := Aside0.mk (blk_below (g := gb135) (o := .cells #[.slice A134_0 ((rd_T52 l0_1 x4_1).f0).length c134_0, .slice A134_1 ((rd_T52 l0_1 x4_1).f1).length c134_1, .int .i64 ((rd_T52 l0_1 x4_1).f2.f0), .slice A134_3 ((rd_T52 l0_1 x4_1).f2.f1).length c134_3, .slice A134_4 ((rd_T52 l0_1 x4_1).f2.f2).length c134_4, .int .i32 ((rd_T52 l0_1 x4_1).f2.f3)] 52 (0, 0)) (by (with_reducible repeat (first | refine blk_drewN ?_ _ | refine blk_drew ?_ | refine blk_alloc ?_ _)); exact BK135.out) hb)
                                  have n2_ := Aside0.mk (below_step (by repeat (first | (with_reducible first | exact HB.out | apply below_alloc | apply pw_below_drewN | apply below_drew1 | refine below_set ?_ GE132.out | refine below_set ?_ GE135.out) | exact HB.out)) hb)
                                  clear BK132
                                  clear BK135
                                  clear HB
                                  have BK132 := n0_
                                  have BK135 := n1_
                                  have HB := n2_
                                  clear n0_ n1_ n2_
                                  (try clear hb)
                                  (try clear hb2)
                                  (try clear hk)
                                  (try clear hi)
                                  refine hK.out _ _ ⟨(blk_cell BK135.out 0).trans rfl, (blk_cell BK135.out 1).trans rfl, (blk_cell BK135.out 2).trans rfl, (blk_cell BK135.out 3).trans rfl, (blk_cell BK135.out 4).trans rfl, (blk_cell BK135.out 5).trans rfl⟩ (fun hHeld => ?_)
                                  clear hK K
                                  refine norm_ (a' := ?_) ?_ ?_
                                  rotate_left
                                  · show Act.put _ (some 151) _ = _
                                    simp only [Act.put, List.setIfInBounds_toArray, List.set_cons_zero, List.set_cons_succ, i64_w, i32_w]
                                    rfl
                                  refine pure_ (i := 22) (N := some 152) (v := ?_) (a' := ?_) #[true, true, true, true, true, true, true, true, true, true, true, true, true, true, true, true, true, true, true, true, true, true, true, false] rfl rfl (any_of HT_.out (by kernel_rfl)) (fun _ _ _ h => h) (Or.inl ⟨by rfl, ?_⟩) ?_ ?_
                                  rotate_left
                                  · intro w'
                                    go_simp
                                    with_reducible rfl
                                  rotate_left
                                  · simp only [Act.put, List.setIfInBounds_toArray, List.set_cons_zero, List.set_cons_succ, i64_w, i32_w]
                                    rfl
                                  refine pure_ (i := 23) (N := some 3) (v := ?_) (a' := ?_) #[true, true, true, true, true, true, true, true, true, true, true, true, true, true, true, true, true, true, true, true, true, true, true, true] rfl rfl (any_of HT_.out (by kernel_rfl)) (fun _ _ _ h => h) (Or.inl ⟨by rfl, ?_⟩) ?_ ?_
                                  rotate_left
                                  · intro w'
                                    go_simp
                                    with_reducible rfl
                                  rotate_left
                                  · simp only [Act.put, List.setIfInBounds_toArray, List.set_cons_zero, List.set_cons_succ, i64_w, i32_w]
                                    rfl
                                  refine done_ (done_of HT_.out (by kernel_rfl)) ?_
                                  try go_wp2
                                  go_roundg k3
                                  case measure => have := HK1.out; have := HK2.out; have := HK3.out; omega
                                  case rel => exact ⟨(((((x3_3 ++ (⟨#[124]⟩ : ByteArray)) ++ t155) ++ t156) ++ t157) ++ t158), (wrap64 (x4_1 + 1)), (by first | rfl | (simp; done) | (simp [*]; done)), (by first | rfl | (simp; done) | (simp [*]; done)), H', ⟨by have := HK1.out; have := HK2.out; have := HK3.out; omega⟩, ⟨by (with_reducible repeat (first | refine blk_drewN ?_ _ | refine blk_drew ?_ | refine blk_alloc ?_ _)); exact BK132.out⟩, ⟨by repeat (first | (with_reducible first | exact HB.out | apply below_alloc | apply pw_below_drewN | apply below_drew1 | refine below_set ?_ GE132.out | refine below_set ?_ GE135.out) | exact HB.out)⟩⟩
                                · rw [if_neg c68] at H
                                  exact absurd H (by simp)
                              · rw [if_neg c66] at H
                                exact absurd H (by simp)
                            · rw [if_neg c64] at H
                              exact absurd H (by simp)
                          · rw [if_neg c62] at H
                            exact absurd H (by simp)
                        · rw [if_neg c60] at H
                          exact absurd H (by simp)
          · rw [if_neg c8] at H
            exact absurd H (by simp)
        · rw [if_neg c7] at H
          exact absurd H (by simp)
      · rw [if_neg c6] at H
        have c6b0 : decide (x4_1 < (l0_1.length : Int)) = false := decide_eq_false c6
        clear c6
        obtain rfl := Option.some.inj H
        have hcz76_0 : wr.cell? ⟨gb132, 0, none⟩ = some (.int .i64 a0_0) := (blk_cell BK132.out 0).trans rfl
        have hcz76_1 : wr.cell? ⟨gb132, 1, none⟩ = some (.slice A0_1 l0_1.length c0_1) := (blk_cell BK132.out 1).trans rfl
        have hfz76_0 := blk_frozen BK132.out 0
        have hfz76_1 := blk_frozen BK132.out 1
        go_wp2
        go_ret
        exact ⟨by first | rfl | (simp [errW_none, errW_some] <;> rfl) | (simp [*, errW_none, errW_some] <;> rfl), by repeat (first | (with_reducible first | exact HB.out | apply below_alloc | apply pw_below_drewN | apply below_drew1 | refine below_set ?_ GE132.out) | exact HB.out)⟩

end Go.Proofs.YtlmkhllippobaaaDoor.Pr
