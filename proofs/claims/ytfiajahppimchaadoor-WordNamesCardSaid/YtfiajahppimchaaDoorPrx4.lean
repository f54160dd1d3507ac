-- By this session's driver (wip/myprint.py) out of the translation; Lean checks it.
import Derived.Test.YtfiajahppimchaaDoorPrx0
import Derived.Test.YtfiajahppimchaaDoorPrx1
import Derived.Test.YtfiajahppimchaaDoorPrx3
namespace Go.Proofs.YtfiajahppimchaaDoor.Pr
open Go.Proofs.YtfiajahppimchaaDoor.Do
open Go.Proofs.YtfiajahppimchaaDoor.Wl
open Go.RowKit Go.Proofs.YtfiajahppimchaaDoorW.PrintWords Go.Proofs.YtfiajahppimchaaDoorW.PrintLast Go.Proofs.YtfiajahppimchaaDoorW.PrintMore
attribute [local go_sem] max2_int min2_int max_two min_two max_three min_three max_four min_four   -- for this text's walks alone
set_option linter.unusedVariables false
set_option linter.unusedSimpArgs false

/-! ### jacquardref01_Number: function 12 -/
def jacquardref01_Number.l0 : Nat → ByteArray → List ByteArray → Int → Option (Int)
  | 0, _, _, _ => none
  | k + 1, x0, x3, x4 => if x4 < (x3.length : Int) then (if 0 ≤ x4 then (if (rdOf ByteArray.empty x3 x4).toList = x0.toList then (some (wrap64 (x4 + 1))) else (jacquardref01_Number.l0 k x0 x3 (wrap64 (x4 + 1)))) else (none)) else (some 0)
def jacquardref01_Number.f (k : Nat) (a0 : ByteArray) : Option (Int) := (jacquardref01_Names.f).bind fun t137 => (jacquardref01_Number.l0 k a0 t137 0)
theorem jacquardref01_Number.mono_l : ∀ k, (∀ y0 y1 y2, LeO (jacquardref01_Number.l0 k y0 y1 y2) (jacquardref01_Number.l0 (k + 1) y0 y1 y2))
  | 0 => fun _ _ _ r h => by simp [jacquardref01_Number.l0] at h
  | k + 1 => by
    have ih0 := jacquardref01_Number.mono_l k
    · intro y0 y1 y2
      unfold jacquardref01_Number.l0
      repeat' first
      | (with_reducible exact ih0 _ _ _)
      | (with_reducible exact LeO.refl _)
      | (with_reducible exact LeO.none _)
      | (with_reducible refine LeO.ite ?_ ?_)
      | (with_reducible refine LeO.bind ?_ (fun _ => ?_))
      | exact ih0 _ _ _
      | exact LeO.none _
      | refine LeO.ite ?_ ?_
      | refine LeO.bind ?_ (fun _ => ?_)
theorem jacquardref01_Number.mono : ∀ a0 k, LeO (jacquardref01_Number.f k a0) (jacquardref01_Number.f (k + 1) a0) := by
  intro a0 k
  have ih0 := jacquardref01_Number.mono_l k
  unfold jacquardref01_Number.f
  repeat' first
      | (with_reducible exact ih0 _ _ _)
      | (with_reducible exact LeO.refl _)
      | (with_reducible exact LeO.none _)
      | (with_reducible refine LeO.ite ?_ ?_)
      | (with_reducible refine LeO.bind ?_ (fun _ => ?_))
      | exact ih0 _ _ _
      | exact LeO.none _
      | refine LeO.ite ?_ ?_
      | refine LeO.bind ?_ (fun _ => ?_)
set_option maxHeartbeats 8000000 in
set_option maxRecDepth 100000 in
theorem jacquardref01_Number.calls (k : Nat) (a0 : ByteArray) (r : Int) (w : World) (h : jacquardref01_Number.f k a0 = some r) :
    Calls Tryd.prog 12 #[.string a0] w fun e w' => e = .returned (.int .i64 r) ∧ Below w.heap.size w w' := by
  have HB := Aside0.mk (Below.refl w.heap.size w)
  have H : ((jacquardref01_Names.f).bind fun t137 => (jacquardref01_Number.l0 k a0 t137 0)) = some r := h
  clear h
  replace H := Option.bind_eq_some_iff.mp H
  obtain ⟨t137, A20, H⟩ := H
  replace H : (jacquardref01_Number.l0 k a0 t137 0) = some r := H
  have A2 := Aside0.mk A20
  clear A20
  have H' := Aside0.mk H
  clear H
  go_enter Tryd.func12, Tryd.ntmps12
  go_wp2_with (first | ((with_reducible refine gate_callee (f := 19) rfl ?_); refine goesL_ (some 5) rfl rfl Tryd.func19 (by kernel_rfl) rfl #[] rfl (by (try simp only [List.map_toArray, List.map_cons, List.map_nil]); first | done | rfl | (simp only [List.length_drop, List.length_take]; rfl)) ?_; (with_reducible refine (jacquardref01_Names.calls  t137 _ A2.out).mono ?_); rintro e w3 ⟨v138, rfl, ho0, hb⟩; refine ⟨_, rfl, ?_⟩; have n0_ := Aside0.mk (Kd.R_lower ho0 (below_size (by repeat (first | (with_reducible first | exact HB.out | apply below_alloc | apply pw_below_drewN | apply below_drew1) | exact HB.out)))); have n1_ := Aside0.mk (below_step (by repeat (first | (with_reducible first | exact HB.out | apply below_alloc | apply pw_below_drewN | apply below_drew1) | exact HB.out)) hb); clear HB; have HO139 := n0_; have HB := n1_; clear n0_ n1_; (try clear hb); (try clear hb2); (try clear hk); (try clear hi); (try clear ho0)))
  go_loopg [4] k (fun kq v4 w' => ∃ (x4_1 : Int), v4 = .int .i64 x4_1 ∧ Aside0 (jacquardref01_Number.l0 kq a0 t137 x4_1 = some r) ∧ Aside0 (kq ≤ k) ∧ Aside0 (Kd.R Kd.string 9 w' w.heap.size (fun _ => True) v138 t137) ∧ Aside0 (Below w.heap.size w w'))
  case atStart => exact ⟨(0), (by first | rfl | (simp; done) | (simp [*]; done)), H', ⟨Nat.le_refl _⟩, ⟨by (with_reducible repeat (first | apply Kd.R_alloc | apply Kd.R_drewN | apply Kd.R_drew)); exact HO139.out⟩, ⟨by repeat (first | (with_reducible first | exact HB.out | apply below_alloc | apply pw_below_drewN | apply below_drew1) | exact HB.out)⟩⟩
  case round =>
    clear H'
    try clear c1
    try clear p2
    obtain ⟨x4_1, rfl, HA, HK1, HO_3, HB⟩ := hrel
    cases gk with
    | zero => exact absurd HA.out (by simp [jacquardref01_Number.l0])
    | succ k1 =>
      have H := HA.out
      clear HA
      simp only [jacquardref01_Number.l0] at H
      by_cases c4 : x4_1 < (t137.length : Int)
      · rw [if_pos c4] at H
        have c4b0 : decide (x4_1 < (t137.length : Int)) = true := decide_eq_true c4
        clear c4
        by_cases c5 : 0 ≤ x4_1
        · rw [if_pos c5] at H
          have c5b0 : decide (0 ≤ x4_1) = true := decide_eq_true c5
          clear c5
          by_cases c6 : (rdOf ByteArray.empty t137 x4_1).toList = a0.toList
          · rw [if_pos c6] at H
            have c6b0 : ((rdOf ByteArray.empty t137 x4_1).toList == a0.toList) = true := beq_iff_eq.mpr c6
            have c6b1 : ((rdOf ByteArray.empty t137 x4_1).toList != a0.toList) = false := bne_eq_false_iff_eq.mpr c6
            clear c6
            obtain rfl := Option.some.inj H
            obtain ⟨Ao7, co7, eo7⟩ := Kd.R_slice HO_3.out
            subst eo7
            have p140 : 0 ≤ (x4_1 : Int) := of_decide_eq_true (by first | (with_reducible assumption) | assumption)
            have q140 : x4_1 < (t137.length : Int) := of_decide_eq_true (by first | (with_reducible assumption) | assumption)
            obtain ⟨ad140, e140, hx140_0⟩ := Kd.at_string (Kd.R_reads' HO_3.out).2.2 x4_1 p140 q140
            cases e140
            replace p140 := eq_true p140
            replace q140 := eq_true q140
            go_wp2
            go_ret
            exact ⟨by first | rfl | (simp [errW_none, errW_some] <;> rfl) | (simp [*, errW_none, errW_some] <;> rfl), by repeat (first | (with_reducible first | exact HB.out | apply below_alloc | apply pw_below_drewN | apply below_drew1) | exact HB.out)⟩
          · rw [if_neg c6] at H
            have c6b0 : ((rdOf ByteArray.empty t137 x4_1).toList == a0.toList) = false := beq_eq_false_iff_ne.mpr c6
            have c6b1 : ((rdOf ByteArray.empty t137 x4_1).toList != a0.toList) = true := bne_iff_ne.mpr c6
            have H' := Aside0.mk H
            clear H
            obtain ⟨Ao8, co8, eo8⟩ := Kd.R_slice HO_3.out
            subst eo8
            have p140 : 0 ≤ (x4_1 : Int) := of_decide_eq_true (by first | (with_reducible assumption) | assumption)
            have q140 : x4_1 < (t137.length : Int) := of_decide_eq_true (by first | (with_reducible assumption) | assumption)
            obtain ⟨ad140, e140, hx140_0⟩ := Kd.at_string (Kd.R_reads' HO_3.out).2.2 x4_1 p140 q140
            cases e140
            replace p140 := eq_true p140
            replace q140 := eq_true q140
            go_wp2
            go_roundg k1
            case measure => have := HK1.out; omega
            case rel => exact ⟨(wrap64 (x4_1 + 1)), (by first | rfl | (simp; done) | (simp [*]; done)), H', ⟨by have := HK1.out; omega⟩, ⟨by (with_reducible repeat (first | apply Kd.R_alloc | apply Kd.R_drewN | apply Kd.R_drew)); exact HO_3.out⟩, ⟨by repeat (first | (with_reducible first | exact HB.out | apply below_alloc | apply pw_below_drewN | apply below_drew1) | exact HB.out)⟩⟩
        · rw [if_neg c5] at H
          exact absurd H (by simp)
      · rw [if_neg c4] at H
        have c4b0 : decide (x4_1 < (t137.length : Int)) = false := decide_eq_false c4
        clear c4
        obtain rfl := Option.some.inj H
        obtain ⟨Ao9, co9, eo9⟩ := Kd.R_slice HO_3.out
        subst eo9
        go_wp2
        go_ret
        exact ⟨by first | rfl | (simp [errW_none, errW_some] <;> rfl) | (simp [*, errW_none, errW_some] <;> rfl), by repeat (first | (with_reducible first | exact HB.out | apply below_alloc | apply pw_below_drewN | apply below_drew1) | exact HB.out)⟩

/-! ### jacquardlaw01_WordNames: function 4 -/
def jacquardlaw01_WordNames.l0 : Nat → Int → Int → Bool → ByteArray → Int → Option (Bool)
  | 0, _, _, _, _, _ => none
  | k + 1, x0, x2, x7, x8, x9 => if x9 < 20 then ((word_Name.f x9).bind fun t142 => ((jacquardref01_Name.f x9).bind fun t143 => (if t142.toList = t143.toList then (if x9 > 0 then (if x9 < 19 then ((word_Name.f x9).bind fun t144 => ((word_Number.f t144).bind fun t145 => (if t145 = x9 then (jacquardlaw01_WordNames.l0 k x0 x2 x7 x8 (wrap64 (x9 + 1))) else (some false)))) else (jacquardlaw01_WordNames.l0 k x0 x2 x7 x8 (wrap64 (x9 + 1)))) else (jacquardlaw01_WordNames.l0 k x0 x2 x7 x8 (wrap64 (x9 + 1)))) else (some false)))) else ((word_Parse.f x8).bind fun bt146 => ((jacquardref01_Parse.f k x8).bind fun bt148 => (if x7 = true then ((word_Name.f x0).bind fun t150 => ((jacquardref01_Name.f x0).bind fun t151 => (if t150.toList = t151.toList then ((word_Number.f x8).bind fun t152 => ((jacquardref01_Number.f k x8).bind fun t153 => (if t152 = t153 then ((word_Text.f x2).bind fun t154 => ((jacquardref01_Text.f k x2).bind fun t155 => (if t154.toList = t155.toList then (if bt146.1 = bt148.1 then (some (bt146.2 == bt148.2)) else (some false)) else (some false)))) else (some false)))) else (some false)))) else (some false))))
def jacquardlaw01_WordNames.f (k : Nat) (a0 : Int) (a1 : ByteArray) (a2 : Int) : Option (Bool) := (jacquardlaw01_shown.f).bind fun t141 => (if 0 ≤ (mn (a1.size : Int) 20) then (if (mn (a1.size : Int) 20) ≤ (a1.size : Int) then (jacquardlaw01_WordNames.l0 k a0 a2 t141 (a1.extract 0 ((mn (a1.size : Int) 20) : Int).toNat) (-1)) else (none)) else (none))
theorem jacquardlaw01_WordNames.mono_l : ∀ k, (∀ y0 y1 y2 y3 y4, LeO (jacquardlaw01_WordNames.l0 k y0 y1 y2 y3 y4) (jacquardlaw01_WordNames.l0 (k + 1) y0 y1 y2 y3 y4))
  | 0 => fun _ _ _ _ _ r h => by simp [jacquardlaw01_WordNames.l0] at h
  | k + 1 => by
    have ih0 := jacquardlaw01_WordNames.mono_l k
    · intro y0 y1 y2 y3 y4
      unfold jacquardlaw01_WordNames.l0
      repeat' first
      | (with_reducible exact ih0 _ _ _ _ _)
      | (with_reducible exact jacquardref01_Number.mono _ _)
      | (with_reducible exact jacquardref01_Parse.mono _ _)
      | (with_reducible exact jacquardref01_Text.mono _ _)
      | (with_reducible exact LeO.refl _)
      | (with_reducible exact LeO.none _)
      | (with_reducible refine LeO.ite ?_ ?_)
      | (with_reducible refine LeO.bind ?_ (fun _ => ?_))
      | exact ih0 _ _ _ _ _
      | exact jacquardref01_Number.mono _ _
      | exact jacquardref01_Parse.mono _ _
      | exact jacquardref01_Text.mono _ _
      | exact LeO.none _
      | refine LeO.ite ?_ ?_
      | refine LeO.bind ?_ (fun _ => ?_)
theorem jacquardlaw01_WordNames.mono : ∀ a0 a1 a2 k, LeO (jacquardlaw01_WordNames.f k a0 a1 a2) (jacquardlaw01_WordNames.f (k + 1) a0 a1 a2) := by
  intro a0 a1 a2 k
  have ih0 := jacquardlaw01_WordNames.mono_l k
  unfold jacquardlaw01_WordNames.f
  repeat' first
      | (with_reducible exact ih0 _ _ _ _ _)
      | (with_reducible exact jacquardref01_Number.mono _ _)
      | (with_reducible exact jacquardref01_Parse.mono _ _)
      | (with_reducible exact jacquardref01_Text.mono _ _)
      | (with_reducible exact LeO.refl _)
      | (with_reducible exact LeO.none _)
      | (with_reducible refine LeO.ite ?_ ?_)
      | (with_reducible refine LeO.bind ?_ (fun _ => ?_))
      | exact ih0 _ _ _ _ _
      | exact jacquardref01_Number.mono _ _
      | exact jacquardref01_Parse.mono _ _
      | exact jacquardref01_Text.mono _ _
      | exact LeO.none _
      | refine LeO.ite ?_ ?_
      | refine LeO.bind ?_ (fun _ => ?_)
set_option maxHeartbeats 8000000 in
set_option maxRecDepth 100000 in
theorem jacquardlaw01_WordNames.calls (k : Nat) (a0 : Int) (a1 : ByteArray) (a2 : Int) (w : World) (HG : Aside0 (Laid w)) (h : jacquardlaw01_WordNames.f k a0 a1 a2 = some true) :
    Calls Tryd.prog 4 #[.int .i64 a0, .string a1, .int .i32 a2] w fun e w' => e = .returned (.bool true) ∧ Below w.heap.size w w' := by
  have HB := Aside0.mk (Below.refl w.heap.size w)
  have H : ((jacquardlaw01_shown.f).bind fun t141 => (if 0 ≤ (mn (a1.size : Int) 20) then (if (mn (a1.size : Int) 20) ≤ (a1.size : Int) then (jacquardlaw01_WordNames.l0 k a0 a2 t141 (a1.extract 0 ((mn (a1.size : Int) 20) : Int).toNat) (-1)) else (none)) else (none))) = some true := h
  clear h
  replace H := Option.bind_eq_some_iff.mp H
  obtain ⟨t141, A40, H⟩ := H
  replace H : (if 0 ≤ (mn (a1.size : Int) 20) then (if (mn (a1.size : Int) 20) ≤ (a1.size : Int) then (jacquardlaw01_WordNames.l0 k a0 a2 t141 (a1.extract 0 ((mn (a1.size : Int) 20) : Int).toNat) (-1)) else (none)) else (none)) = some true := H
  have A4 := Aside0.mk A40
  clear A40
  obtain ⟨ji5, hji5⟩ : ∃ j_ : Int, (mn (a1.size : Int) 20) = j_ := ⟨_, rfl⟩
  replace H : (if 0 ≤ (ji5) then (if (ji5) ≤ (a1.size : Int) then (jacquardlaw01_WordNames.l0 k a0 a2 t141 (a1.extract 0 ((ji5) : Int).toNat) (-1)) else (none)) else (none)) = some true := by first | (rw [hji5] at H; exact H) | (simp only [hji5] at H ⊢; exact H)
  (try rw [hji5] at A4)
  (try (have hji5h : ji5 ≤ 20 := by (rw [← hji5]; unfold mn; (repeat' split) <;> omega)))
  (try (have hji5g : ji5 ≤ 64 := by omega))
  (try (have hji5l : 0 ≤ ji5 := by (rw [← hji5]; unfold mn; (repeat' split) <;> omega)))
  (try (have hji5m : 0 ≤ ji5 := by omega))
  have hji5_ : (if 20 < (a1.size : Int) then 20 else (a1.size : Int)) = ji5 := hji5
  by_cases c6 : 0 ≤ (ji5)
  · rw [if_pos c6] at H
    have c6b0 := eq_true c6
    have c6b1 : decide (0 ≤ (ji5)) = true := decide_eq_true c6
    clear c6
    by_cases c7 : (ji5) ≤ (a1.size : Int)
    · rw [if_pos c7] at H
      have c7b0 := eq_true c7
      have c7b1 : decide ((ji5) ≤ (a1.size : Int)) = true := decide_eq_true c7
      clear c7
      have H' := Aside0.mk H
      clear H
      go_enter Tryd.func4, Tryd.ntmps4
      go_wp2_with (first | ((with_reducible refine gate_callee (f := 5) rfl ?_); refine goesL_ (some 14) rfl rfl Tryd.func5 (by kernel_rfl) rfl #[] rfl (by (try simp only [List.map_toArray, List.map_cons, List.map_nil]); first | done | rfl | (simp only [List.length_drop, List.length_take]; rfl)) ?_; (with_reducible refine (jacquardlaw01_shown.calls  t141 _ A4.out).mono ?_); rintro e w8 ⟨rfl, hb⟩; refine ⟨_, rfl, ?_⟩; have n0_ := Aside0.mk (below_step (by repeat (first | (with_reducible first | exact HB.out | apply below_alloc | apply pw_below_drewN | apply below_drew1) | exact HB.out)) hb); clear HB; have HB := n0_; clear n0_; (try clear hb); (try clear hb2); (try clear hk); (try clear hi)))
      go_loopg [9] k (fun kq v9 w' => ∃ (x9_1 : Int), v9 = .int .i64 x9_1 ∧ Aside0 (jacquardlaw01_WordNames.l0 kq a0 a2 t141 (a1.extract 0 ((ji5) : Int).toNat) x9_1 = some true) ∧ Aside0 (kq ≤ k) ∧ Aside0 (Below w.heap.size w w'))
      case atStart => exact ⟨((-1)), (by first | rfl | (simp; done) | (simp [*]; done)), H', ⟨Nat.le_refl _⟩, ⟨by repeat (first | (with_reducible first | exact HB.out | apply below_alloc | apply pw_below_drewN | apply below_drew1) | exact HB.out)⟩⟩
      case round =>
        clear H'
        try clear p2
        try clear c4
        try clear c5
        try clear c6
        try clear c6b0
        try clear c6b1
        try clear c7
        try clear c7b0
        try clear c7b1
        obtain ⟨x9_1, rfl, HA, HK1, HB⟩ := hrel
        cases gk with
        | zero => exact absurd HA.out (by simp [jacquardlaw01_WordNames.l0])
        | succ k1 =>
          have H := HA.out
          clear HA
          simp only [jacquardlaw01_WordNames.l0] at H
          by_cases c9 : x9_1 < 20
          · rw [if_pos c9] at H
            have c9b0 : decide (x9_1 < 20) = true := decide_eq_true c9
            clear c9
            replace H := Option.bind_eq_some_iff.mp H
            obtain ⟨t142, A100, H⟩ := H
            replace H : ((jacquardref01_Name.f x9_1).bind fun t143 => (if t142.toList = t143.toList then (if x9_1 > 0 then (if x9_1 < 19 then ((word_Name.f x9_1).bind fun t144 => ((word_Number.f t144).bind fun t145 => (if t145 = x9_1 then (jacquardlaw01_WordNames.l0 k1 a0 a2 t141 (a1.extract 0 ((ji5) : Int).toNat) (wrap64 (x9_1 + 1))) else (some false)))) else (jacquardlaw01_WordNames.l0 k1 a0 a2 t141 (a1.extract 0 ((ji5) : Int).toNat) (wrap64 (x9_1 + 1)))) else (jacquardlaw01_WordNames.l0 k1 a0 a2 t141 (a1.extract 0 ((ji5) : Int).toNat) (wrap64 (x9_1 + 1)))) else (some false))) = some true := H
            have A10 := Aside0.mk A100
            clear A100
            replace H := Option.bind_eq_some_iff.mp H
            obtain ⟨t143, A110, H⟩ := H
            replace H : (if t142.toList = t143.toList then (if x9_1 > 0 then (if x9_1 < 19 then ((word_Name.f x9_1).bind fun t144 => ((word_Number.f t144).bind fun t145 => (if t145 = x9_1 then (jacquardlaw01_WordNames.l0 k1 a0 a2 t141 (a1.extract 0 ((ji5) : Int).toNat) (wrap64 (x9_1 + 1))) else (some false)))) else (jacquardlaw01_WordNames.l0 k1 a0 a2 t141 (a1.extract 0 ((ji5) : Int).toNat) (wrap64 (x9_1 + 1)))) else (jacquardlaw01_WordNames.l0 k1 a0 a2 t141 (a1.extract 0 ((ji5) : Int).toNat) (wrap64 (x9_1 + 1)))) else (some false)) = some true := H
            have A11 := Aside0.mk A110
            clear A110
            by_cases c12 : t142.toList = t143.toList
            · rw [if_pos c12] at H
              have c12b0 : (t142.toList == t143.toList) = true := beq_iff_eq.mpr c12
              have c12b1 : (t142.toList != t143.toList) = false := bne_eq_false_iff_eq.mpr c12
              clear c12
              by_cases c13 : x9_1 > 0
              · rw [if_pos c13] at H
                have c13b0 : decide (0 < x9_1) = true := decide_eq_true c13
                clear c13
                by_cases c14 : x9_1 < 19
                · rw [if_pos c14] at H
                  have c14b0 : decide (x9_1 < 19) = true := decide_eq_true c14
                  clear c14
                  replace H := Option.bind_eq_some_iff.mp H
                  obtain ⟨t144, A150, H⟩ := H
                  replace H : ((word_Number.f t144).bind fun t145 => (if t145 = x9_1 then (jacquardlaw01_WordNames.l0 k1 a0 a2 t141 (a1.extract 0 ((ji5) : Int).toNat) (wrap64 (x9_1 + 1))) else (some false))) = some true := H
                  have A15 := Aside0.mk A150
                  clear A150
                  replace H := Option.bind_eq_some_iff.mp H
                  obtain ⟨t145, A160, H⟩ := H
                  replace H : (if t145 = x9_1 then (jacquardlaw01_WordNames.l0 k1 a0 a2 t141 (a1.extract 0 ((ji5) : Int).toNat) (wrap64 (x9_1 + 1))) else (some false)) = some true := H
                  have A16 := Aside0.mk A160
                  clear A160
                  by_cases c17 : t145 = x9_1
                  · rw [if_pos c17] at H
                    have c17b0 : (t145 == x9_1) = true := beq_iff_eq.mpr c17
                    have c17b1 : (t145 != x9_1) = false := bne_eq_false_iff_eq.mpr c17
                    clear c17
                    have H' := Aside0.mk H
                    clear H
                    go_wp2_with (first | ((with_reducible refine gate_callee (f := 8) rfl ?_); refine goesL_ (some 25) rfl rfl Tryd.func8 (by kernel_rfl) rfl #[.int .i64 x9_1] rfl (by (try simp only [List.map_toArray, List.map_cons, List.map_nil]); first | done | rfl | (simp only [List.length_drop, List.length_take]; rfl)) ?_; (with_reducible refine (word_Name.calls x9_1 t142 _ ?_ A10.out).mono ?_); exact ⟨HG.out.below (by repeat (first | (with_reducible first | exact HB.out | apply below_alloc | apply pw_below_drewN | apply below_drew1) | exact HB.out))⟩; rintro e w18 ⟨rfl, hb⟩; refine ⟨_, rfl, ?_⟩; have n0_ := Aside0.mk (below_step (by repeat (first | (with_reducible first | exact HB.out | apply below_alloc | apply pw_below_drewN | apply below_drew1) | exact HB.out)) hb); clear HB; have HB := n0_; clear n0_; (try clear hb); (try clear hb2); (try clear hk); (try clear hi)) | ((with_reducible refine gate_callee (f := 9) rfl ?_); refine goesL_ (some 27) rfl rfl Tryd.func9 (by kernel_rfl) rfl #[.int .i64 x9_1] rfl (by (try simp only [List.map_toArray, List.map_cons, List.map_nil]); first | done | rfl | (simp only [List.length_drop, List.length_take]; rfl)) ?_; (with_reducible refine (jacquardref01_Name.calls x9_1 t143 _ A11.out).mono ?_); rintro e w19 ⟨rfl, hb⟩; refine ⟨_, rfl, ?_⟩; have n0_ := Aside0.mk (below_step (by repeat (first | (with_reducible first | exact HB.out | apply below_alloc | apply pw_below_drewN | apply below_drew1) | exact HB.out)) hb); clear HB; have HB := n0_; clear n0_; (try clear hb); (try clear hb2); (try clear hk); (try clear hi)) | (go_at_call 8; (with_reducible refine (word_Name.calls x9_1 t144 _ ?_ A15.out).mono ?_); exact ⟨HG.out.below (by repeat (first | (with_reducible first | exact HB.out | apply below_alloc | apply pw_below_drewN | apply below_drew1) | exact HB.out))⟩; rintro e w20 ⟨rfl, hb⟩; have n0_ := Aside0.mk (below_step (by repeat (first | (with_reducible first | exact HB.out | apply below_alloc | apply pw_below_drewN | apply below_drew1) | exact HB.out)) hb); clear HB; have HB := n0_; clear n0_; (try clear hb); (try clear hb2); (try clear hk); (try clear hi)) | (go_at_call 10; (with_reducible refine (word_Number.calls t144 t145 _ ?_ A16.out).mono ?_); exact ⟨HG.out.below (by repeat (first | (with_reducible first | exact HB.out | apply below_alloc | apply pw_below_drewN | apply below_drew1) | exact HB.out))⟩; rintro e w21 ⟨rfl, hb⟩; have n0_ := Aside0.mk (below_step (by repeat (first | (with_reducible first | exact HB.out | apply below_alloc | apply pw_below_drewN | apply below_drew1) | exact HB.out)) hb); clear HB; have HB := n0_; clear n0_; (try clear hb); (try clear hb2); (try clear hk); (try clear hi)))
                    go_roundg k1
                    case measure => have := HK1.out; omega
                    case rel => exact ⟨(wrap64 (x9_1 + 1)), (by first | rfl | (simp; done) | (simp [*]; done)), H', ⟨by have := HK1.out; omega⟩, ⟨by repeat (first | (with_reducible first | exact HB.out | apply below_alloc | apply pw_below_drewN | apply below_drew1) | exact HB.out)⟩⟩
                  · rw [if_neg c17] at H
                    cases H
                · rw [if_neg c14] at H
                  have c14b0 : decide (x9_1 < 19) = false := decide_eq_false c14
                  clear c14
                  have H' := Aside0.mk H
                  clear H
                  go_wp2_with (first | ((with_reducible refine gate_callee (f := 8) rfl ?_); refine goesL_ (some 25) rfl rfl Tryd.func8 (by kernel_rfl) rfl #[.int .i64 x9_1] rfl (by (try simp only [List.map_toArray, List.map_cons, List.map_nil]); first | done | rfl | (simp only [List.length_drop, List.length_take]; rfl)) ?_; (with_reducible refine (word_Name.calls x9_1 t142 _ ?_ A10.out).mono ?_); exact ⟨HG.out.below (by repeat (first | (with_reducible first | exact HB.out | apply below_alloc | apply pw_below_drewN | apply below_drew1) | exact HB.out))⟩; rintro e w26 ⟨rfl, hb⟩; refine ⟨_, rfl, ?_⟩; have n0_ := Aside0.mk (below_step (by repeat (first | (with_reducible first | exact HB.out | apply below_alloc | apply pw_below_drewN | apply below_drew1) | exact HB.out)) hb); clear HB; have HB := n0_; clear n0_; (try clear hb); (try clear hb2); (try clear hk); (try clear hi)) | ((with_reducible refine gate_callee (f := 9) rfl ?_); refine goesL_ (some 27) rfl rfl Tryd.func9 (by kernel_rfl) rfl #[.int .i64 x9_1] rfl (by (try simp only [List.map_toArray, List.map_cons, List.map_nil]); first | done | rfl | (simp only [List.length_drop, List.length_take]; rfl)) ?_; (with_reducible refine (jacquardref01_Name.calls x9_1 t143 _ A11.out).mono ?_); rintro e w27 ⟨rfl, hb⟩; refine ⟨_, rfl, ?_⟩; have n0_ := Aside0.mk (below_step (by repeat (first | (with_reducible first | exact HB.out | apply below_alloc | apply pw_below_drewN | apply below_drew1) | exact HB.out)) hb); clear HB; have HB := n0_; clear n0_; (try clear hb); (try clear hb2); (try clear hk); (try clear hi)))
                  go_roundg k1
                  case measure => have := HK1.out; omega
                  case rel => exact ⟨(wrap64 (x9_1 + 1)), (by first | rfl | (simp; done) | (simp [*]; done)), H', ⟨by have := HK1.out; omega⟩, ⟨by repeat (first | (with_reducible first | exact HB.out | apply below_alloc | apply pw_below_drewN | apply below_drew1) | exact HB.out)⟩⟩
              · rw [if_neg c13] at H
                have c13b0 : decide (0 < x9_1) = false := decide_eq_false c13
                clear c13
                have H' := Aside0.mk H
                clear H
                go_wp2_with (first | ((with_reducible refine gate_callee (f := 8) rfl ?_); refine goesL_ (some 25) rfl rfl Tryd.func8 (by kernel_rfl) rfl #[.int .i64 x9_1] rfl (by (try simp only [List.map_toArray, List.map_cons, List.map_nil]); first | done | rfl | (simp only [List.length_drop, List.length_take]; rfl)) ?_; (with_reducible refine (word_Name.calls x9_1 t142 _ ?_ A10.out).mono ?_); exact ⟨HG.out.below (by repeat (first | (with_reducible first | exact HB.out | apply below_alloc | apply pw_below_drewN | apply below_drew1) | exact HB.out))⟩; rintro e w28 ⟨rfl, hb⟩; refine ⟨_, rfl, ?_⟩; have n0_ := Aside0.mk (below_step (by repeat (first | (with_reducible first | exact HB.out | apply below_alloc | apply pw_below_drewN | apply below_drew1) | exact HB.out)) hb); clear HB; have HB := n0_; clear n0_; (try clear hb); (try clear hb2); (try clear hk); (try clear hi)) | ((with_reducible refine gate_callee (f := 9) rfl ?_); refine goesL_ (some 27) rfl rfl Tryd.func9 (by kernel_rfl) rfl #[.int .i64 x9_1] rfl (by (try simp only [List.map_toArray, List.map_cons, List.map_nil]); first | done | rfl | (simp only [List.length_drop, List.length_take]; rfl)) ?_; (with_reducible refine (jacquardref01_Name.calls x9_1 t143 _ A11.out).mono ?_); rintro e w29 ⟨rfl, hb⟩; refine ⟨_, rfl, ?_⟩; have n0_ := Aside0.mk (below_step (by repeat (first | (with_reducible first | exact HB.out | apply below_alloc | apply pw_below_drewN | apply below_drew1) | exact HB.out)) hb); clear HB; have HB := n0_; clear n0_; (try clear hb); (try clear hb2); (try clear hk); (try clear hi)))
                go_roundg k1
                case measure => have := HK1.out; omega
                case rel => exact ⟨(wrap64 (x9_1 + 1)), (by first | rfl | (simp; done) | (simp [*]; done)), H', ⟨by have := HK1.out; omega⟩, ⟨by repeat (first | (with_reducible first | exact HB.out | apply below_alloc | apply pw_below_drewN | apply below_drew1) | exact HB.out)⟩⟩
            · rw [if_neg c12] at H
              cases H
          · rw [if_neg c9] at H
            have c9b0 : decide (x9_1 < 20) = false := decide_eq_false c9
            clear c9
            replace H := Option.bind_eq_some_iff.mp H
            obtain ⟨⟨t146, t147⟩, A320, H⟩ := H
            replace H : ((jacquardref01_Parse.f k1 (a1.extract 0 ((ji5) : Int).toNat)).bind fun bt148 => (if t141 = true then ((word_Name.f a0).bind fun t150 => ((jacquardref01_Name.f a0).bind fun t151 => (if t150.toList = t151.toList then ((word_Number.f (a1.extract 0 ((ji5) : Int).toNat)).bind fun t152 => ((jacquardref01_Number.f k1 (a1.extract 0 ((ji5) : Int).toNat)).bind fun t153 => (if t152 = t153 then ((word_Text.f a2).bind fun t154 => ((jacquardref01_Text.f k1 a2).bind fun t155 => (if t154.toList = t155.toList then (if t146 = bt148.1 then (some (t147 == bt148.2)) else (some false)) else (some false)))) else (some false)))) else (some false)))) else (some false))) = some true := H
            have A32 := Aside0.mk A320
            clear A320
            replace H := Option.bind_eq_some_iff.mp H
            obtain ⟨⟨t148, t149⟩, A330, H⟩ := H
            replace H : (if t141 = true then ((word_Name.f a0).bind fun t150 => ((jacquardref01_Name.f a0).bind fun t151 => (if t150.toList = t151.toList then ((word_Number.f (a1.extract 0 ((ji5) : Int).toNat)).bind fun t152 => ((jacquardref01_Number.f k1 (a1.extract 0 ((ji5) : Int).toNat)).bind fun t153 => (if t152 = t153 then ((word_Text.f a2).bind fun t154 => ((jacquardref01_Text.f k1 a2).bind fun t155 => (if t154.toList = t155.toList then (if t146 = t148 then (some (t147 == t149)) else (some false)) else (some false)))) else (some false)))) else (some false)))) else (some false)) = some true := H
            have A33 := Aside0.mk A330
            clear A330
            by_cases c34 : t141 = true
            · subst c34
              have H1 : ((word_Name.f a0).bind fun t150 => ((jacquardref01_Name.f a0).bind fun t151 => (if t150.toList = t151.toList then ((word_Number.f (a1.extract 0 ((ji5) : Int).toNat)).bind fun t152 => ((jacquardref01_Number.f k1 (a1.extract 0 ((ji5) : Int).toNat)).bind fun t153 => (if t152 = t153 then ((word_Text.f a2).bind fun t154 => ((jacquardref01_Text.f k1 a2).bind fun t155 => (if t154.toList = t155.toList then (if t146 = t148 then (some (t147 == t149)) else (some false)) else (some false)))) else (some false)))) else (some false)))) = some true := by rw [if_pos rfl] at H; first | done | exact H
              clear H
              have H := H1
              clear H1
              replace H := Option.bind_eq_some_iff.mp H
              obtain ⟨t150, A350, H⟩ := H
              replace H : ((jacquardref01_Name.f a0).bind fun t151 => (if t150.toList = t151.toList then ((word_Number.f (a1.extract 0 ((ji5) : Int).toNat)).bind fun t152 => ((jacquardref01_Number.f k1 (a1.extract 0 ((ji5) : Int).toNat)).bind fun t153 => (if t152 = t153 then ((word_Text.f a2).bind fun t154 => ((jacquardref01_Text.f k1 a2).bind fun t155 => (if t154.toList = t155.toList then (if t146 = t148 then (some (t147 == t149)) else (some false)) else (some false)))) else (some false)))) else (some false))) = some true := H
              have A35 := Aside0.mk A350
              clear A350
              replace H := Option.bind_eq_some_iff.mp H
              obtain ⟨t151, A360, H⟩ := H
              replace H : (if t150.toList = t151.toList then ((word_Number.f (a1.extract 0 ((ji5) : Int).toNat)).bind fun t152 => ((jacquardref01_Number.f k1 (a1.extract 0 ((ji5) : Int).toNat)).bind fun t153 => (if t152 = t153 then ((word_Text.f a2).bind fun t154 => ((jacquardref01_Text.f k1 a2).bind fun t155 => (if t154.toList = t155.toList then (if t146 = t148 then (some (t147 == t149)) else (some false)) else (some false)))) else (some false)))) else (some false)) = some true := H
              have A36 := Aside0.mk A360
              clear A360
              by_cases c37 : t150.toList = t151.toList
              · rw [if_pos c37] at H
                have c37b0 : (t150.toList == t151.toList) = true := beq_iff_eq.mpr c37
                have c37b1 : (t150.toList != t151.toList) = false := bne_eq_false_iff_eq.mpr c37
                clear c37
                replace H := Option.bind_eq_some_iff.mp H
                obtain ⟨t152, A380, H⟩ := H
                replace H : ((jacquardref01_Number.f k1 (a1.extract 0 ((ji5) : Int).toNat)).bind fun t153 => (if t152 = t153 then ((word_Text.f a2).bind fun t154 => ((jacquardref01_Text.f k1 a2).bind fun t155 => (if t154.toList = t155.toList then (if t146 = t148 then (some (t147 == t149)) else (some false)) else (some false)))) else (some false))) = some true := H
                have A38 := Aside0.mk A380
                clear A380
                replace H := Option.bind_eq_some_iff.mp H
                obtain ⟨t153, A390, H⟩ := H
                replace H : (if t152 = t153 then ((word_Text.f a2).bind fun t154 => ((jacquardref01_Text.f k1 a2).bind fun t155 => (if t154.toList = t155.toList then (if t146 = t148 then (some (t147 == t149)) else (some false)) else (some false)))) else (some false)) = some true := H
                have A39 := Aside0.mk A390
                clear A390
                by_cases c40 : t152 = t153
                · rw [if_pos c40] at H
                  have c40b0 : (t152 == t153) = true := beq_iff_eq.mpr c40
                  have c40b1 : (t152 != t153) = false := bne_eq_false_iff_eq.mpr c40
                  clear c40
                  replace H := Option.bind_eq_some_iff.mp H
                  obtain ⟨t154, A410, H⟩ := H
                  replace H : ((jacquardref01_Text.f k1 a2).bind fun t155 => (if t154.toList = t155.toList then (if t146 = t148 then (some (t147 == t149)) else (some false)) else (some false))) = some true := H
                  have A41 := Aside0.mk A410
                  clear A410
                  replace H := Option.bind_eq_some_iff.mp H
                  obtain ⟨t155, A420, H⟩ := H
                  replace H : (if t154.toList = t155.toList then (if t146 = t148 then (some (t147 == t149)) else (some false)) else (some false)) = some true := H
                  have A42 := Aside0.mk A420
                  clear A420
                  by_cases c43 : t154.toList = t155.toList
                  · rw [if_pos c43] at H
                    have c43b0 : (t154.toList == t155.toList) = true := beq_iff_eq.mpr c43
                    have c43b1 : (t154.toList != t155.toList) = false := bne_eq_false_iff_eq.mpr c43
                    clear c43
                    by_cases c44 : t146 = t148
                    · rw [if_pos c44] at H
                      have c44b0 : (t146 == t148) = true := beq_iff_eq.mpr c44
                      have c44b1 : (t146 != t148) = false := bne_eq_false_iff_eq.mpr c44
                      clear c44
                      first
                        | (cases H; done)
                        | (have HR_ := Option.some.inj H
                           go_wp2_with (first | ((with_reducible refine gate_callee (f := 6) rfl ?_); refine goesL_ (some 46) rfl rfl Tryd.func6 (by kernel_rfl) rfl #[.string (a1.extract 0 ((ji5) : Int).toNat)] rfl (by (try simp only [List.map_toArray, List.map_cons, List.map_nil]); first | done | (simp only [hji5]; rfl) | rfl | (simp only [List.length_drop, List.length_take]; rfl)) ?_; (with_reducible refine (word_Parse.calls (a1.extract 0 ((ji5) : Int).toNat) t146 t147 _ ?_ A32.out).mono ?_); exact ⟨HG.out.t.below (by repeat (first | (with_reducible first | exact HB.out | apply below_alloc | apply pw_below_drewN | apply below_drew1) | exact HB.out))⟩; rintro e w45 ⟨rfl, hb⟩; refine ⟨_, rfl, ?_⟩; have n0_ := Aside0.mk (below_step (by repeat (first | (with_reducible first | exact HB.out | apply below_alloc | apply pw_below_drewN | apply below_drew1) | exact HB.out)) hb); clear HB; have HB := n0_; clear n0_; (try clear hb); (try clear hb2); (try clear hk); (try clear hi)) | ((with_reducible refine gate_callee (f := 11) rfl ?_); refine goesL_ (some 51) rfl rfl Tryd.func11 (by kernel_rfl) rfl #[.string (a1.extract 0 ((ji5) : Int).toNat)] rfl (by (try simp only [List.map_toArray, List.map_cons, List.map_nil]); first | done | (simp only [hji5]; rfl) | rfl | (simp only [List.length_drop, List.length_take]; rfl)) ?_; (with_reducible refine (jacquardref01_Parse.calls k1 (a1.extract 0 ((ji5) : Int).toNat) t148 t149 _ A33.out).mono ?_); rintro e w' ⟨rfl, ⟨nd, rfl⟩⟩; refine ⟨_, rfl, ?_⟩) | (go_at_call 8; (with_reducible refine (word_Name.calls a0 t150 _ ?_ A35.out).mono ?_); exact ⟨HG.out.below (by repeat (first | (with_reducible first | exact HB.out | apply below_alloc | apply pw_below_drewN | apply below_drew1) | exact HB.out))⟩; rintro e w46 ⟨rfl, hb⟩; have n0_ := Aside0.mk (below_step (by repeat (first | (with_reducible first | exact HB.out | apply below_alloc | apply pw_below_drewN | apply below_drew1) | exact HB.out)) hb); clear HB; have HB := n0_; clear n0_; (try clear hb); (try clear hb2); (try clear hk); (try clear hi)) | (go_at_call 9; (with_reducible refine (jacquardref01_Name.calls a0 t151 _ A36.out).mono ?_); rintro e w47 ⟨rfl, hb⟩; have n0_ := Aside0.mk (below_step (by repeat (first | (with_reducible first | exact HB.out | apply below_alloc | apply pw_below_drewN | apply below_drew1) | exact HB.out)) hb); clear HB; have HB := n0_; clear n0_; (try clear hb); (try clear hb2); (try clear hk); (try clear hi)) | (go_at_call 10; (with_reducible refine (word_Number.calls (a1.extract 0 ((ji5) : Int).toNat) t152 _ ?_ A38.out).mono ?_); exact ⟨HG.out.below (by repeat (first | (with_reducible first | exact HB.out | apply below_alloc | apply pw_below_drewN | apply below_drew1) | exact HB.out))⟩; rintro e w48 ⟨rfl, hb⟩; have n0_ := Aside0.mk (below_step (by repeat (first | (with_reducible first | exact HB.out | apply below_alloc | apply pw_below_drewN | apply below_drew1) | exact HB.out)) hb); clear HB; have HB := n0_; clear n0_; (try clear hb); (try clear hb2); (try clear hk); (try clear hi)) | (go_at_call 12; (with_reducible refine (jacquardref01_Number.calls k1 (a1.extract 0 ((ji5) : Int).toNat) t153 _ A39.out).mono ?_); rintro e w49 ⟨rfl, hb⟩; have n0_ := Aside0.mk (below_step (by repeat (first | (with_reducible first | exact HB.out | apply below_alloc | apply pw_below_drewN | apply below_drew1) | exact HB.out)) hb); clear HB; have HB := n0_; clear n0_; (try clear hb); (try clear hb2); (try clear hk); (try clear hi)) | (go_at_call 7; (with_reducible refine (word_Text.calls a2 t154 _ ?_ A41.out).mono ?_); exact ⟨HG.out.t.below (by repeat (first | (with_reducible first | exact HB.out | apply below_alloc | apply pw_below_drewN | apply below_drew1) | exact HB.out))⟩; rintro e w50 ⟨rfl, hb⟩; have n0_ := Aside0.mk (below_step (by repeat (first | (with_reducible first | exact HB.out | apply below_alloc | apply pw_below_drewN | apply below_drew1) | exact HB.out)) hb); clear HB; have HB := n0_; clear n0_; (try clear hb); (try clear hb2); (try clear hk); (try clear hi)) | (go_at_call 13; (with_reducible refine (jacquardref01_Text.calls k1 a2 t155 _ A42.out).mono ?_); rintro e w' ⟨rfl, ⟨nd, rfl⟩⟩))
                           go_ret
                           exact ⟨by first | rfl | (simp [errW_none, errW_some] <;> rfl) | (simp only [← hji5]; first | rfl | (simp [errW_none, errW_some] <;> rfl)) | (simp [*, errW_none, errW_some] <;> rfl), by repeat (first | (with_reducible first | exact HB.out | apply below_alloc | apply pw_below_drewN | apply below_drew1) | exact HB.out)⟩)
                    · rw [if_neg c44] at H
                      cases H
                  · rw [if_neg c43] at H
                    cases H
                · rw [if_neg c40] at H
                  cases H
              · rw [if_neg c37] at H
                cases H
            · replace c34 := Bool.eq_false_iff.mpr c34
              subst c34
              have H1 : (some false) = some true := by rw [if_neg (show ¬ (false = true) by decide)] at H; first | done | exact H
              clear H
              have H := H1
              clear H1
              cases H
    · rw [if_neg c7] at H
      exact absurd H (by simp)
  · rw [if_neg c6] at H
    exact absurd H (by simp)

/-- THE ONE PURE STATEMENT of jacquardlaw01_WordNames: yours. -/
def jacquardlaw01_WordNames.Pure : Prop := ∀ (a0 : Int) (a1 : ByteArray) (a2 : Int), (Lit.int .i64 a0).wf = true → a1.size ≤ 140737488351232 → (Lit.int .i32 a2).wf = true → ∃ k, jacquardlaw01_WordNames.f k a0 a1 a2 = some true
theorem jacquardlaw01_WordNames.walk (P : jacquardlaw01_WordNames.Pure) (a0 : Int) (a1 : ByteArray) (a2 : Int) (w : World) (HG : Aside0 (Laid w)) (w0 : (Lit.int .i64 a0).wf = true) (w1 : a1.size ≤ 140737488351232) (w2 : (Lit.int .i32 a2).wf = true) :
    Calls Tryd.prog 4 #[.int .i64 a0, .string a1, .int .i32 a2] w fun e w' => e = .returned (.bool true) ∧ Below w.heap.size w w' := by
  obtain ⟨k, h⟩ := P a0 a1 a2 w0 w1 w2
  refine (jacquardlaw01_WordNames.calls k a0 a1 a2 w HG h).mono ?_
  rintro e w' ⟨rfl, hd⟩
  exact ⟨rfl, hd⟩

end Go.Proofs.YtfiajahppimchaaDoor.Pr
