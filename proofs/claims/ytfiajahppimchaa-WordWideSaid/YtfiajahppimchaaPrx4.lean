-- By this session's driver (wip/myprint.py) out of the translation; Lean checks it.
import Derived.Test.YtfiajahppimchaaPrx0
import Derived.Test.YtfiajahppimchaaPrx1
namespace Go.Proofs.Ytfiajahppimchaa.Pr
open Go.Proofs.Ytfiajahppimchaa.Do
open Go.RowKit Go.Proofs.YtfiajahppimchaaW.PrintWords Go.Proofs.YtfiajahppimchaaW.PrintLast Go.Proofs.YtfiajahppimchaaW.PrintMore
attribute [local go_sem] max2_int min2_int max_two min_two max_three min_three max_four min_four   -- for this text's walks alone
set_option linter.unusedVariables false
set_option linter.unusedSimpArgs false

/-! ### jacquardlaw01_WordDivides: function 8 -/
def jacquardlaw01_WordDivides.j0 : Nat → Int → Int → Bool → Int → Bool → Int → Int → Bool → Option (Bool)
  | 0, _, _, _, _, _, _, _, _ => none
  | k + 1, x0, x1, x5, x6, x7, x8, x9, x47 => if x47 = true then (if x5 = true then (if x7 = true then (some (x6 == x0)) else (some false)) else (some false)) else (if (wrap64 (x1)) < 0 then (if x5 = true then (if x7 = true then (if x9 < (wrap64 (-(wrap64 (x1)))) then (if (wrap64 (-x9)) < (wrap64 (-(wrap64 (x1)))) then (if x9 = 0 then (if x8 = (-2147483648) then ((jacquardlaw01_does.f 14 x0 1).bind fun t200 => (some (t200 == x0))) else (some false)) else (if ((decide (x9 < 0)) == (decide (x0 < 0))) = true then (if x8 = (-2147483648) then ((jacquardlaw01_does.f 14 x0 1).bind fun t201 => (some (t201 == x0))) else (some false)) else (some false))) else (some false)) else (some false)) else (some false)) else (some false)) else (if x5 = true then (if x7 = true then (if x9 < (wrap64 (x1)) then (if (wrap64 (-x9)) < (wrap64 (x1)) then (if x9 = 0 then (if x8 = (-2147483648) then ((jacquardlaw01_does.f 14 x0 1).bind fun t202 => (some (t202 == x0))) else (some false)) else (if ((decide (x9 < 0)) == (decide (x0 < 0))) = true then (if x8 = (-2147483648) then ((jacquardlaw01_does.f 14 x0 1).bind fun t203 => (some (t203 == x0))) else (some false)) else (some false))) else (some false)) else (some false)) else (some false)) else (some false)))
def jacquardlaw01_WordDivides.f (k : Nat) (a0 : Int) (a1 : Int) : Option (Bool) := (jacquardlaw01_shown.f).bind fun t196 => ((word_Do.f 14 a0 a1).bind fun bt197 => ((jacquardlaw01_does.f 14 (-2147483648) (-1)).bind fun t199 => (if a1 = 0 then (if t196 = true then (if bt197.2 = true then (some false) else (if bt197.1 = 0 then (some (t199 == (-2147483648))) else (some false))) else (some false)) else (if a0 = (-2147483648) then (jacquardlaw01_WordDivides.j0 k a0 a1 t196 bt197.1 bt197.2 t199 (wrap64 ((wrap64 (a0)) - (wrap64 ((wrap64 (a1)) * (wrap64 (bt197.1)))))) (a1 == (-1))) else (jacquardlaw01_WordDivides.j0 k a0 a1 t196 bt197.1 bt197.2 t199 (wrap64 ((wrap64 (a0)) - (wrap64 ((wrap64 (a1)) * (wrap64 (bt197.1)))))) false)))))
theorem jacquardlaw01_WordDivides.mono_l : ∀ k, (∀ y0 y1 y2 y3 y4 y5 y6 y7, LeO (jacquardlaw01_WordDivides.j0 k y0 y1 y2 y3 y4 y5 y6 y7) (jacquardlaw01_WordDivides.j0 (k + 1) y0 y1 y2 y3 y4 y5 y6 y7))
  | 0 => fun _ _ _ _ _ _ _ _ r h => by simp [jacquardlaw01_WordDivides.j0] at h
  | k + 1 => by
    have ih0 := jacquardlaw01_WordDivides.mono_l k
    · intro y0 y1 y2 y3 y4 y5 y6 y7
      unfold jacquardlaw01_WordDivides.j0
      repeat' first
      | (with_reducible exact ih0 _ _ _ _ _ _ _ _)
      | (with_reducible exact LeO.refl _)
      | (with_reducible exact LeO.none _)
      | (with_reducible refine LeO.ite ?_ ?_)
      | (with_reducible refine LeO.bind ?_ (fun _ => ?_))
      | exact ih0 _ _ _ _ _ _ _ _
      | exact LeO.none _
      | refine LeO.ite ?_ ?_
      | refine LeO.bind ?_ (fun _ => ?_)
theorem jacquardlaw01_WordDivides.mono : ∀ a0 a1 k, LeO (jacquardlaw01_WordDivides.f k a0 a1) (jacquardlaw01_WordDivides.f (k + 1) a0 a1) := by
  intro a0 a1 k
  have ih0 := jacquardlaw01_WordDivides.mono_l k
  unfold jacquardlaw01_WordDivides.f
  repeat' first
      | (with_reducible exact ih0 _ _ _ _ _ _ _ _)
      | (with_reducible exact LeO.refl _)
      | (with_reducible exact LeO.none _)
      | (with_reducible refine LeO.ite ?_ ?_)
      | (with_reducible refine LeO.bind ?_ (fun _ => ?_))
      | exact ih0 _ _ _ _ _ _ _ _
      | exact LeO.none _
      | refine LeO.ite ?_ ?_
      | refine LeO.bind ?_ (fun _ => ?_)
set_option maxHeartbeats 8000000 in
set_option maxRecDepth 100000 in
theorem jacquardlaw01_WordDivides.calls (k : Nat) (a0 : Int) (a1 : Int) (r : Bool) (w : World) (h : jacquardlaw01_WordDivides.f k a0 a1 = some r) :
    Calls Try.prog 8 #[.int .i32 a0, .int .i32 a1] w fun e w' => e = .returned (.bool r) ∧ Below w.heap.size w w' := by
  have HB := Aside0.mk (Below.refl w.heap.size w)
  have H : ((jacquardlaw01_shown.f).bind fun t196 => ((word_Do.f 14 a0 a1).bind fun bt197 => ((jacquardlaw01_does.f 14 (-2147483648) (-1)).bind fun t199 => (if a1 = 0 then (if t196 = true then (if bt197.2 = true then (some false) else (if bt197.1 = 0 then (some (t199 == (-2147483648))) else (some false))) else (some false)) else (if a0 = (-2147483648) then (jacquardlaw01_WordDivides.j0 k a0 a1 t196 bt197.1 bt197.2 t199 (wrap64 ((wrap64 (a0)) - (wrap64 ((wrap64 (a1)) * (wrap64 (bt197.1)))))) (a1 == (-1))) else (jacquardlaw01_WordDivides.j0 k a0 a1 t196 bt197.1 bt197.2 t199 (wrap64 ((wrap64 (a0)) - (wrap64 ((wrap64 (a1)) * (wrap64 (bt197.1)))))) false)))))) = some r := h
  clear h
  replace H := Option.bind_eq_some_iff.mp H
  obtain ⟨t196, A30, H⟩ := H
  replace H : ((word_Do.f 14 a0 a1).bind fun bt197 => ((jacquardlaw01_does.f 14 (-2147483648) (-1)).bind fun t199 => (if a1 = 0 then (if t196 = true then (if bt197.2 = true then (some false) else (if bt197.1 = 0 then (some (t199 == (-2147483648))) else (some false))) else (some false)) else (if a0 = (-2147483648) then (jacquardlaw01_WordDivides.j0 k a0 a1 t196 bt197.1 bt197.2 t199 (wrap64 ((wrap64 (a0)) - (wrap64 ((wrap64 (a1)) * (wrap64 (bt197.1)))))) (a1 == (-1))) else (jacquardlaw01_WordDivides.j0 k a0 a1 t196 bt197.1 bt197.2 t199 (wrap64 ((wrap64 (a0)) - (wrap64 ((wrap64 (a1)) * (wrap64 (bt197.1)))))) false))))) = some r := H
  have A3 := Aside0.mk A30
  clear A30
  replace H := Option.bind_eq_some_iff.mp H
  obtain ⟨⟨t197, t198⟩, A40, H⟩ := H
  replace H : ((jacquardlaw01_does.f 14 (-2147483648) (-1)).bind fun t199 => (if a1 = 0 then (if t196 = true then (if t198 = true then (some false) else (if t197 = 0 then (some (t199 == (-2147483648))) else (some false))) else (some false)) else (if a0 = (-2147483648) then (jacquardlaw01_WordDivides.j0 k a0 a1 t196 t197 t198 t199 (wrap64 ((wrap64 (a0)) - (wrap64 ((wrap64 (a1)) * (wrap64 (t197)))))) (a1 == (-1))) else (jacquardlaw01_WordDivides.j0 k a0 a1 t196 t197 t198 t199 (wrap64 ((wrap64 (a0)) - (wrap64 ((wrap64 (a1)) * (wrap64 (t197)))))) false)))) = some r := H
  have A4 := Aside0.mk A40
  clear A40
  replace H := Option.bind_eq_some_iff.mp H
  obtain ⟨t199, A50, H⟩ := H
  replace H : (if a1 = 0 then (if t196 = true then (if t198 = true then (some false) else (if t197 = 0 then (some (t199 == (-2147483648))) else (some false))) else (some false)) else (if a0 = (-2147483648) then (jacquardlaw01_WordDivides.j0 k a0 a1 t196 t197 t198 t199 (wrap64 ((wrap64 (a0)) - (wrap64 ((wrap64 (a1)) * (wrap64 (t197)))))) (a1 == (-1))) else (jacquardlaw01_WordDivides.j0 k a0 a1 t196 t197 t198 t199 (wrap64 ((wrap64 (a0)) - (wrap64 ((wrap64 (a1)) * (wrap64 (t197)))))) false))) = some r := H
  have A5 := Aside0.mk A50
  clear A50
  by_cases c6 : a1 = 0
  · rw [if_pos c6] at H
    have c6b0 : (a1 == 0) = true := beq_iff_eq.mpr c6
    have c6b1 : (a1 != 0) = false := bne_eq_false_iff_eq.mpr c6
    clear c6
    by_cases c7 : t196 = true
    · subst c7
      have H1 : (if t198 = true then (some false) else (if t197 = 0 then (some (t199 == (-2147483648))) else (some false))) = some r := by rw [if_pos rfl] at H; exact H
      clear H
      have H := H1
      clear H1
      by_cases c8 : t198 = true
      · subst c8
        have H1 : (some false) = some r := by rw [if_pos rfl] at H; exact H
        clear H
        have H := H1
        clear H1
        obtain rfl := Option.some.inj H
        go_enter Try.func8, Try.ntmps8
        go_wp2_with (first | ((with_reducible refine gate_callee (f := 11) rfl ?_); refine goesL_ (some 11) rfl rfl Try.func11 (by kernel_rfl) rfl #[] rfl (by (try simp only [List.map_toArray, List.map_cons, List.map_nil]); first | done | rfl | (simp only [List.length_drop, List.length_take]; rfl)) ?_; (with_reducible refine (jacquardlaw01_shown.calls  true _ A3.out).mono ?_); rintro e w9 ⟨rfl, hb⟩; refine ⟨_, rfl, ?_⟩; have n0_ := Aside0.mk (below_step (by repeat (first | (with_reducible first | exact HB.out | apply below_alloc | apply pw_below_drewN | apply below_drew1) | exact HB.out)) hb); clear HB; have HB := n0_; clear n0_; (try clear hb); (try clear hb2); (try clear hk); (try clear hi)) | ((with_reducible refine gate_callee (f := 12) rfl ?_); refine goesL_ (some 15) rfl rfl Try.func12 (by kernel_rfl) rfl #[.int .i64 14, .int .i32 a0, .int .i32 a1] rfl (by (try simp only [List.map_toArray, List.map_cons, List.map_nil]); first | done | rfl | (simp only [List.length_drop, List.length_take]; rfl)) ?_; (with_reducible refine (word_Do.calls 14 a0 a1 t197 true _ A4.out).mono ?_); rintro e w10 ⟨rfl, hb⟩; refine ⟨_, rfl, ?_⟩; have n0_ := Aside0.mk (below_step (by repeat (first | (with_reducible first | exact HB.out | apply below_alloc | apply pw_below_drewN | apply below_drew1) | exact HB.out)) hb); clear HB; have HB := n0_; clear n0_; (try clear hb); (try clear hb2); (try clear hk); (try clear hi)) | ((with_reducible refine gate_callee (f := 16) rfl ?_); refine goesL_ (some 18) rfl rfl Try.func16 (by kernel_rfl) rfl #[.int .i64 14, .int .i32 (-2147483648), .int .i32 (-1)] rfl (by (try simp only [List.map_toArray, List.map_cons, List.map_nil]); first | done | rfl | (simp only [List.length_drop, List.length_take]; rfl)) ?_; (with_reducible refine (jacquardlaw01_does.calls 14 (-2147483648) (-1) t199 _ A5.out).mono ?_); rintro e w11 ⟨rfl, hb⟩; refine ⟨_, rfl, ?_⟩; have n0_ := Aside0.mk (below_step (by repeat (first | (with_reducible first | exact HB.out | apply below_alloc | apply pw_below_drewN | apply below_drew1) | exact HB.out)) hb); clear HB; have HB := n0_; clear n0_; (try clear hb); (try clear hb2); (try clear hk); (try clear hi)))
        go_ret
        exact ⟨by first | rfl | (simp [errW_none, errW_some] <;> rfl) | (simp [*, errW_none, errW_some] <;> rfl), by repeat (first | (with_reducible first | exact HB.out | apply below_alloc | apply pw_below_drewN | apply below_drew1) | exact HB.out)⟩
      · replace c8 := Bool.eq_false_iff.mpr c8
        subst c8
        have H1 : (if t197 = 0 then (some (t199 == (-2147483648))) else (some false)) = some r := by rw [if_neg (show ¬ (false = true) by decide)] at H; exact H
        clear H
        have H := H1
        clear H1
        by_cases c12 : t197 = 0
        · rw [if_pos c12] at H
          have c12b0 : (t197 == 0) = true := beq_iff_eq.mpr c12
          have c12b1 : (t197 != 0) = false := bne_eq_false_iff_eq.mpr c12
          clear c12
          obtain rfl := Option.some.inj H
          go_enter Try.func8, Try.ntmps8
          go_wp2_with (first | ((with_reducible refine gate_callee (f := 11) rfl ?_); refine goesL_ (some 11) rfl rfl Try.func11 (by kernel_rfl) rfl #[] rfl (by (try simp only [List.map_toArray, List.map_cons, List.map_nil]); first | done | rfl | (simp only [List.length_drop, List.length_take]; rfl)) ?_; (with_reducible refine (jacquardlaw01_shown.calls  true _ A3.out).mono ?_); rintro e w13 ⟨rfl, hb⟩; refine ⟨_, rfl, ?_⟩; have n0_ := Aside0.mk (below_step (by repeat (first | (with_reducible first | exact HB.out | apply below_alloc | apply pw_below_drewN | apply below_drew1) | exact HB.out)) hb); clear HB; have HB := n0_; clear n0_; (try clear hb); (try clear hb2); (try clear hk); (try clear hi)) | ((with_reducible refine gate_callee (f := 12) rfl ?_); refine goesL_ (some 15) rfl rfl Try.func12 (by kernel_rfl) rfl #[.int .i64 14, .int .i32 a0, .int .i32 a1] rfl (by (try simp only [List.map_toArray, List.map_cons, List.map_nil]); first | done | rfl | (simp only [List.length_drop, List.length_take]; rfl)) ?_; (with_reducible refine (word_Do.calls 14 a0 a1 t197 false _ A4.out).mono ?_); rintro e w14 ⟨rfl, hb⟩; refine ⟨_, rfl, ?_⟩; have n0_ := Aside0.mk (below_step (by repeat (first | (with_reducible first | exact HB.out | apply below_alloc | apply pw_below_drewN | apply below_drew1) | exact HB.out)) hb); clear HB; have HB := n0_; clear n0_; (try clear hb); (try clear hb2); (try clear hk); (try clear hi)) | ((with_reducible refine gate_callee (f := 16) rfl ?_); refine goesL_ (some 18) rfl rfl Try.func16 (by kernel_rfl) rfl #[.int .i64 14, .int .i32 (-2147483648), .int .i32 (-1)] rfl (by (try simp only [List.map_toArray, List.map_cons, List.map_nil]); first | done | rfl | (simp only [List.length_drop, List.length_take]; rfl)) ?_; (with_reducible refine (jacquardlaw01_does.calls 14 (-2147483648) (-1) t199 _ A5.out).mono ?_); rintro e w15 ⟨rfl, hb⟩; refine ⟨_, rfl, ?_⟩; have n0_ := Aside0.mk (below_step (by repeat (first | (with_reducible first | exact HB.out | apply below_alloc | apply pw_below_drewN | apply below_drew1) | exact HB.out)) hb); clear HB; have HB := n0_; clear n0_; (try clear hb); (try clear hb2); (try clear hk); (try clear hi)))
          go_ret
          exact ⟨by first | rfl | (simp [errW_none, errW_some] <;> rfl) | (simp [*, errW_none, errW_some] <;> rfl), by repeat (first | (with_reducible first | exact HB.out | apply below_alloc | apply pw_below_drewN | apply below_drew1) | exact HB.out)⟩
        · rw [if_neg c12] at H
          have c12b0 : (t197 == 0) = false := beq_eq_false_iff_ne.mpr c12
          have c12b1 : (t197 != 0) = true := bne_iff_ne.mpr c12
          obtain rfl := Option.some.inj H
          go_enter Try.func8, Try.ntmps8
          go_wp2_with (first | ((with_reducible refine gate_callee (f := 11) rfl ?_); refine goesL_ (some 11) rfl rfl Try.func11 (by kernel_rfl) rfl #[] rfl (by (try simp only [List.map_toArray, List.map_cons, List.map_nil]); first | done | rfl | (simp only [List.length_drop, List.length_take]; rfl)) ?_; (with_reducible refine (jacquardlaw01_shown.calls  true _ A3.out).mono ?_); rintro e w16 ⟨rfl, hb⟩; refine ⟨_, rfl, ?_⟩; have n0_ := Aside0.mk (below_step (by repeat (first | (with_reducible first | exact HB.out | apply below_alloc | apply pw_below_drewN | apply below_drew1) | exact HB.out)) hb); clear HB; have HB := n0_; clear n0_; (try clear hb); (try clear hb2); (try clear hk); (try clear hi)) | ((with_reducible refine gate_callee (f := 12) rfl ?_); refine goesL_ (some 15) rfl rfl Try.func12 (by kernel_rfl) rfl #[.int .i64 14, .int .i32 a0, .int .i32 a1] rfl (by (try simp only [List.map_toArray, List.map_cons, List.map_nil]); first | done | rfl | (simp only [List.length_drop, List.length_take]; rfl)) ?_; (with_reducible refine (word_Do.calls 14 a0 a1 t197 false _ A4.out).mono ?_); rintro e w17 ⟨rfl, hb⟩; refine ⟨_, rfl, ?_⟩; have n0_ := Aside0.mk (below_step (by repeat (first | (with_reducible first | exact HB.out | apply below_alloc | apply pw_below_drewN | apply below_drew1) | exact HB.out)) hb); clear HB; have HB := n0_; clear n0_; (try clear hb); (try clear hb2); (try clear hk); (try clear hi)) | ((with_reducible refine gate_callee (f := 16) rfl ?_); refine goesL_ (some 18) rfl rfl Try.func16 (by kernel_rfl) rfl #[.int .i64 14, .int .i32 (-2147483648), .int .i32 (-1)] rfl (by (try simp only [List.map_toArray, List.map_cons, List.map_nil]); first | done | rfl | (simp only [List.length_drop, List.length_take]; rfl)) ?_; (with_reducible refine (jacquardlaw01_does.calls 14 (-2147483648) (-1) t199 _ A5.out).mono ?_); rintro e w18 ⟨rfl, hb⟩; refine ⟨_, rfl, ?_⟩; have n0_ := Aside0.mk (below_step (by repeat (first | (with_reducible first | exact HB.out | apply below_alloc | apply pw_below_drewN | apply below_drew1) | exact HB.out)) hb); clear HB; have HB := n0_; clear n0_; (try clear hb); (try clear hb2); (try clear hk); (try clear hi)))
          go_ret
          exact ⟨by first | rfl | (simp [errW_none, errW_some] <;> rfl) | (simp [*, errW_none, errW_some] <;> rfl), by repeat (first | (with_reducible first | exact HB.out | apply below_alloc | apply pw_below_drewN | apply below_drew1) | exact HB.out)⟩
    · replace c7 := Bool.eq_false_iff.mpr c7
      subst c7
      have H1 : (some false) = some r := by rw [if_neg (show ¬ (false = true) by decide)] at H; exact H
      clear H
      have H := H1
      clear H1
      obtain rfl := Option.some.inj H
      go_enter Try.func8, Try.ntmps8
      go_wp2_with (first | ((with_reducible refine gate_callee (f := 11) rfl ?_); refine goesL_ (some 11) rfl rfl Try.func11 (by kernel_rfl) rfl #[] rfl (by (try simp only [List.map_toArray, List.map_cons, List.map_nil]); first | done | rfl | (simp only [List.length_drop, List.length_take]; rfl)) ?_; (with_reducible refine (jacquardlaw01_shown.calls  false _ A3.out).mono ?_); rintro e w19 ⟨rfl, hb⟩; refine ⟨_, rfl, ?_⟩; have n0_ := Aside0.mk (below_step (by repeat (first | (with_reducible first | exact HB.out | apply below_alloc | apply pw_below_drewN | apply below_drew1) | exact HB.out)) hb); clear HB; have HB := n0_; clear n0_; (try clear hb); (try clear hb2); (try clear hk); (try clear hi)) | ((with_reducible refine gate_callee (f := 12) rfl ?_); refine goesL_ (some 15) rfl rfl Try.func12 (by kernel_rfl) rfl #[.int .i64 14, .int .i32 a0, .int .i32 a1] rfl (by (try simp only [List.map_toArray, List.map_cons, List.map_nil]); first | done | rfl | (simp only [List.length_drop, List.length_take]; rfl)) ?_; (with_reducible refine (word_Do.calls 14 a0 a1 t197 t198 _ A4.out).mono ?_); rintro e w20 ⟨rfl, hb⟩; refine ⟨_, rfl, ?_⟩; have n0_ := Aside0.mk (below_step (by repeat (first | (with_reducible first | exact HB.out | apply below_alloc | apply pw_below_drewN | apply below_drew1) | exact HB.out)) hb); clear HB; have HB := n0_; clear n0_; (try clear hb); (try clear hb2); (try clear hk); (try clear hi)) | ((with_reducible refine gate_callee (f := 16) rfl ?_); refine goesL_ (some 18) rfl rfl Try.func16 (by kernel_rfl) rfl #[.int .i64 14, .int .i32 (-2147483648), .int .i32 (-1)] rfl (by (try simp only [List.map_toArray, List.map_cons, List.map_nil]); first | done | rfl | (simp only [List.length_drop, List.length_take]; rfl)) ?_; (with_reducible refine (jacquardlaw01_does.calls 14 (-2147483648) (-1) t199 _ A5.out).mono ?_); rintro e w21 ⟨rfl, hb⟩; refine ⟨_, rfl, ?_⟩; have n0_ := Aside0.mk (below_step (by repeat (first | (with_reducible first | exact HB.out | apply below_alloc | apply pw_below_drewN | apply below_drew1) | exact HB.out)) hb); clear HB; have HB := n0_; clear n0_; (try clear hb); (try clear hb2); (try clear hk); (try clear hi)))
      go_ret
      exact ⟨by first | rfl | (simp [errW_none, errW_some] <;> rfl) | (simp [*, errW_none, errW_some] <;> rfl), by repeat (first | (with_reducible first | exact HB.out | apply below_alloc | apply pw_below_drewN | apply below_drew1) | exact HB.out)⟩
  · rw [if_neg c6] at H
    have c6b0 : (a1 == 0) = false := beq_eq_false_iff_ne.mpr c6
    have c6b1 : (a1 != 0) = true := bne_iff_ne.mpr c6
    have HC22 := Aside0.mk H
    clear H
    go_enter Try.func8, Try.ntmps8
    go_upto_region 7 with (first | ((with_reducible refine gate_callee (f := 11) rfl ?_); refine goesL_ (some 11) rfl rfl Try.func11 (by kernel_rfl) rfl #[] rfl (by (try simp only [List.map_toArray, List.map_cons, List.map_nil]); first | done | rfl | (simp only [List.length_drop, List.length_take]; rfl)) ?_; (with_reducible refine (jacquardlaw01_shown.calls  t196 _ A3.out).mono ?_); rintro e w23 ⟨rfl, hb⟩; refine ⟨_, rfl, ?_⟩; have n0_ := Aside0.mk (below_step (by repeat (first | (with_reducible first | exact HB.out | apply below_alloc | apply pw_below_drewN | apply below_drew1) | exact HB.out)) hb); clear HB; have HB := n0_; clear n0_; (try clear hb); (try clear hb2); (try clear hk); (try clear hi)) | ((with_reducible refine gate_callee (f := 12) rfl ?_); refine goesL_ (some 15) rfl rfl Try.func12 (by kernel_rfl) rfl #[.int .i64 14, .int .i32 a0, .int .i32 a1] rfl (by (try simp only [List.map_toArray, List.map_cons, List.map_nil]); first | done | rfl | (simp only [List.length_drop, List.length_take]; rfl)) ?_; (with_reducible refine (word_Do.calls 14 a0 a1 t197 t198 _ A4.out).mono ?_); rintro e w24 ⟨rfl, hb⟩; refine ⟨_, rfl, ?_⟩; have n0_ := Aside0.mk (below_step (by repeat (first | (with_reducible first | exact HB.out | apply below_alloc | apply pw_below_drewN | apply below_drew1) | exact HB.out)) hb); clear HB; have HB := n0_; clear n0_; (try clear hb); (try clear hb2); (try clear hk); (try clear hi)) | ((with_reducible refine gate_callee (f := 16) rfl ?_); refine goesL_ (some 18) rfl rfl Try.func16 (by kernel_rfl) rfl #[.int .i64 14, .int .i32 (-2147483648), .int .i32 (-1)] rfl (by (try simp only [List.map_toArray, List.map_cons, List.map_nil]); first | done | rfl | (simp only [List.length_drop, List.length_take]; rfl)) ?_; (with_reducible refine (jacquardlaw01_does.calls 14 (-2147483648) (-1) t199 _ A5.out).mono ?_); rintro e w25 ⟨rfl, hb⟩; refine ⟨_, rfl, ?_⟩; have n0_ := Aside0.mk (below_step (by repeat (first | (with_reducible first | exact HB.out | apply below_alloc | apply pw_below_drewN | apply below_drew1) | exact HB.out)) hb); clear HB; have HB := n0_; clear n0_; (try clear hb); (try clear hb2); (try clear hk); (try clear hi)))
    (try simp only [Act.put, List.setIfInBounds_toArray, List.set_cons_zero, List.set_cons_succ])
    go_cut [47] (fun v47 wc => ∃ (kq : Nat) (x47_21 : Bool), v47 = .bool x47_21 ∧ Aside0 (jacquardlaw01_WordDivides.j0 kq a0 a1 t196 t197 t198 t199 (wrap64 ((wrap64 (a0)) - (wrap64 ((wrap64 (a1)) * (wrap64 (t197)))))) x47_21 = some r) ∧ Aside0 (kq ≤ k) ∧ Aside0 (Below w.heap.size w wc))
    case first =>
      have H := HC22.out
      clear HC22
      by_cases c26 : a0 = (-2147483648)
      · rw [if_pos c26] at H
        have c26b0 : (a0 == (-2147483648)) = true := beq_iff_eq.mpr c26
        have c26b1 : (a0 != (-2147483648)) = false := bne_eq_false_iff_eq.mpr c26
        clear c26
        (first | rw [c26b0] | (simp only [i64_w, i32_w]; rw [c26b0]) | skip)
        have H' := Aside0.mk H
        clear H
        go_wp2
        go_meet
        case rel => exact ⟨_, ((a1 == (-1))), (by first | rfl | (simp; done) | (simp [*]; done)), H', ⟨by first | omega | exact Nat.le_refl _⟩, ⟨by repeat (first | (with_reducible first | exact HB.out | apply below_alloc | apply pw_below_drewN | apply below_drew1) | exact HB.out)⟩⟩
      · rw [if_neg c26] at H
        have c26b0 : (a0 == (-2147483648)) = false := beq_eq_false_iff_ne.mpr c26
        have c26b1 : (a0 != (-2147483648)) = true := bne_iff_ne.mpr c26
        (first | rw [c26b0] | (simp only [i64_w, i32_w]; rw [c26b0]) | skip)
        have H' := Aside0.mk H
        clear H
        go_wp2
        go_meet
        case rel => exact ⟨_, (false), (by first | rfl | (simp; done) | (simp [*]; done)), H', ⟨by first | omega | exact Nat.le_refl _⟩, ⟨by repeat (first | (with_reducible first | exact HB.out | apply below_alloc | apply pw_below_drewN | apply below_drew1) | exact HB.out)⟩⟩
    case rest =>
      clear HC22
      try clear c1
      try clear c2
      try clear p2
      try clear c6
      try clear c6b0
      try clear c6b1
      try clear p6
      try clear c7
      try clear c8
      try clear c11
      try clear c12
      try clear c12b0
      try clear c12b1
      try clear c16
      try clear c26
      try clear c26b0
      try clear c26b1
      obtain ⟨kq, x47_21, rfl, HA, HJ21, HB⟩ := hcut
      cases kq with
      | zero => exact absurd HA.out (by simp [jacquardlaw01_WordDivides.j0])
      | succ kj21 =>
        have H := HA.out
        clear HA
        simp only [jacquardlaw01_WordDivides.j0] at H
        by_cases c27 : x47_21 = true
        · subst c27
          have H1 : (if t196 = true then (if t198 = true then (some (t197 == a0)) else (some false)) else (some false)) = some r := by rw [if_pos rfl] at H; exact H
          clear H
          have H := H1
          clear H1
          by_cases c28 : t196 = true
          · subst c28
            have H1 : (if t198 = true then (some (t197 == a0)) else (some false)) = some r := by rw [if_pos rfl] at H; exact H
            clear H
            have H := H1
            clear H1
            by_cases c29 : t198 = true
            · subst c29
              have H1 : (some (t197 == a0)) = some r := by rw [if_pos rfl] at H; exact H
              clear H
              have H := H1
              clear H1
              obtain rfl := Option.some.inj H
              go_wp2
              go_ret
              exact ⟨by first | rfl | (simp [errW_none, errW_some] <;> rfl) | (simp [*, errW_none, errW_some] <;> rfl), by repeat (first | (with_reducible first | exact HB.out | apply below_alloc | apply pw_below_drewN | apply below_drew1) | exact HB.out)⟩
            · replace c29 := Bool.eq_false_iff.mpr c29
              subst c29
              have H1 : (some false) = some r := by rw [if_neg (show ¬ (false = true) by decide)] at H; exact H
              clear H
              have H := H1
              clear H1
              obtain rfl := Option.some.inj H
              go_wp2
              go_ret
              exact ⟨by first | rfl | (simp [errW_none, errW_some] <;> rfl) | (simp [*, errW_none, errW_some] <;> rfl), by repeat (first | (with_reducible first | exact HB.out | apply below_alloc | apply pw_below_drewN | apply below_drew1) | exact HB.out)⟩
          · replace c28 := Bool.eq_false_iff.mpr c28
            subst c28
            have H1 : (some false) = some r := by rw [if_neg (show ¬ (false = true) by decide)] at H; exact H
            clear H
            have H := H1
            clear H1
            obtain rfl := Option.some.inj H
            go_wp2
            go_ret
            exact ⟨by first | rfl | (simp [errW_none, errW_some] <;> rfl) | (simp [*, errW_none, errW_some] <;> rfl), by repeat (first | (with_reducible first | exact HB.out | apply below_alloc | apply pw_below_drewN | apply below_drew1) | exact HB.out)⟩
        · replace c27 := Bool.eq_false_iff.mpr c27
          subst c27
          have H1 : (if (wrap64 (a1)) < 0 then (if t196 = true then (if t198 = true then (if (wrap64 ((wrap64 (a0)) - (wrap64 ((wrap64 (a1)) * (wrap64 (t197)))))) < (wrap64 (-(wrap64 (a1)))) then (if (wrap64 (-(wrap64 ((wrap64 (a0)) - (wrap64 ((wrap64 (a1)) * (wrap64 (t197)))))))) < (wrap64 (-(wrap64 (a1)))) then (if (wrap64 ((wrap64 (a0)) - (wrap64 ((wrap64 (a1)) * (wrap64 (t197)))))) = 0 then (if t199 = (-2147483648) then ((jacquardlaw01_does.f 14 a0 1).bind fun t200 => (some (t200 == a0))) else (some false)) else (if ((decide ((wrap64 ((wrap64 (a0)) - (wrap64 ((wrap64 (a1)) * (wrap64 (t197)))))) < 0)) == (decide (a0 < 0))) = true then (if t199 = (-2147483648) then ((jacquardlaw01_does.f 14 a0 1).bind fun t201 => (some (t201 == a0))) else (some false)) else (some false))) else (some false)) else (some false)) else (some false)) else (some false)) else (if t196 = true then (if t198 = true then (if (wrap64 ((wrap64 (a0)) - (wrap64 ((wrap64 (a1)) * (wrap64 (t197)))))) < (wrap64 (a1)) then (if (wrap64 (-(wrap64 ((wrap64 (a0)) - (wrap64 ((wrap64 (a1)) * (wrap64 (t197)))))))) < (wrap64 (a1)) then (if (wrap64 ((wrap64 (a0)) - (wrap64 ((wrap64 (a1)) * (wrap64 (t197)))))) = 0 then (if t199 = (-2147483648) then ((jacquardlaw01_does.f 14 a0 1).bind fun t202 => (some (t202 == a0))) else (some false)) else (if ((decide ((wrap64 ((wrap64 (a0)) - (wrap64 ((wrap64 (a1)) * (wrap64 (t197)))))) < 0)) == (decide (a0 < 0))) = true then (if t199 = (-2147483648) then ((jacquardlaw01_does.f 14 a0 1).bind fun t203 => (some (t203 == a0))) else (some false)) else (some false))) else (some false)) else (some false)) else (some false)) else (some false))) = some r := by rw [if_neg (show ¬ (false = true) by decide)] at H; exact H
          clear H
          have H := H1
          clear H1
          by_cases c30 : (wrap64 (a1)) < 0
          · rw [if_pos c30] at H
            have c30b0 : decide ((wrap64 (a1)) < 0) = true := decide_eq_true c30
            clear c30
            by_cases c31 : t196 = true
            · subst c31
              have H1 : (if t198 = true then (if (wrap64 ((wrap64 (a0)) - (wrap64 ((wrap64 (a1)) * (wrap64 (t197)))))) < (wrap64 (-(wrap64 (a1)))) then (if (wrap64 (-(wrap64 ((wrap64 (a0)) - (wrap64 ((wrap64 (a1)) * (wrap64 (t197)))))))) < (wrap64 (-(wrap64 (a1)))) then (if (wrap64 ((wrap64 (a0)) - (wrap64 ((wrap64 (a1)) * (wrap64 (t197)))))) = 0 then (if t199 = (-2147483648) then ((jacquardlaw01_does.f 14 a0 1).bind fun t200 => (some (t200 == a0))) else (some false)) else (if ((decide ((wrap64 ((wrap64 (a0)) - (wrap64 ((wrap64 (a1)) * (wrap64 (t197)))))) < 0)) == (decide (a0 < 0))) = true then (if t199 = (-2147483648) then ((jacquardlaw01_does.f 14 a0 1).bind fun t201 => (some (t201 == a0))) else (some false)) else (some false))) else (some false)) else (some false)) else (some false)) = some r := by rw [if_pos rfl] at H; exact H
              clear H
              have H := H1
              clear H1
              by_cases c32 : t198 = true
              · subst c32
                have H1 : (if (wrap64 ((wrap64 (a0)) - (wrap64 ((wrap64 (a1)) * (wrap64 (t197)))))) < (wrap64 (-(wrap64 (a1)))) then (if (wrap64 (-(wrap64 ((wrap64 (a0)) - (wrap64 ((wrap64 (a1)) * (wrap64 (t197)))))))) < (wrap64 (-(wrap64 (a1)))) then (if (wrap64 ((wrap64 (a0)) - (wrap64 ((wrap64 (a1)) * (wrap64 (t197)))))) = 0 then (if t199 = (-2147483648) then ((jacquardlaw01_does.f 14 a0 1).bind fun t200 => (some (t200 == a0))) else (some false)) else (if ((decide ((wrap64 ((wrap64 (a0)) - (wrap64 ((wrap64 (a1)) * (wrap64 (t197)))))) < 0)) == (decide (a0 < 0))) = true then (if t199 = (-2147483648) then ((jacquardlaw01_does.f 14 a0 1).bind fun t201 => (some (t201 == a0))) else (some false)) else (some false))) else (some false)) else (some false)) = some r := by rw [if_pos rfl] at H; exact H
                clear H
                have H := H1
                clear H1
                by_cases c33 : (wrap64 ((wrap64 (a0)) - (wrap64 ((wrap64 (a1)) * (wrap64 (t197)))))) < (wrap64 (-(wrap64 (a1))))
                · rw [if_pos c33] at H
                  have c33b0 : decide ((wrap64 ((wrap64 (a0)) - (wrap64 ((wrap64 (a1)) * (wrap64 (t197)))))) < (wrap64 (-(wrap64 (a1))))) = true := decide_eq_true c33
                  clear c33
                  by_cases c34 : (wrap64 (-(wrap64 ((wrap64 (a0)) - (wrap64 ((wrap64 (a1)) * (wrap64 (t197)))))))) < (wrap64 (-(wrap64 (a1))))
                  · rw [if_pos c34] at H
                    have c34b0 : decide ((wrap64 (-(wrap64 ((wrap64 (a0)) - (wrap64 ((wrap64 (a1)) * (wrap64 (t197)))))))) < (wrap64 (-(wrap64 (a1))))) = true := decide_eq_true c34
                    clear c34
                    by_cases c35 : (wrap64 ((wrap64 (a0)) - (wrap64 ((wrap64 (a1)) * (wrap64 (t197)))))) = 0
                    · rw [if_pos c35] at H
                      have c35b0 : ((wrap64 ((wrap64 (a0)) - (wrap64 ((wrap64 (a1)) * (wrap64 (t197)))))) == 0) = true := beq_iff_eq.mpr c35
                      have c35b1 : ((wrap64 ((wrap64 (a0)) - (wrap64 ((wrap64 (a1)) * (wrap64 (t197)))))) != 0) = false := bne_eq_false_iff_eq.mpr c35
                      clear c35
                      by_cases c36 : t199 = (-2147483648)
                      · rw [if_pos c36] at H
                        have c36b0 : (t199 == (-2147483648)) = true := beq_iff_eq.mpr c36
                        have c36b1 : (t199 != (-2147483648)) = false := bne_eq_false_iff_eq.mpr c36
                        clear c36
                        replace H := Option.bind_eq_some_iff.mp H
                        obtain ⟨t200, A370, H⟩ := H
                        replace H : (some (t200 == a0)) = some r := H
                        have A37 := Aside0.mk A370
                        clear A370
                        obtain rfl := Option.some.inj H
                        go_wp2_with (first | (go_at_call 16; (with_reducible refine (jacquardlaw01_does.calls 14 a0 1 t200 _ A37.out).mono ?_); rintro e w38 ⟨rfl, hb⟩; have n0_ := Aside0.mk (below_step (by repeat (first | (with_reducible first | exact HB.out | apply below_alloc | apply pw_below_drewN | apply below_drew1) | exact HB.out)) hb); clear HB; have HB := n0_; clear n0_; (try clear hb); (try clear hb2); (try clear hk); (try clear hi)))
                        go_ret
                        exact ⟨by first | rfl | (simp [errW_none, errW_some] <;> rfl) | (simp [*, errW_none, errW_some] <;> rfl), by repeat (first | (with_reducible first | exact HB.out | apply below_alloc | apply pw_below_drewN | apply below_drew1) | exact HB.out)⟩
                      · rw [if_neg c36] at H
                        have c36b0 : (t199 == (-2147483648)) = false := beq_eq_false_iff_ne.mpr c36
                        have c36b1 : (t199 != (-2147483648)) = true := bne_iff_ne.mpr c36
                        obtain rfl := Option.some.inj H
                        go_wp2
                        go_ret
                        exact ⟨by first | rfl | (simp [errW_none, errW_some] <;> rfl) | (simp [*, errW_none, errW_some] <;> rfl), by repeat (first | (with_reducible first | exact HB.out | apply below_alloc | apply pw_below_drewN | apply below_drew1) | exact HB.out)⟩
                    · rw [if_neg c35] at H
                      have c35b0 : ((wrap64 ((wrap64 (a0)) - (wrap64 ((wrap64 (a1)) * (wrap64 (t197)))))) == 0) = false := beq_eq_false_iff_ne.mpr c35
                      have c35b1 : ((wrap64 ((wrap64 (a0)) - (wrap64 ((wrap64 (a1)) * (wrap64 (t197)))))) != 0) = true := bne_iff_ne.mpr c35
                      by_cases c39 : ((decide ((wrap64 ((wrap64 (a0)) - (wrap64 ((wrap64 (a1)) * (wrap64 (t197)))))) < 0)) == (decide (a0 < 0))) = true
                      · rw [if_pos c39] at H
                        have c39b0 : ((decide ((wrap64 ((wrap64 (a0)) - (wrap64 ((wrap64 (a1)) * (wrap64 (t197)))))) < 0)) == (decide (a0 < 0))) = true := c39
                        (try (have c39b1 : decide ((decide ((wrap64 ((wrap64 (a0)) - (wrap64 ((wrap64 (a1)) * (wrap64 (t197)))))) < 0)) = (decide (a0 < 0))) = true := by simpa using c39))
                        (try (have c39b2 : ((decide ((wrap64 ((wrap64 (a0)) - (wrap64 ((wrap64 (a1)) * (wrap64 (t197)))))) < 0)) == (decide (a0 < 0))) = true := by simpa using c39))
                        clear c39
                        by_cases c40 : t199 = (-2147483648)
                        · rw [if_pos c40] at H
                          have c40b0 : (t199 == (-2147483648)) = true := beq_iff_eq.mpr c40
                          have c40b1 : (t199 != (-2147483648)) = false := bne_eq_false_iff_eq.mpr c40
                          clear c40
                          replace H := Option.bind_eq_some_iff.mp H
                          obtain ⟨t201, A410, H⟩ := H
                          replace H : (some (t201 == a0)) = some r := H
                          have A41 := Aside0.mk A410
                          clear A410
                          obtain rfl := Option.some.inj H
                          go_wp2_with (first | (go_at_call 16; (with_reducible refine (jacquardlaw01_does.calls 14 a0 1 t201 _ A41.out).mono ?_); rintro e w42 ⟨rfl, hb⟩; have n0_ := Aside0.mk (below_step (by repeat (first | (with_reducible first | exact HB.out | apply below_alloc | apply pw_below_drewN | apply below_drew1) | exact HB.out)) hb); clear HB; have HB := n0_; clear n0_; (try clear hb); (try clear hb2); (try clear hk); (try clear hi)))
                          go_ret
                          exact ⟨by first | rfl | (simp [errW_none, errW_some] <;> rfl) | (simp [*, errW_none, errW_some] <;> rfl), by repeat (first | (with_reducible first | exact HB.out | apply below_alloc | apply pw_below_drewN | apply below_drew1) | exact HB.out)⟩
                        · rw [if_neg c40] at H
                          have c40b0 : (t199 == (-2147483648)) = false := beq_eq_false_iff_ne.mpr c40
                          have c40b1 : (t199 != (-2147483648)) = true := bne_iff_ne.mpr c40
                          obtain rfl := Option.some.inj H
                          go_wp2
                          go_ret
                          exact ⟨by first | rfl | (simp [errW_none, errW_some] <;> rfl) | (simp [*, errW_none, errW_some] <;> rfl), by repeat (first | (with_reducible first | exact HB.out | apply below_alloc | apply pw_below_drewN | apply below_drew1) | exact HB.out)⟩
                      · rw [if_neg c39] at H
                        have c39b0 : ((decide ((wrap64 ((wrap64 (a0)) - (wrap64 ((wrap64 (a1)) * (wrap64 (t197)))))) < 0)) == (decide (a0 < 0))) = false := by simpa using c39
                        (try (have c39b1 : decide ((decide ((wrap64 ((wrap64 (a0)) - (wrap64 ((wrap64 (a1)) * (wrap64 (t197)))))) < 0)) = (decide (a0 < 0))) = false := by simpa using c39))
                        (try (have c39b2 : ((decide ((wrap64 ((wrap64 (a0)) - (wrap64 ((wrap64 (a1)) * (wrap64 (t197)))))) < 0)) == (decide (a0 < 0))) = false := by simpa using c39))
                        (try (have c39b3 : ¬ ((decide ((wrap64 ((wrap64 (a0)) - (wrap64 ((wrap64 (a1)) * (wrap64 (t197)))))) < 0)) = (decide (a0 < 0))) := by simpa using c39))
                        clear c39
                        obtain rfl := Option.some.inj H
                        go_wp2
                        go_ret
                        exact ⟨by first | rfl | (simp [errW_none, errW_some] <;> rfl) | (simp [*, errW_none, errW_some] <;> rfl), by repeat (first | (with_reducible first | exact HB.out | apply below_alloc | apply pw_below_drewN | apply below_drew1) | exact HB.out)⟩
                  · rw [if_neg c34] at H
                    have c34b0 : decide ((wrap64 (-(wrap64 ((wrap64 (a0)) - (wrap64 ((wrap64 (a1)) * (wrap64 (t197)))))))) < (wrap64 (-(wrap64 (a1))))) = false := decide_eq_false c34
                    clear c34
                    obtain rfl := Option.some.inj H
                    go_wp2
                    go_ret
                    exact ⟨by first | rfl | (simp [errW_none, errW_some] <;> rfl) | (simp [*, errW_none, errW_some] <;> rfl), by repeat (first | (with_reducible first | exact HB.out | apply below_alloc | apply pw_below_drewN | apply below_drew1) | exact HB.out)⟩
                · rw [if_neg c33] at H
                  have c33b0 : decide ((wrap64 ((wrap64 (a0)) - (wrap64 ((wrap64 (a1)) * (wrap64 (t197)))))) < (wrap64 (-(wrap64 (a1))))) = false := decide_eq_false c33
                  clear c33
                  obtain rfl := Option.some.inj H
                  go_wp2
                  go_ret
                  exact ⟨by first | rfl | (simp [errW_none, errW_some] <;> rfl) | (simp [*, errW_none, errW_some] <;> rfl), by repeat (first | (with_reducible first | exact HB.out | apply below_alloc | apply pw_below_drewN | apply below_drew1) | exact HB.out)⟩
              · replace c32 := Bool.eq_false_iff.mpr c32
                subst c32
                have H1 : (some false) = some r := by rw [if_neg (show ¬ (false = true) by decide)] at H; exact H
                clear H
                have H := H1
                clear H1
                obtain rfl := Option.some.inj H
                go_wp2
                go_ret
                exact ⟨by first | rfl | (simp [errW_none, errW_some] <;> rfl) | (simp [*, errW_none, errW_some] <;> rfl), by repeat (first | (with_reducible first | exact HB.out | apply below_alloc | apply pw_below_drewN | apply below_drew1) | exact HB.out)⟩
            · replace c31 := Bool.eq_false_iff.mpr c31
              subst c31
              have H1 : (some false) = some r := by rw [if_neg (show ¬ (false = true) by decide)] at H; exact H
              clear H
              have H := H1
              clear H1
              obtain rfl := Option.some.inj H
              go_wp2
              go_ret
              exact ⟨by first | rfl | (simp [errW_none, errW_some] <;> rfl) | (simp [*, errW_none, errW_some] <;> rfl), by repeat (first | (with_reducible first | exact HB.out | apply below_alloc | apply pw_below_drewN | apply below_drew1) | exact HB.out)⟩
          · rw [if_neg c30] at H
            have c30b0 : decide ((wrap64 (a1)) < 0) = false := decide_eq_false c30
            clear c30
            by_cases c43 : t196 = true
            · subst c43
              have H1 : (if t198 = true then (if (wrap64 ((wrap64 (a0)) - (wrap64 ((wrap64 (a1)) * (wrap64 (t197)))))) < (wrap64 (a1)) then (if (wrap64 (-(wrap64 ((wrap64 (a0)) - (wrap64 ((wrap64 (a1)) * (wrap64 (t197)))))))) < (wrap64 (a1)) then (if (wrap64 ((wrap64 (a0)) - (wrap64 ((wrap64 (a1)) * (wrap64 (t197)))))) = 0 then (if t199 = (-2147483648) then ((jacquardlaw01_does.f 14 a0 1).bind fun t202 => (some (t202 == a0))) else (some false)) else (if ((decide ((wrap64 ((wrap64 (a0)) - (wrap64 ((wrap64 (a1)) * (wrap64 (t197)))))) < 0)) == (decide (a0 < 0))) = true then (if t199 = (-2147483648) then ((jacquardlaw01_does.f 14 a0 1).bind fun t203 => (some (t203 == a0))) else (some false)) else (some false))) else (some false)) else (some false)) else (some false)) = some r := by rw [if_pos rfl] at H; exact H
              clear H
              have H := H1
              clear H1
              by_cases c44 : t198 = true
              · subst c44
                have H1 : (if (wrap64 ((wrap64 (a0)) - (wrap64 ((wrap64 (a1)) * (wrap64 (t197)))))) < (wrap64 (a1)) then (if (wrap64 (-(wrap64 ((wrap64 (a0)) - (wrap64 ((wrap64 (a1)) * (wrap64 (t197)))))))) < (wrap64 (a1)) then (if (wrap64 ((wrap64 (a0)) - (wrap64 ((wrap64 (a1)) * (wrap64 (t197)))))) = 0 then (if t199 = (-2147483648) then ((jacquardlaw01_does.f 14 a0 1).bind fun t202 => (some (t202 == a0))) else (some false)) else (if ((decide ((wrap64 ((wrap64 (a0)) - (wrap64 ((wrap64 (a1)) * (wrap64 (t197)))))) < 0)) == (decide (a0 < 0))) = true then (if t199 = (-2147483648) then ((jacquardlaw01_does.f 14 a0 1).bind fun t203 => (some (t203 == a0))) else (some false)) else (some false))) else (some false)) else (some false)) = some r := by rw [if_pos rfl] at H; exact H
                clear H
                have H := H1
                clear H1
                by_cases c45 : (wrap64 ((wrap64 (a0)) - (wrap64 ((wrap64 (a1)) * (wrap64 (t197)))))) < (wrap64 (a1))
                · rw [if_pos c45] at H
                  have c45b0 : decide ((wrap64 ((wrap64 (a0)) - (wrap64 ((wrap64 (a1)) * (wrap64 (t197)))))) < (wrap64 (a1))) = true := decide_eq_true c45
                  clear c45
                  by_cases c46 : (wrap64 (-(wrap64 ((wrap64 (a0)) - (wrap64 ((wrap64 (a1)) * (wrap64 (t197)))))))) < (wrap64 (a1))
                  · rw [if_pos c46] at H
                    have c46b0 : decide ((wrap64 (-(wrap64 ((wrap64 (a0)) - (wrap64 ((wrap64 (a1)) * (wrap64 (t197)))))))) < (wrap64 (a1))) = true := decide_eq_true c46
                    clear c46
                    by_cases c47 : (wrap64 ((wrap64 (a0)) - (wrap64 ((wrap64 (a1)) * (wrap64 (t197)))))) = 0
                    · rw [if_pos c47] at H
                      have c47b0 : ((wrap64 ((wrap64 (a0)) - (wrap64 ((wrap64 (a1)) * (wrap64 (t197)))))) == 0) = true := beq_iff_eq.mpr c47
                      have c47b1 : ((wrap64 ((wrap64 (a0)) - (wrap64 ((wrap64 (a1)) * (wrap64 (t197)))))) != 0) = false := bne_eq_false_iff_eq.mpr c47
                      clear c47
                      by_cases c48 : t199 = (-2147483648)
                      · rw [if_pos c48] at H
                        have c48b0 : (t199 == (-2147483648)) = true := beq_iff_eq.mpr c48
                        have c48b1 : (t199 != (-2147483648)) = false := bne_eq_false_iff_eq.mpr c48
                        clear c48
                        replace H := Option.bind_eq_some_iff.mp H
                        obtain ⟨t202, A490, H⟩ := H
                        replace H : (some (t202 == a0)) = some r := H
                        have A49 := Aside0.mk A490
                        clear A490
                        obtain rfl := Option.some.inj H
                        go_wp2_with (first | (go_at_call 16; (with_reducible refine (jacquardlaw01_does.calls 14 a0 1 t202 _ A49.out).mono ?_); rintro e w50 ⟨rfl, hb⟩; have n0_ := Aside0.mk (below_step (by repeat (first | (with_reducible first | exact HB.out | apply below_alloc | apply pw_below_drewN | apply below_drew1) | exact HB.out)) hb); clear HB; have HB := n0_; clear n0_; (try clear hb); (try clear hb2); (try clear hk); (try clear hi)))
                        go_ret
                        exact ⟨by first | rfl | (simp [errW_none, errW_some] <;> rfl) | (simp [*, errW_none, errW_some] <;> rfl), by repeat (first | (with_reducible first | exact HB.out | apply below_alloc | apply pw_below_drewN | apply below_drew1) | exact HB.out)⟩
                      · rw [if_neg c48] at H
                        have c48b0 : (t199 == (-2147483648)) = false := beq_eq_false_iff_ne.mpr c48
                        have c48b1 : (t199 != (-2147483648)) = true := bne_iff_ne.mpr c48
                        obtain rfl := Option.some.inj H
                        go_wp2
                        go_ret
                        exact ⟨by first | rfl | (simp [errW_none, errW_some] <;> rfl) | (simp [*, errW_none, errW_some] <;> rfl), by repeat (first | (with_reducible first | exact HB.out | apply below_alloc | apply pw_below_drewN | apply below_drew1) | exact HB.out)⟩
                    · rw [if_neg c47] at H
                      have c47b0 : ((wrap64 ((wrap64 (a0)) - (wrap64 ((wrap64 (a1)) * (wrap64 (t197)))))) == 0) = false := beq_eq_false_iff_ne.mpr c47
                      have c47b1 : ((wrap64 ((wrap64 (a0)) - (wrap64 ((wrap64 (a1)) * (wrap64 (t197)))))) != 0) = true := bne_iff_ne.mpr c47
                      by_cases c51 : ((decide ((wrap64 ((wrap64 (a0)) - (wrap64 ((wrap64 (a1)) * (wrap64 (t197)))))) < 0)) == (decide (a0 < 0))) = true
                      · rw [if_pos c51] at H
                        have c51b0 : ((decide ((wrap64 ((wrap64 (a0)) - (wrap64 ((wrap64 (a1)) * (wrap64 (t197)))))) < 0)) == (decide (a0 < 0))) = true := c51
                        (try (have c51b1 : decide ((decide ((wrap64 ((wrap64 (a0)) - (wrap64 ((wrap64 (a1)) * (wrap64 (t197)))))) < 0)) = (decide (a0 < 0))) = true := by simpa using c51))
                        (try (have c51b2 : ((decide ((wrap64 ((wrap64 (a0)) - (wrap64 ((wrap64 (a1)) * (wrap64 (t197)))))) < 0)) == (decide (a0 < 0))) = true := by simpa using c51))
                        clear c51
                        by_cases c52 : t199 = (-2147483648)
                        · rw [if_pos c52] at H
                          have c52b0 : (t199 == (-2147483648)) = true := beq_iff_eq.mpr c52
                          have c52b1 : (t199 != (-2147483648)) = false := bne_eq_false_iff_eq.mpr c52
                          clear c52
                          replace H := Option.bind_eq_some_iff.mp H
                          obtain ⟨t203, A530, H⟩ := H
                          replace H : (some (t203 == a0)) = some r := H
                          have A53 := Aside0.mk A530
                          clear A530
                          obtain rfl := Option.some.inj H
                          go_wp2_with (first | (go_at_call 16; (with_reducible refine (jacquardlaw01_does.calls 14 a0 1 t203 _ A53.out).mono ?_); rintro e w54 ⟨rfl, hb⟩; have n0_ := Aside0.mk (below_step (by repeat (first | (with_reducible first | exact HB.out | apply below_alloc | apply pw_below_drewN | apply below_drew1) | exact HB.out)) hb); clear HB; have HB := n0_; clear n0_; (try clear hb); (try clear hb2); (try clear hk); (try clear hi)))
                          go_ret
                          exact ⟨by first | rfl | (simp [errW_none, errW_some] <;> rfl) | (simp [*, errW_none, errW_some] <;> rfl), by repeat (first | (with_reducible first | exact HB.out | apply below_alloc | apply pw_below_drewN | apply below_drew1) | exact HB.out)⟩
                        · rw [if_neg c52] at H
                          have c52b0 : (t199 == (-2147483648)) = false := beq_eq_false_iff_ne.mpr c52
                          have c52b1 : (t199 != (-2147483648)) = true := bne_iff_ne.mpr c52
                          obtain rfl := Option.some.inj H
                          go_wp2
                          go_ret
                          exact ⟨by first | rfl | (simp [errW_none, errW_some] <;> rfl) | (simp [*, errW_none, errW_some] <;> rfl), by repeat (first | (with_reducible first | exact HB.out | apply below_alloc | apply pw_below_drewN | apply below_drew1) | exact HB.out)⟩
                      · rw [if_neg c51] at H
                        have c51b0 : ((decide ((wrap64 ((wrap64 (a0)) - (wrap64 ((wrap64 (a1)) * (wrap64 (t197)))))) < 0)) == (decide (a0 < 0))) = false := by simpa using c51
                        (try (have c51b1 : decide ((decide ((wrap64 ((wrap64 (a0)) - (wrap64 ((wrap64 (a1)) * (wrap64 (t197)))))) < 0)) = (decide (a0 < 0))) = false := by simpa using c51))
                        (try (have c51b2 : ((decide ((wrap64 ((wrap64 (a0)) - (wrap64 ((wrap64 (a1)) * (wrap64 (t197)))))) < 0)) == (decide (a0 < 0))) = false := by simpa using c51))
                        (try (have c51b3 : ¬ ((decide ((wrap64 ((wrap64 (a0)) - (wrap64 ((wrap64 (a1)) * (wrap64 (t197)))))) < 0)) = (decide (a0 < 0))) := by simpa using c51))
                        clear c51
                        obtain rfl := Option.some.inj H
                        go_wp2
                        go_ret
                        exact ⟨by first | rfl | (simp [errW_none, errW_some] <;> rfl) | (simp [*, errW_none, errW_some] <;> rfl), by repeat (first | (with_reducible first | exact HB.out | apply below_alloc | apply pw_below_drewN | apply below_drew1) | exact HB.out)⟩
                  · rw [if_neg c46] at H
                    have c46b0 : decide ((wrap64 (-(wrap64 ((wrap64 (a0)) - (wrap64 ((wrap64 (a1)) * (wrap64 (t197)))))))) < (wrap64 (a1))) = false := decide_eq_false c46
                    clear c46
                    obtain rfl := Option.some.inj H
                    go_wp2
                    go_ret
                    exact ⟨by first | rfl | (simp [errW_none, errW_some] <;> rfl) | (simp [*, errW_none, errW_some] <;> rfl), by repeat (first | (with_reducible first | exact HB.out | apply below_alloc | apply pw_below_drewN | apply below_drew1) | exact HB.out)⟩
                · rw [if_neg c45] at H
                  have c45b0 : decide ((wrap64 ((wrap64 (a0)) - (wrap64 ((wrap64 (a1)) * (wrap64 (t197)))))) < (wrap64 (a1))) = false := decide_eq_false c45
                  clear c45
                  obtain rfl := Option.some.inj H
                  go_wp2
                  go_ret
                  exact ⟨by first | rfl | (simp [errW_none, errW_some] <;> rfl) | (simp [*, errW_none, errW_some] <;> rfl), by repeat (first | (with_reducible first | exact HB.out | apply below_alloc | apply pw_below_drewN | apply below_drew1) | exact HB.out)⟩
              · replace c44 := Bool.eq_false_iff.mpr c44
                subst c44
                have H1 : (some false) = some r := by rw [if_neg (show ¬ (false = true) by decide)] at H; exact H
                clear H
                have H := H1
                clear H1
                obtain rfl := Option.some.inj H
                go_wp2
                go_ret
                exact ⟨by first | rfl | (simp [errW_none, errW_some] <;> rfl) | (simp [*, errW_none, errW_some] <;> rfl), by repeat (first | (with_reducible first | exact HB.out | apply below_alloc | apply pw_below_drewN | apply below_drew1) | exact HB.out)⟩
            · replace c43 := Bool.eq_false_iff.mpr c43
              subst c43
              have H1 : (some false) = some r := by rw [if_neg (show ¬ (false = true) by decide)] at H; exact H
              clear H
              have H := H1
              clear H1
              obtain rfl := Option.some.inj H
              go_wp2
              go_ret
              exact ⟨by first | rfl | (simp [errW_none, errW_some] <;> rfl) | (simp [*, errW_none, errW_some] <;> rfl), by repeat (first | (with_reducible first | exact HB.out | apply below_alloc | apply pw_below_drewN | apply below_drew1) | exact HB.out)⟩

/-- THE ONE PURE STATEMENT of jacquardlaw01_WordDivides: yours. -/
def jacquardlaw01_WordDivides.Pure : Prop := ∀ (a0 : Int) (a1 : Int), (Lit.int .i32 a0).wf = true → (Lit.int .i32 a1).wf = true → ∃ k, jacquardlaw01_WordDivides.f k a0 a1 = some true
theorem jacquardlaw01_WordDivides.walk (P : jacquardlaw01_WordDivides.Pure) (a0 : Int) (a1 : Int) (w : World) (w0 : (Lit.int .i32 a0).wf = true) (w1 : (Lit.int .i32 a1).wf = true) :
    Calls Try.prog 8 #[.int .i32 a0, .int .i32 a1] w fun e w' => e = .returned (.bool true) ∧ Below w.heap.size w w' := by
  obtain ⟨k, h⟩ := P a0 a1 w0 w1
  refine (jacquardlaw01_WordDivides.calls k a0 a1 true w h).mono ?_
  rintro e w' ⟨rfl, hd⟩
  exact ⟨rfl, hd⟩

/-! ### jacquardlaw01_WordWide: function 9 -/
def jacquardlaw01_WordWide.f (a0 : Int) (a1 : Int) : Option (Bool) := (jacquardlaw01_shown.f).bind fun t204 => ((word_Wide.f a0 a1).bind fun bt205 => ((word_Wide.f a1 a0).bind fun bt207 => (if t204 = true then ((jacquardlaw01_does.f 4 a0 a1).bind fun t209 => (if bt205.1 = t209 then (if (wrap64 ((wrap64 ((wrap64 (bt205.2)) * 4294967296)) + ((bt205.1) % 4294967296))) = (wrap64 ((wrap64 (a0)) * (wrap64 (a1)))) then (if bt207.1 = bt205.1 then (some (bt207.2 == bt205.2)) else (some false)) else (some false)) else (some false))) else (some false))))
set_option maxHeartbeats 8000000 in
set_option maxRecDepth 100000 in
theorem jacquardlaw01_WordWide.calls (a0 : Int) (a1 : Int) (r : Bool) (w : World) (h : jacquardlaw01_WordWide.f a0 a1 = some r) :
    Calls Try.prog 9 #[.int .i32 a0, .int .i32 a1] w fun e w' => e = .returned (.bool r) ∧ Below w.heap.size w w' := by
  have HB := Aside0.mk (Below.refl w.heap.size w)
  have H : ((jacquardlaw01_shown.f).bind fun t204 => ((word_Wide.f a0 a1).bind fun bt205 => ((word_Wide.f a1 a0).bind fun bt207 => (if t204 = true then ((jacquardlaw01_does.f 4 a0 a1).bind fun t209 => (if bt205.1 = t209 then (if (wrap64 ((wrap64 ((wrap64 (bt205.2)) * 4294967296)) + ((bt205.1) % 4294967296))) = (wrap64 ((wrap64 (a0)) * (wrap64 (a1)))) then (if bt207.1 = bt205.1 then (some (bt207.2 == bt205.2)) else (some false)) else (some false)) else (some false))) else (some false))))) = some r := h
  clear h
  replace H := Option.bind_eq_some_iff.mp H
  obtain ⟨t204, A30, H⟩ := H
  replace H : ((word_Wide.f a0 a1).bind fun bt205 => ((word_Wide.f a1 a0).bind fun bt207 => (if t204 = true then ((jacquardlaw01_does.f 4 a0 a1).bind fun t209 => (if bt205.1 = t209 then (if (wrap64 ((wrap64 ((wrap64 (bt205.2)) * 4294967296)) + ((bt205.1) % 4294967296))) = (wrap64 ((wrap64 (a0)) * (wrap64 (a1)))) then (if bt207.1 = bt205.1 then (some (bt207.2 == bt205.2)) else (some false)) else (some false)) else (some false))) else (some false)))) = some r := H
  have A3 := Aside0.mk A30
  clear A30
  replace H := Option.bind_eq_some_iff.mp H
  obtain ⟨⟨t205, t206⟩, A40, H⟩ := H
  replace H : ((word_Wide.f a1 a0).bind fun bt207 => (if t204 = true then ((jacquardlaw01_does.f 4 a0 a1).bind fun t209 => (if t205 = t209 then (if (wrap64 ((wrap64 ((wrap64 (t206)) * 4294967296)) + ((t205) % 4294967296))) = (wrap64 ((wrap64 (a0)) * (wrap64 (a1)))) then (if bt207.1 = t205 then (some (bt207.2 == t206)) else (some false)) else (some false)) else (some false))) else (some false))) = some r := H
  have A4 := Aside0.mk A40
  clear A40
  replace H := Option.bind_eq_some_iff.mp H
  obtain ⟨⟨t207, t208⟩, A50, H⟩ := H
  replace H : (if t204 = true then ((jacquardlaw01_does.f 4 a0 a1).bind fun t209 => (if t205 = t209 then (if (wrap64 ((wrap64 ((wrap64 (t206)) * 4294967296)) + ((t205) % 4294967296))) = (wrap64 ((wrap64 (a0)) * (wrap64 (a1)))) then (if t207 = t205 then (some (t208 == t206)) else (some false)) else (some false)) else (some false))) else (some false)) = some r := H
  have A5 := Aside0.mk A50
  clear A50
  by_cases c6 : t204 = true
  · subst c6
    have H1 : ((jacquardlaw01_does.f 4 a0 a1).bind fun t209 => (if t205 = t209 then (if (wrap64 ((wrap64 ((wrap64 (t206)) * 4294967296)) + ((t205) % 4294967296))) = (wrap64 ((wrap64 (a0)) * (wrap64 (a1)))) then (if t207 = t205 then (some (t208 == t206)) else (some false)) else (some false)) else (some false))) = some r := by rw [if_pos rfl] at H; exact H
    clear H
    have H := H1
    clear H1
    replace H := Option.bind_eq_some_iff.mp H
    obtain ⟨t209, A70, H⟩ := H
    replace H : (if t205 = t209 then (if (wrap64 ((wrap64 ((wrap64 (t206)) * 4294967296)) + ((t205) % 4294967296))) = (wrap64 ((wrap64 (a0)) * (wrap64 (a1)))) then (if t207 = t205 then (some (t208 == t206)) else (some false)) else (some false)) else (some false)) = some r := H
    have A7 := Aside0.mk A70
    clear A70
    by_cases c8 : t205 = t209
    · rw [if_pos c8] at H
      have c8b0 : (t205 == t209) = true := beq_iff_eq.mpr c8
      have c8b1 : (t205 != t209) = false := bne_eq_false_iff_eq.mpr c8
      clear c8
      by_cases c9 : (wrap64 ((wrap64 ((wrap64 (t206)) * 4294967296)) + ((t205) % 4294967296))) = (wrap64 ((wrap64 (a0)) * (wrap64 (a1))))
      · rw [if_pos c9] at H
        have c9b0 : ((wrap64 ((wrap64 ((wrap64 (t206)) * 4294967296)) + ((t205) % 4294967296))) == (wrap64 ((wrap64 (a0)) * (wrap64 (a1))))) = true := beq_iff_eq.mpr c9
        have c9b1 : ((wrap64 ((wrap64 ((wrap64 (t206)) * 4294967296)) + ((t205) % 4294967296))) != (wrap64 ((wrap64 (a0)) * (wrap64 (a1))))) = false := bne_eq_false_iff_eq.mpr c9
        clear c9
        by_cases c10 : t207 = t205
        · rw [if_pos c10] at H
          have c10b0 : (t207 == t205) = true := beq_iff_eq.mpr c10
          have c10b1 : (t207 != t205) = false := bne_eq_false_iff_eq.mpr c10
          clear c10
          obtain rfl := Option.some.inj H
          go_enter Try.func9, Try.ntmps9
          go_wp2_with (first | ((with_reducible refine gate_callee (f := 11) rfl ?_); refine goesL_ (some 11) rfl rfl Try.func11 (by kernel_rfl) rfl #[] rfl (by (try simp only [List.map_toArray, List.map_cons, List.map_nil]); first | done | rfl | (simp only [List.length_drop, List.length_take]; rfl)) ?_; (with_reducible refine (jacquardlaw01_shown.calls  true _ A3.out).mono ?_); rintro e w11 ⟨rfl, hb⟩; refine ⟨_, rfl, ?_⟩; have n0_ := Aside0.mk (below_step (by repeat (first | (with_reducible first | exact HB.out | apply below_alloc | apply pw_below_drewN | apply below_drew1) | exact HB.out)) hb); clear HB; have HB := n0_; clear n0_; (try clear hb); (try clear hb2); (try clear hk); (try clear hi)) | ((with_reducible refine gate_callee (f := 14) rfl ?_); refine goesL_ (some 15) rfl rfl Try.func14 (by kernel_rfl) rfl #[.int .i32 a0, .int .i32 a1] rfl (by (try simp only [List.map_toArray, List.map_cons, List.map_nil]); first | done | rfl | (simp only [List.length_drop, List.length_take]; rfl)) ?_; (with_reducible refine (word_Wide.calls a0 a1 t205 t206 _ A4.out).mono ?_); rintro e w' ⟨rfl, ⟨nd, rfl⟩⟩; refine ⟨_, rfl, ?_⟩) | ((with_reducible refine gate_callee (f := 14) rfl ?_); refine goesL_ (some 21) rfl rfl Try.func14 (by kernel_rfl) rfl #[.int .i32 a1, .int .i32 a0] rfl (by (try simp only [List.map_toArray, List.map_cons, List.map_nil]); first | done | rfl | (simp only [List.length_drop, List.length_take]; rfl)) ?_; (with_reducible refine (word_Wide.calls a1 a0 t207 t208 _ A5.out).mono ?_); rintro e w' ⟨rfl, ⟨nd, rfl⟩⟩; refine ⟨_, rfl, ?_⟩) | (go_at_call 16; (with_reducible refine (jacquardlaw01_does.calls 4 a0 a1 t209 _ A7.out).mono ?_); rintro e w12 ⟨rfl, hb⟩; have n0_ := Aside0.mk (below_step (by repeat (first | (with_reducible first | exact HB.out | apply below_alloc | apply pw_below_drewN | apply below_drew1) | exact HB.out)) hb); clear HB; have HB := n0_; clear n0_; (try clear hb); (try clear hb2); (try clear hk); (try clear hi)))
          go_ret
          exact ⟨by first | rfl | (simp [errW_none, errW_some] <;> rfl) | (simp [*, errW_none, errW_some] <;> rfl), by repeat (first | (with_reducible first | exact HB.out | apply below_alloc | apply pw_below_drewN | apply below_drew1) | exact HB.out)⟩
        · rw [if_neg c10] at H
          have c10b0 : (t207 == t205) = false := beq_eq_false_iff_ne.mpr c10
          have c10b1 : (t207 != t205) = true := bne_iff_ne.mpr c10
          obtain rfl := Option.some.inj H
          go_enter Try.func9, Try.ntmps9
          go_wp2_with (first | ((with_reducible refine gate_callee (f := 11) rfl ?_); refine goesL_ (some 11) rfl rfl Try.func11 (by kernel_rfl) rfl #[] rfl (by (try simp only [List.map_toArray, List.map_cons, List.map_nil]); first | done | rfl | (simp only [List.length_drop, List.length_take]; rfl)) ?_; (with_reducible refine (jacquardlaw01_shown.calls  true _ A3.out).mono ?_); rintro e w13 ⟨rfl, hb⟩; refine ⟨_, rfl, ?_⟩; have n0_ := Aside0.mk (below_step (by repeat (first | (with_reducible first | exact HB.out | apply below_alloc | apply pw_below_drewN | apply below_drew1) | exact HB.out)) hb); clear HB; have HB := n0_; clear n0_; (try clear hb); (try clear hb2); (try clear hk); (try clear hi)) | ((with_reducible refine gate_callee (f := 14) rfl ?_); refine goesL_ (some 15) rfl rfl Try.func14 (by kernel_rfl) rfl #[.int .i32 a0, .int .i32 a1] rfl (by (try simp only [List.map_toArray, List.map_cons, List.map_nil]); first | done | rfl | (simp only [List.length_drop, List.length_take]; rfl)) ?_; (with_reducible refine (word_Wide.calls a0 a1 t205 t206 _ A4.out).mono ?_); rintro e w' ⟨rfl, ⟨nd, rfl⟩⟩; refine ⟨_, rfl, ?_⟩) | ((with_reducible refine gate_callee (f := 14) rfl ?_); refine goesL_ (some 21) rfl rfl Try.func14 (by kernel_rfl) rfl #[.int .i32 a1, .int .i32 a0] rfl (by (try simp only [List.map_toArray, List.map_cons, List.map_nil]); first | done | rfl | (simp only [List.length_drop, List.length_take]; rfl)) ?_; (with_reducible refine (word_Wide.calls a1 a0 t207 t208 _ A5.out).mono ?_); rintro e w' ⟨rfl, ⟨nd, rfl⟩⟩; refine ⟨_, rfl, ?_⟩) | (go_at_call 16; (with_reducible refine (jacquardlaw01_does.calls 4 a0 a1 t209 _ A7.out).mono ?_); rintro e w14 ⟨rfl, hb⟩; have n0_ := Aside0.mk (below_step (by repeat (first | (with_reducible first | exact HB.out | apply below_alloc | apply pw_below_drewN | apply below_drew1) | exact HB.out)) hb); clear HB; have HB := n0_; clear n0_; (try clear hb); (try clear hb2); (try clear hk); (try clear hi)))
          go_ret
          exact ⟨by first | rfl | (simp [errW_none, errW_some] <;> rfl) | (simp [*, errW_none, errW_some] <;> rfl), by repeat (first | (with_reducible first | exact HB.out | apply below_alloc | apply pw_below_drewN | apply below_drew1) | exact HB.out)⟩
      · rw [if_neg c9] at H
        have c9b0 : ((wrap64 ((wrap64 ((wrap64 (t206)) * 4294967296)) + ((t205) % 4294967296))) == (wrap64 ((wrap64 (a0)) * (wrap64 (a1))))) = false := beq_eq_false_iff_ne.mpr c9
        have c9b1 : ((wrap64 ((wrap64 ((wrap64 (t206)) * 4294967296)) + ((t205) % 4294967296))) != (wrap64 ((wrap64 (a0)) * (wrap64 (a1))))) = true := bne_iff_ne.mpr c9
        obtain rfl := Option.some.inj H
        go_enter Try.func9, Try.ntmps9
        go_wp2_with (first | ((with_reducible refine gate_callee (f := 11) rfl ?_); refine goesL_ (some 11) rfl rfl Try.func11 (by kernel_rfl) rfl #[] rfl (by (try simp only [List.map_toArray, List.map_cons, List.map_nil]); first | done | rfl | (simp only [List.length_drop, List.length_take]; rfl)) ?_; (with_reducible refine (jacquardlaw01_shown.calls  true _ A3.out).mono ?_); rintro e w15 ⟨rfl, hb⟩; refine ⟨_, rfl, ?_⟩; have n0_ := Aside0.mk (below_step (by repeat (first | (with_reducible first | exact HB.out | apply below_alloc | apply pw_below_drewN | apply below_drew1) | exact HB.out)) hb); clear HB; have HB := n0_; clear n0_; (try clear hb); (try clear hb2); (try clear hk); (try clear hi)) | ((with_reducible refine gate_callee (f := 14) rfl ?_); refine goesL_ (some 15) rfl rfl Try.func14 (by kernel_rfl) rfl #[.int .i32 a0, .int .i32 a1] rfl (by (try simp only [List.map_toArray, List.map_cons, List.map_nil]); first | done | rfl | (simp only [List.length_drop, List.length_take]; rfl)) ?_; (with_reducible refine (word_Wide.calls a0 a1 t205 t206 _ A4.out).mono ?_); rintro e w' ⟨rfl, ⟨nd, rfl⟩⟩; refine ⟨_, rfl, ?_⟩) | ((with_reducible refine gate_callee (f := 14) rfl ?_); refine goesL_ (some 21) rfl rfl Try.func14 (by kernel_rfl) rfl #[.int .i32 a1, .int .i32 a0] rfl (by (try simp only [List.map_toArray, List.map_cons, List.map_nil]); first | done | rfl | (simp only [List.length_drop, List.length_take]; rfl)) ?_; (with_reducible refine (word_Wide.calls a1 a0 t207 t208 _ A5.out).mono ?_); rintro e w' ⟨rfl, ⟨nd, rfl⟩⟩; refine ⟨_, rfl, ?_⟩) | (go_at_call 16; (with_reducible refine (jacquardlaw01_does.calls 4 a0 a1 t209 _ A7.out).mono ?_); rintro e w16 ⟨rfl, hb⟩; have n0_ := Aside0.mk (below_step (by repeat (first | (with_reducible first | exact HB.out | apply below_alloc | apply pw_below_drewN | apply below_drew1) | exact HB.out)) hb); clear HB; have HB := n0_; clear n0_; (try clear hb); (try clear hb2); (try clear hk); (try clear hi)))
        go_ret
        exact ⟨by first | rfl | (simp [errW_none, errW_some] <;> rfl) | (simp [*, errW_none, errW_some] <;> rfl), by repeat (first | (with_reducible first | exact HB.out | apply below_alloc | apply pw_below_drewN | apply below_drew1) | exact HB.out)⟩
    · rw [if_neg c8] at H
      have c8b0 : (t205 == t209) = false := beq_eq_false_iff_ne.mpr c8
      have c8b1 : (t205 != t209) = true := bne_iff_ne.mpr c8
      obtain rfl := Option.some.inj H
      go_enter Try.func9, Try.ntmps9
      go_wp2_with (first | ((with_reducible refine gate_callee (f := 11) rfl ?_); refine goesL_ (some 11) rfl rfl Try.func11 (by kernel_rfl) rfl #[] rfl (by (try simp only [List.map_toArray, List.map_cons, List.map_nil]); first | done | rfl | (simp only [List.length_drop, List.length_take]; rfl)) ?_; (with_reducible refine (jacquardlaw01_shown.calls  true _ A3.out).mono ?_); rintro e w17 ⟨rfl, hb⟩; refine ⟨_, rfl, ?_⟩; have n0_ := Aside0.mk (below_step (by repeat (first | (with_reducible first | exact HB.out | apply below_alloc | apply pw_below_drewN | apply below_drew1) | exact HB.out)) hb); clear HB; have HB := n0_; clear n0_; (try clear hb); (try clear hb2); (try clear hk); (try clear hi)) | ((with_reducible refine gate_callee (f := 14) rfl ?_); refine goesL_ (some 15) rfl rfl Try.func14 (by kernel_rfl) rfl #[.int .i32 a0, .int .i32 a1] rfl (by (try simp only [List.map_toArray, List.map_cons, List.map_nil]); first | done | rfl | (simp only [List.length_drop, List.length_take]; rfl)) ?_; (with_reducible refine (word_Wide.calls a0 a1 t205 t206 _ A4.out).mono ?_); rintro e w' ⟨rfl, ⟨nd, rfl⟩⟩; refine ⟨_, rfl, ?_⟩) | ((with_reducible refine gate_callee (f := 14) rfl ?_); refine goesL_ (some 21) rfl rfl Try.func14 (by kernel_rfl) rfl #[.int .i32 a1, .int .i32 a0] rfl (by (try simp only [List.map_toArray, List.map_cons, List.map_nil]); first | done | rfl | (simp only [List.length_drop, List.length_take]; rfl)) ?_; (with_reducible refine (word_Wide.calls a1 a0 t207 t208 _ A5.out).mono ?_); rintro e w' ⟨rfl, ⟨nd, rfl⟩⟩; refine ⟨_, rfl, ?_⟩) | (go_at_call 16; (with_reducible refine (jacquardlaw01_does.calls 4 a0 a1 t209 _ A7.out).mono ?_); rintro e w18 ⟨rfl, hb⟩; have n0_ := Aside0.mk (below_step (by repeat (first | (with_reducible first | exact HB.out | apply below_alloc | apply pw_below_drewN | apply below_drew1) | exact HB.out)) hb); clear HB; have HB := n0_; clear n0_; (try clear hb); (try clear hb2); (try clear hk); (try clear hi)))
      go_ret
      exact ⟨by first | rfl | (simp [errW_none, errW_some] <;> rfl) | (simp [*, errW_none, errW_some] <;> rfl), by repeat (first | (with_reducible first | exact HB.out | apply below_alloc | apply pw_below_drewN | apply below_drew1) | exact HB.out)⟩
  · replace c6 := Bool.eq_false_iff.mpr c6
    subst c6
    have H1 : (some false) = some r := by rw [if_neg (show ¬ (false = true) by decide)] at H; exact H
    clear H
    have H := H1
    clear H1
    obtain rfl := Option.some.inj H
    go_enter Try.func9, Try.ntmps9
    go_wp2_with (first | ((with_reducible refine gate_callee (f := 11) rfl ?_); refine goesL_ (some 11) rfl rfl Try.func11 (by kernel_rfl) rfl #[] rfl (by (try simp only [List.map_toArray, List.map_cons, List.map_nil]); first | done | rfl | (simp only [List.length_drop, List.length_take]; rfl)) ?_; (with_reducible refine (jacquardlaw01_shown.calls  false _ A3.out).mono ?_); rintro e w19 ⟨rfl, hb⟩; refine ⟨_, rfl, ?_⟩; have n0_ := Aside0.mk (below_step (by repeat (first | (with_reducible first | exact HB.out | apply below_alloc | apply pw_below_drewN | apply below_drew1) | exact HB.out)) hb); clear HB; have HB := n0_; clear n0_; (try clear hb); (try clear hb2); (try clear hk); (try clear hi)) | ((with_reducible refine gate_callee (f := 14) rfl ?_); refine goesL_ (some 15) rfl rfl Try.func14 (by kernel_rfl) rfl #[.int .i32 a0, .int .i32 a1] rfl (by (try simp only [List.map_toArray, List.map_cons, List.map_nil]); first | done | rfl | (simp only [List.length_drop, List.length_take]; rfl)) ?_; (with_reducible refine (word_Wide.calls a0 a1 t205 t206 _ A4.out).mono ?_); rintro e w' ⟨rfl, ⟨nd, rfl⟩⟩; refine ⟨_, rfl, ?_⟩) | ((with_reducible refine gate_callee (f := 14) rfl ?_); refine goesL_ (some 21) rfl rfl Try.func14 (by kernel_rfl) rfl #[.int .i32 a1, .int .i32 a0] rfl (by (try simp only [List.map_toArray, List.map_cons, List.map_nil]); first | done | rfl | (simp only [List.length_drop, List.length_take]; rfl)) ?_; (with_reducible refine (word_Wide.calls a1 a0 t207 t208 _ A5.out).mono ?_); rintro e w' ⟨rfl, ⟨nd, rfl⟩⟩; refine ⟨_, rfl, ?_⟩))
    go_ret
    exact ⟨by first | rfl | (simp [errW_none, errW_some] <;> rfl) | (simp [*, errW_none, errW_some] <;> rfl), by repeat (first | (with_reducible first | exact HB.out | apply below_alloc | apply pw_below_drewN | apply below_drew1) | exact HB.out)⟩

/-- THE ONE PURE STATEMENT of jacquardlaw01_WordWide: yours. -/
def jacquardlaw01_WordWide.Pure : Prop := ∀ (a0 : Int) (a1 : Int), (Lit.int .i32 a0).wf = true → (Lit.int .i32 a1).wf = true → jacquardlaw01_WordWide.f a0 a1 = some true
theorem jacquardlaw01_WordWide.walk (P : jacquardlaw01_WordWide.Pure) (a0 : Int) (a1 : Int) (w : World) (w0 : (Lit.int .i32 a0).wf = true) (w1 : (Lit.int .i32 a1).wf = true) :
    Calls Try.prog 9 #[.int .i32 a0, .int .i32 a1] w fun e w' => e = .returned (.bool true) ∧ Below w.heap.size w w' := by
  have h := P a0 a1 w0 w1
  refine (jacquardlaw01_WordWide.calls a0 a1 true w h).mono ?_
  rintro e w' ⟨rfl, hd⟩
  exact ⟨rfl, hd⟩

/-! ### word_Fits: function 17 -/
def word_Fits.f (a0 : Int) (a1 : Int) : Option (Bool) := if a1 < 1 then (some (a0 == 0)) else (if a1 > 32 then (some true) else (if 0 ≤ (wrap64 (32 - a1)) then (some ((shr .i32 (shl .i32 a0 (wrap64 (32 - a1))) (wrap64 (32 - a1))) == a0)) else (none)))
set_option maxHeartbeats 8000000 in
set_option maxRecDepth 100000 in
theorem word_Fits.calls (a0 : Int) (a1 : Int) (r : Bool) (w : World) (h : word_Fits.f a0 a1 = some r) :
    Calls Try.prog 17 #[.int .i32 a0, .int .i64 a1] w fun e w' => e = .returned (.bool r) ∧ Drawn0 w w' := by
  have H : (if a1 < 1 then (some (a0 == 0)) else (if a1 > 32 then (some true) else (if 0 ≤ (wrap64 (32 - a1)) then (some ((shr .i32 (shl .i32 a0 (wrap64 (32 - a1))) (wrap64 (32 - a1))) == a0)) else (none)))) = some r := h
  clear h
  by_cases c3 : a1 < 1
  · rw [if_pos c3] at H
    have c3b0 : decide (a1 < 1) = true := decide_eq_true c3
    clear c3
    obtain rfl := Option.some.inj H
    go_enter Try.func17, Try.ntmps17
    go_wp2
    go_ret
    exact ⟨by first | rfl | (simp; done) | (simp [*]; done), by repeat (first | exact Drawn0.refl _ | apply Drawn0.step)⟩
  · rw [if_neg c3] at H
    have c3b0 : decide (a1 < 1) = false := decide_eq_false c3
    clear c3
    by_cases c4 : a1 > 32
    · rw [if_pos c4] at H
      have c4b0 : decide (32 < a1) = true := decide_eq_true c4
      clear c4
      obtain rfl := Option.some.inj H
      go_enter Try.func17, Try.ntmps17
      go_wp2
      go_ret
      exact ⟨by first | rfl | (simp; done) | (simp [*]; done), by repeat (first | exact Drawn0.refl _ | apply Drawn0.step)⟩
    · rw [if_neg c4] at H
      have c4b0 : decide (32 < a1) = false := decide_eq_false c4
      clear c4
      obtain ⟨ji5, hji5⟩ : ∃ j_ : Int, (wrap64 (32 - a1)) = j_ := ⟨_, rfl⟩
      replace H : (if 0 ≤ (ji5) then (some ((shr .i32 (shl .i32 a0 (ji5)) (ji5)) == a0)) else (none)) = some r := by first | (rw [hji5] at H; exact H) | (simp only [hji5] at H ⊢; exact H)
      have hji5w : (IntKind.i64.wrap (32 - a1)) = ji5 := (i64_w _).trans hji5
      by_cases c6 : 0 ≤ (ji5)
      · rw [if_pos c6] at H
        have c6b0 := eq_true c6
        have c6b1 : decide (0 ≤ (ji5)) = true := decide_eq_true c6
        clear c6
        obtain ⟨ji7, hji7⟩ : ∃ j_ : Int, (shl .i32 a0 (ji5)) = j_ := ⟨_, rfl⟩
        replace H : (some ((shr .i32 (ji7) (ji5)) == a0)) = some r := by first | (rw [hji7] at H; exact H) | (simp only [hji7] at H ⊢; exact H)
        have hji7_ : (IntKind.i32.wrap (a0 * 2 ^ min (ji5).toNat 32)) = ji7 := hji7
        have hji7z : (ji5) ≤ 32 → (IntKind.i32.wrap (a0 * 2 ^ (ji5).toNat)) = ji7 := shl_small hji7
        have hji7y : (wrap32 (a0 * 2 ^ min (ji5).toNat 32)) = ji7 := (i32_w _).symm.trans hji7_
        have hji7x : (ji5) ≤ 32 → (wrap32 (a0 * 2 ^ (ji5).toNat)) = ji7 := fun h_ => (i32_w _).symm.trans (hji7z h_)
        have c8b0 := eq_true (of_decide_eq_true (by first | (with_reducible assumption) | assumption) : 0 ≤ (ji5))
        obtain ⟨ji9, hji9⟩ : ∃ j_ : Int, (shr .i32 (ji7) (ji5)) = j_ := ⟨_, rfl⟩
        replace H : (some ((ji9) == a0)) = some r := by first | (rw [hji9] at H; exact H) | (simp only [hji9] at H ⊢; exact H)
        have hji9_ : ((ji7) / 2 ^ min (ji5).toNat 32) = ji9 := hji9
        have hji9z : (ji5) ≤ 32 → ((ji7) / 2 ^ (ji5).toNat) = ji9 := shr_small hji9
        obtain rfl := Option.some.inj H
        go_enter Try.func17, Try.ntmps17
        go_wp2
        go_ret
        exact ⟨by first | rfl | (simp; done) | (simp only [← hji5, ← hji7, ← hji9] <;> (first | rfl | simp)) | (simp [*]; done), by repeat (first | exact Drawn0.refl _ | apply Drawn0.step)⟩
      · rw [if_neg c6] at H
        exact absurd H (by simp)

end Go.Proofs.Ytfiajahppimchaa.Pr
