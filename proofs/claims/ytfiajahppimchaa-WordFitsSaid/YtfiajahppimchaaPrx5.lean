-- By this session's driver (wip/myprint.py) out of the translation; Lean checks it.
import Derived.Test.YtfiajahppimchaaPrx0
import Derived.Test.YtfiajahppimchaaPrx1
import Derived.Test.YtfiajahppimchaaPrx4
namespace Go.Proofs.Ytfiajahppimchaa.Pr
open Go.Proofs.Ytfiajahppimchaa.Do
open Go.RowKit Go.Proofs.YtfiajahppimchaaW.PrintWords Go.Proofs.YtfiajahppimchaaW.PrintLast Go.Proofs.YtfiajahppimchaaW.PrintMore
attribute [local go_sem] max2_int min2_int max_two min_two max_three min_three max_four min_four   -- for this text's walks alone
set_option linter.unusedVariables false
set_option linter.unusedSimpArgs false

/-! ### jacquardlaw01_WordFits: function 10 -/
mutual
def jacquardlaw01_WordFits.l0 : Nat → Int → Int → Bool → Bool → Int → Option (Bool)
  | 0, _, _, _, _, _ => none
  | k + 1, x0, x1, x5, x6, x7 => if x7 ≤ 32 then ((jacquardlaw01_does.f 8 x0 (wrap32 (wrap64 (32 - x7)))).bind fun t211 => ((word_Fits.f x0 x7).bind fun t212 => ((jacquardlaw01_does.f 10 t211 (wrap32 (wrap64 (32 - x7)))).bind fun t213 => (if (t212 != (t213 == x0)) = true then (some false) else (if x6 = true then (if t212 = true then ((word_Fits.f (Go.bits .xor .i32 (-1) x0) x7).bind fun t214 => (if (t212 != t214) = true then (some false) else (jacquardlaw01_WordFits.l0 k x0 x1 x5 t212 (wrap64 (x7 + 1))))) else (some false)) else ((word_Fits.f (Go.bits .xor .i32 (-1) x0) x7).bind fun t215 => (if (t212 != t215) = true then (some false) else (jacquardlaw01_WordFits.l0 k x0 x1 x5 t212 (wrap64 (x7 + 1)))))))))) else (if x1 > 0 then (jacquardlaw01_WordFits.j1 k x0 x5 x6 x1 (decide (x1 ≤ 32))) else (jacquardlaw01_WordFits.j1 k x0 x5 x6 x1 false))
def jacquardlaw01_WordFits.j1 : Nat → Int → Bool → Bool → Int → Bool → Option (Bool)
  | 0, _, _, _, _, _ => none
  | k + 1, x0, x5, x6, x10, x57 => if x57 = true then (if x5 = true then (if x6 = true then ((word_Fits.f x0 (wrap64 (x10 + 32))).bind fun t216 => (if (wrap64 (x10 + 32)) > 32 then (if (t216 == true) = true then ((word_Fits.f x0 0).bind fun t217 => (some (t217 == (x0 == 0)))) else (some false)) else (if (t216 == (x0 == 0)) = true then ((word_Fits.f x0 0).bind fun t218 => (some (t218 == (x0 == 0)))) else (some false)))) else (some false)) else (some false)) else (if x5 = true then (if x6 = true then ((word_Fits.f x0 x10).bind fun t219 => (if x10 > 32 then (if (t219 == true) = true then ((word_Fits.f x0 0).bind fun t220 => (some (t220 == (x0 == 0)))) else (some false)) else (if (t219 == (x0 == 0)) = true then ((word_Fits.f x0 0).bind fun t221 => (some (t221 == (x0 == 0)))) else (some false)))) else (some false)) else (some false))
end
def jacquardlaw01_WordFits.f (k : Nat) (a0 : Int) (a1 : Int) : Option (Bool) := (jacquardlaw01_shown.f).bind fun t210 => (jacquardlaw01_WordFits.l0 k a0 a1 t210 (a0 == 0) 1)
theorem jacquardlaw01_WordFits.mono_l : ∀ k, (∀ y0 y1 y2 y3 y4, LeO (jacquardlaw01_WordFits.l0 k y0 y1 y2 y3 y4) (jacquardlaw01_WordFits.l0 (k + 1) y0 y1 y2 y3 y4)) ∧ (∀ y0 y1 y2 y3 y4, LeO (jacquardlaw01_WordFits.j1 k y0 y1 y2 y3 y4) (jacquardlaw01_WordFits.j1 (k + 1) y0 y1 y2 y3 y4))
  | 0 => ⟨fun _ _ _ _ _ r h => by simp [jacquardlaw01_WordFits.l0] at h, fun _ _ _ _ _ r h => by simp [jacquardlaw01_WordFits.j1] at h⟩
  | k + 1 => by
    obtain ⟨ih0, ih1⟩ := jacquardlaw01_WordFits.mono_l k
    refine ⟨?_, ?_⟩
    · intro y0 y1 y2 y3 y4
      unfold jacquardlaw01_WordFits.l0
      repeat' first
      | (with_reducible exact ih0 _ _ _ _ _)
      | (with_reducible exact ih1 _ _ _ _ _)
      | (with_reducible exact LeO.refl _)
      | (with_reducible exact LeO.none _)
      | (with_reducible refine LeO.ite ?_ ?_)
      | (with_reducible refine LeO.bind ?_ (fun _ => ?_))
      | exact ih0 _ _ _ _ _
      | exact ih1 _ _ _ _ _
      | exact LeO.none _
      | refine LeO.ite ?_ ?_
      | refine LeO.bind ?_ (fun _ => ?_)
    · intro y0 y1 y2 y3 y4
      unfold jacquardlaw01_WordFits.j1
      repeat' first
      | (with_reducible exact ih0 _ _ _ _ _)
      | (with_reducible exact ih1 _ _ _ _ _)
      | (with_reducible exact LeO.refl _)
      | (with_reducible exact LeO.none _)
      | (with_reducible refine LeO.ite ?_ ?_)
      | (with_reducible refine LeO.bind ?_ (fun _ => ?_))
      | exact ih0 _ _ _ _ _
      | exact ih1 _ _ _ _ _
      | exact LeO.none _
      | refine LeO.ite ?_ ?_
      | refine LeO.bind ?_ (fun _ => ?_)
theorem jacquardlaw01_WordFits.mono : ∀ a0 a1 k, LeO (jacquardlaw01_WordFits.f k a0 a1) (jacquardlaw01_WordFits.f (k + 1) a0 a1) := by
  intro a0 a1 k
  obtain ⟨ih0, ih1⟩ := jacquardlaw01_WordFits.mono_l k
  unfold jacquardlaw01_WordFits.f
  repeat' first
      | (with_reducible exact ih0 _ _ _ _ _)
      | (with_reducible exact ih1 _ _ _ _ _)
      | (with_reducible exact LeO.refl _)
      | (with_reducible exact LeO.none _)
      | (with_reducible refine LeO.ite ?_ ?_)
      | (with_reducible refine LeO.bind ?_ (fun _ => ?_))
      | exact ih0 _ _ _ _ _
      | exact ih1 _ _ _ _ _
      | exact LeO.none _
      | refine LeO.ite ?_ ?_
      | refine LeO.bind ?_ (fun _ => ?_)
set_option maxHeartbeats 8000000 in
set_option maxRecDepth 100000 in
theorem jacquardlaw01_WordFits.calls (k : Nat) (a0 : Int) (a1 : Int) (r : Bool) (w : World) (h : jacquardlaw01_WordFits.f k a0 a1 = some r) :
    Calls Try.prog 10 #[.int .i32 a0, .int .i64 a1] w fun e w' => e = .returned (.bool r) ∧ Below w.heap.size w w' := by
  have HB := Aside0.mk (Below.refl w.heap.size w)
  have H : ((jacquardlaw01_shown.f).bind fun t210 => (jacquardlaw01_WordFits.l0 k a0 a1 t210 (a0 == 0) 1)) = some r := h
  clear h
  replace H := Option.bind_eq_some_iff.mp H
  obtain ⟨t210, A30, H⟩ := H
  replace H : (jacquardlaw01_WordFits.l0 k a0 a1 t210 (a0 == 0) 1) = some r := H
  have A3 := Aside0.mk A30
  clear A30
  have H' := Aside0.mk H
  clear H
  go_enter Try.func10, Try.ntmps10
  go_wp2_with (first | ((with_reducible refine gate_callee (f := 11) rfl ?_); refine goesL_ (some 11) rfl rfl Try.func11 (by kernel_rfl) rfl #[] rfl (by (try simp only [List.map_toArray, List.map_cons, List.map_nil]); first | done | rfl | (simp only [List.length_drop, List.length_take]; rfl)) ?_; (with_reducible refine (jacquardlaw01_shown.calls  t210 _ A3.out).mono ?_); rintro e w4 ⟨rfl, hb⟩; refine ⟨_, rfl, ?_⟩; have n0_ := Aside0.mk (below_step (by repeat (first | (with_reducible first | exact HB.out | apply below_alloc | apply pw_below_drewN | apply below_drew1) | exact HB.out)) hb); clear HB; have HB := n0_; clear n0_; (try clear hb); (try clear hb2); (try clear hk); (try clear hi)))
  go_loopg [6, 7] k (fun kq v6 v7 w' => ∃ (x6_1 : Bool) (x7_1 : Int), v6 = .bool x6_1 ∧ v7 = .int .i64 x7_1 ∧ Aside0 (jacquardlaw01_WordFits.l0 kq a0 a1 t210 x6_1 x7_1 = some r) ∧ Aside0 (kq ≤ k) ∧ Aside0 (Below w.heap.size w w'))
  case atStart => exact ⟨((a0 == 0)), (1), (by first | rfl | (simp; done) | (simp [*]; done)), (by first | rfl | (simp; done) | (simp [*]; done)), H', ⟨Nat.le_refl _⟩, ⟨by repeat (first | (with_reducible first | exact HB.out | apply below_alloc | apply pw_below_drewN | apply below_drew1) | exact HB.out)⟩⟩
  case round =>
    clear H'
    try clear c1
    try clear p2
    obtain ⟨x6_1, x7_1, rfl, rfl, HA, HK1, HB⟩ := hrel
    cases gk with
    | zero => exact absurd HA.out (by simp [jacquardlaw01_WordFits.l0])
    | succ k1 =>
      have H := HA.out
      clear HA
      simp only [jacquardlaw01_WordFits.l0] at H
      by_cases c5 : x7_1 ≤ 32
      · rw [if_pos c5] at H
        have c5b0 : decide (x7_1 ≤ 32) = true := decide_eq_true c5
        clear c5
        replace H := Option.bind_eq_some_iff.mp H
        obtain ⟨t211, A60, H⟩ := H
        replace H : ((word_Fits.f a0 x7_1).bind fun t212 => ((jacquardlaw01_does.f 10 t211 (wrap32 (wrap64 (32 - x7_1)))).bind fun t213 => (if (t212 != (t213 == a0)) = true then (some false) else (if x6_1 = true then (if t212 = true then ((word_Fits.f (Go.bits .xor .i32 (-1) a0) x7_1).bind fun t214 => (if (t212 != t214) = true then (some false) else (jacquardlaw01_WordFits.l0 k1 a0 a1 t210 t212 (wrap64 (x7_1 + 1))))) else (some false)) else ((word_Fits.f (Go.bits .xor .i32 (-1) a0) x7_1).bind fun t215 => (if (t212 != t215) = true then (some false) else (jacquardlaw01_WordFits.l0 k1 a0 a1 t210 t212 (wrap64 (x7_1 + 1))))))))) = some r := H
        have A6 := Aside0.mk A60
        clear A60
        replace H := Option.bind_eq_some_iff.mp H
        obtain ⟨t212, A70, H⟩ := H
        replace H : ((jacquardlaw01_does.f 10 t211 (wrap32 (wrap64 (32 - x7_1)))).bind fun t213 => (if (t212 != (t213 == a0)) = true then (some false) else (if x6_1 = true then (if t212 = true then ((word_Fits.f (Go.bits .xor .i32 (-1) a0) x7_1).bind fun t214 => (if (t212 != t214) = true then (some false) else (jacquardlaw01_WordFits.l0 k1 a0 a1 t210 t212 (wrap64 (x7_1 + 1))))) else (some false)) else ((word_Fits.f (Go.bits .xor .i32 (-1) a0) x7_1).bind fun t215 => (if (t212 != t215) = true then (some false) else (jacquardlaw01_WordFits.l0 k1 a0 a1 t210 t212 (wrap64 (x7_1 + 1)))))))) = some r := H
        have A7 := Aside0.mk A70
        clear A70
        replace H := Option.bind_eq_some_iff.mp H
        obtain ⟨t213, A80, H⟩ := H
        replace H : (if (t212 != (t213 == a0)) = true then (some false) else (if x6_1 = true then (if t212 = true then ((word_Fits.f (Go.bits .xor .i32 (-1) a0) x7_1).bind fun t214 => (if (t212 != t214) = true then (some false) else (jacquardlaw01_WordFits.l0 k1 a0 a1 t210 t212 (wrap64 (x7_1 + 1))))) else (some false)) else ((word_Fits.f (Go.bits .xor .i32 (-1) a0) x7_1).bind fun t215 => (if (t212 != t215) = true then (some false) else (jacquardlaw01_WordFits.l0 k1 a0 a1 t210 t212 (wrap64 (x7_1 + 1))))))) = some r := H
        have A8 := Aside0.mk A80
        clear A80
        by_cases c9 : (t212 != (t213 == a0)) = true
        · rw [if_pos c9] at H
          have c9b0 : (t212 != (t213 == a0)) = true := c9
          (try (have c9b1 : decide (t212 = (t213 == a0)) = false := by simpa using c9))
          (try (have c9b2 : (t212 == (t213 == a0)) = false := by simpa using c9))
          (try (have c9b3 : ¬ (t212 = (t213 == a0)) := by simpa using c9))
          clear c9
          obtain rfl := Option.some.inj H
          go_wp2_with (first | ((with_reducible refine gate_callee (f := 16) rfl ?_); refine goesL_ (some 22) rfl rfl Try.func16 (by kernel_rfl) rfl #[.int .i64 8, .int .i32 a0, .int .i32 (wrap32 (wrap64 (32 - x7_1)))] rfl (by (try simp only [List.map_toArray, List.map_cons, List.map_nil]); first | done | rfl | (simp only [List.length_drop, List.length_take]; rfl)) ?_; (with_reducible refine (jacquardlaw01_does.calls 8 a0 (wrap32 (wrap64 (32 - x7_1))) t211 _ A6.out).mono ?_); rintro e w10 ⟨rfl, hb⟩; refine ⟨_, rfl, ?_⟩; have n0_ := Aside0.mk (below_step (by repeat (first | (with_reducible first | exact HB.out | apply below_alloc | apply pw_below_drewN | apply below_drew1) | exact HB.out)) hb); clear HB; have HB := n0_; clear n0_; (try clear hb); (try clear hb2); (try clear hk); (try clear hi)) | ((with_reducible refine gate_callee (f := 17) rfl ?_); refine goesL_ (some 25) rfl rfl Try.func17 (by kernel_rfl) rfl #[.int .i32 a0, .int .i64 x7_1] rfl (by (try simp only [List.map_toArray, List.map_cons, List.map_nil]); first | done | rfl | (simp only [List.length_drop, List.length_take]; rfl)) ?_; (with_reducible refine (word_Fits.calls a0 x7_1 t212 _ A7.out).mono ?_); rintro e w' ⟨rfl, ⟨nd, rfl⟩⟩; refine ⟨_, rfl, ?_⟩) | ((with_reducible refine gate_callee (f := 16) rfl ?_); refine goesL_ (some 31) rfl rfl Try.func16 (by kernel_rfl) rfl #[.int .i64 10, .int .i32 t211, .int .i32 (wrap32 (wrap64 (32 - x7_1)))] rfl (by (try simp only [List.map_toArray, List.map_cons, List.map_nil]); first | done | rfl | (simp only [List.length_drop, List.length_take]; rfl)) ?_; (with_reducible refine (jacquardlaw01_does.calls 10 t211 (wrap32 (wrap64 (32 - x7_1))) t213 _ A8.out).mono ?_); rintro e w11 ⟨rfl, hb⟩; refine ⟨_, rfl, ?_⟩; have n0_ := Aside0.mk (below_step (by repeat (first | (with_reducible first | exact HB.out | apply below_alloc | apply pw_below_drewN | apply below_drew1) | exact HB.out)) hb); clear HB; have HB := n0_; clear n0_; (try clear hb); (try clear hb2); (try clear hk); (try clear hi)))
          go_ret
          exact ⟨by first | rfl | (simp [errW_none, errW_some] <;> rfl) | (simp [*, errW_none, errW_some] <;> rfl), by repeat (first | (with_reducible first | exact HB.out | apply below_alloc | apply pw_below_drewN | apply below_drew1) | exact HB.out)⟩
        · rw [if_neg c9] at H
          have c9b0 : (t212 != (t213 == a0)) = false := by simpa using c9
          (try (have c9b1 : decide (t212 = (t213 == a0)) = true := by simpa using c9))
          (try (have c9b2 : (t212 == (t213 == a0)) = true := by simpa using c9))
          clear c9
          by_cases c12 : x6_1 = true
          · subst c12
            have H1 : (if t212 = true then ((word_Fits.f (Go.bits .xor .i32 (-1) a0) x7_1).bind fun t214 => (if (t212 != t214) = true then (some false) else (jacquardlaw01_WordFits.l0 k1 a0 a1 t210 t212 (wrap64 (x7_1 + 1))))) else (some false)) = some r := by rw [if_pos rfl] at H; exact H
            clear H
            have H := H1
            clear H1
            by_cases c13 : t212 = true
            · subst c13
              have H1 : ((word_Fits.f (Go.bits .xor .i32 (-1) a0) x7_1).bind fun t214 => (if (true != t214) = true then (some false) else (jacquardlaw01_WordFits.l0 k1 a0 a1 t210 true (wrap64 (x7_1 + 1))))) = some r := by rw [if_pos rfl] at H; exact H
              clear H
              have H := H1
              clear H1
              replace H := Option.bind_eq_some_iff.mp H
              obtain ⟨t214, A140, H⟩ := H
              replace H : (if (true != t214) = true then (some false) else (jacquardlaw01_WordFits.l0 k1 a0 a1 t210 true (wrap64 (x7_1 + 1)))) = some r := H
              have A14 := Aside0.mk A140
              clear A140
              by_cases c15 : (true != t214) = true
              · rw [if_pos c15] at H
                have c15b0 : (true != t214) = true := c15
                (try (have c15b1 : decide (true = t214) = false := by simpa using c15))
                (try (have c15b2 : (true == t214) = false := by simpa using c15))
                (try (have c15b3 : ¬ (true = t214) := by simpa using c15))
                clear c15
                obtain rfl := Option.some.inj H
                go_wp2_with (first | ((with_reducible refine gate_callee (f := 16) rfl ?_); refine goesL_ (some 22) rfl rfl Try.func16 (by kernel_rfl) rfl #[.int .i64 8, .int .i32 a0, .int .i32 (wrap32 (wrap64 (32 - x7_1)))] rfl (by (try simp only [List.map_toArray, List.map_cons, List.map_nil]); first | done | rfl | (simp only [List.length_drop, List.length_take]; rfl)) ?_; (with_reducible refine (jacquardlaw01_does.calls 8 a0 (wrap32 (wrap64 (32 - x7_1))) t211 _ A6.out).mono ?_); rintro e w16 ⟨rfl, hb⟩; refine ⟨_, rfl, ?_⟩; have n0_ := Aside0.mk (below_step (by repeat (first | (with_reducible first | exact HB.out | apply below_alloc | apply pw_below_drewN | apply below_drew1) | exact HB.out)) hb); clear HB; have HB := n0_; clear n0_; (try clear hb); (try clear hb2); (try clear hk); (try clear hi)) | ((with_reducible refine gate_callee (f := 17) rfl ?_); refine goesL_ (some 25) rfl rfl Try.func17 (by kernel_rfl) rfl #[.int .i32 a0, .int .i64 x7_1] rfl (by (try simp only [List.map_toArray, List.map_cons, List.map_nil]); first | done | rfl | (simp only [List.length_drop, List.length_take]; rfl)) ?_; (with_reducible refine (word_Fits.calls a0 x7_1 true _ A7.out).mono ?_); rintro e w' ⟨rfl, ⟨nd, rfl⟩⟩; refine ⟨_, rfl, ?_⟩) | ((with_reducible refine gate_callee (f := 16) rfl ?_); refine goesL_ (some 31) rfl rfl Try.func16 (by kernel_rfl) rfl #[.int .i64 10, .int .i32 t211, .int .i32 (wrap32 (wrap64 (32 - x7_1)))] rfl (by (try simp only [List.map_toArray, List.map_cons, List.map_nil]); first | done | rfl | (simp only [List.length_drop, List.length_take]; rfl)) ?_; (with_reducible refine (jacquardlaw01_does.calls 10 t211 (wrap32 (wrap64 (32 - x7_1))) t213 _ A8.out).mono ?_); rintro e w17 ⟨rfl, hb⟩; refine ⟨_, rfl, ?_⟩; have n0_ := Aside0.mk (below_step (by repeat (first | (with_reducible first | exact HB.out | apply below_alloc | apply pw_below_drewN | apply below_drew1) | exact HB.out)) hb); clear HB; have HB := n0_; clear n0_; (try clear hb); (try clear hb2); (try clear hk); (try clear hi)) | (go_at_call 17; (with_reducible refine (word_Fits.calls (Go.bits .xor .i32 (-1) a0) x7_1 t214 _ A14.out).mono ?_); rintro e w' ⟨rfl, ⟨nd, rfl⟩⟩))
                go_ret
                exact ⟨by first | rfl | (simp [errW_none, errW_some] <;> rfl) | (simp [*, errW_none, errW_some] <;> rfl), by repeat (first | (with_reducible first | exact HB.out | apply below_alloc | apply pw_below_drewN | apply below_drew1) | exact HB.out)⟩
              · rw [if_neg c15] at H
                have c15b0 : (true != t214) = false := by simpa using c15
                (try (have c15b1 : decide (true = t214) = true := by simpa using c15))
                (try (have c15b2 : (true == t214) = true := by simpa using c15))
                clear c15
                have H' := Aside0.mk H
                clear H
                go_wp2_with (first | ((with_reducible refine gate_callee (f := 16) rfl ?_); refine goesL_ (some 22) rfl rfl Try.func16 (by kernel_rfl) rfl #[.int .i64 8, .int .i32 a0, .int .i32 (wrap32 (wrap64 (32 - x7_1)))] rfl (by (try simp only [List.map_toArray, List.map_cons, List.map_nil]); first | done | rfl | (simp only [List.length_drop, List.length_take]; rfl)) ?_; (with_reducible refine (jacquardlaw01_does.calls 8 a0 (wrap32 (wrap64 (32 - x7_1))) t211 _ A6.out).mono ?_); rintro e w18 ⟨rfl, hb⟩; refine ⟨_, rfl, ?_⟩; have n0_ := Aside0.mk (below_step (by repeat (first | (with_reducible first | exact HB.out | apply below_alloc | apply pw_below_drewN | apply below_drew1) | exact HB.out)) hb); clear HB; have HB := n0_; clear n0_; (try clear hb); (try clear hb2); (try clear hk); (try clear hi)) | ((with_reducible refine gate_callee (f := 17) rfl ?_); refine goesL_ (some 25) rfl rfl Try.func17 (by kernel_rfl) rfl #[.int .i32 a0, .int .i64 x7_1] rfl (by (try simp only [List.map_toArray, List.map_cons, List.map_nil]); first | done | rfl | (simp only [List.length_drop, List.length_take]; rfl)) ?_; (with_reducible refine (word_Fits.calls a0 x7_1 true _ A7.out).mono ?_); rintro e w' ⟨rfl, ⟨nd, rfl⟩⟩; refine ⟨_, rfl, ?_⟩) | ((with_reducible refine gate_callee (f := 16) rfl ?_); refine goesL_ (some 31) rfl rfl Try.func16 (by kernel_rfl) rfl #[.int .i64 10, .int .i32 t211, .int .i32 (wrap32 (wrap64 (32 - x7_1)))] rfl (by (try simp only [List.map_toArray, List.map_cons, List.map_nil]); first | done | rfl | (simp only [List.length_drop, List.length_take]; rfl)) ?_; (with_reducible refine (jacquardlaw01_does.calls 10 t211 (wrap32 (wrap64 (32 - x7_1))) t213 _ A8.out).mono ?_); rintro e w19 ⟨rfl, hb⟩; refine ⟨_, rfl, ?_⟩; have n0_ := Aside0.mk (below_step (by repeat (first | (with_reducible first | exact HB.out | apply below_alloc | apply pw_below_drewN | apply below_drew1) | exact HB.out)) hb); clear HB; have HB := n0_; clear n0_; (try clear hb); (try clear hb2); (try clear hk); (try clear hi)) | (go_at_call 17; (with_reducible refine (word_Fits.calls (Go.bits .xor .i32 (-1) a0) x7_1 t214 _ A14.out).mono ?_); rintro e w' ⟨rfl, ⟨nd, rfl⟩⟩))
                go_roundg k1
                case measure => have := HK1.out; omega
                case rel => exact ⟨(true), (wrap64 (x7_1 + 1)), (by first | rfl | (simp; done) | (simp [*]; done)), (by first | rfl | (simp; done) | (simp [*]; done)), H', ⟨by have := HK1.out; omega⟩, ⟨by repeat (first | (with_reducible first | exact HB.out | apply below_alloc | apply pw_below_drewN | apply below_drew1) | exact HB.out)⟩⟩
            · replace c13 := Bool.eq_false_iff.mpr c13
              subst c13
              have H1 : (some false) = some r := by rw [if_neg (show ¬ (false = true) by decide)] at H; exact H
              clear H
              have H := H1
              clear H1
              obtain rfl := Option.some.inj H
              go_wp2_with (first | ((with_reducible refine gate_callee (f := 16) rfl ?_); refine goesL_ (some 22) rfl rfl Try.func16 (by kernel_rfl) rfl #[.int .i64 8, .int .i32 a0, .int .i32 (wrap32 (wrap64 (32 - x7_1)))] rfl (by (try simp only [List.map_toArray, List.map_cons, List.map_nil]); first | done | rfl | (simp only [List.length_drop, List.length_take]; rfl)) ?_; (with_reducible refine (jacquardlaw01_does.calls 8 a0 (wrap32 (wrap64 (32 - x7_1))) t211 _ A6.out).mono ?_); rintro e w20 ⟨rfl, hb⟩; refine ⟨_, rfl, ?_⟩; have n0_ := Aside0.mk (below_step (by repeat (first | (with_reducible first | exact HB.out | apply below_alloc | apply pw_below_drewN | apply below_drew1) | exact HB.out)) hb); clear HB; have HB := n0_; clear n0_; (try clear hb); (try clear hb2); (try clear hk); (try clear hi)) | ((with_reducible refine gate_callee (f := 17) rfl ?_); refine goesL_ (some 25) rfl rfl Try.func17 (by kernel_rfl) rfl #[.int .i32 a0, .int .i64 x7_1] rfl (by (try simp only [List.map_toArray, List.map_cons, List.map_nil]); first | done | rfl | (simp only [List.length_drop, List.length_take]; rfl)) ?_; (with_reducible refine (word_Fits.calls a0 x7_1 false _ A7.out).mono ?_); rintro e w' ⟨rfl, ⟨nd, rfl⟩⟩; refine ⟨_, rfl, ?_⟩) | ((with_reducible refine gate_callee (f := 16) rfl ?_); refine goesL_ (some 31) rfl rfl Try.func16 (by kernel_rfl) rfl #[.int .i64 10, .int .i32 t211, .int .i32 (wrap32 (wrap64 (32 - x7_1)))] rfl (by (try simp only [List.map_toArray, List.map_cons, List.map_nil]); first | done | rfl | (simp only [List.length_drop, List.length_take]; rfl)) ?_; (with_reducible refine (jacquardlaw01_does.calls 10 t211 (wrap32 (wrap64 (32 - x7_1))) t213 _ A8.out).mono ?_); rintro e w21 ⟨rfl, hb⟩; refine ⟨_, rfl, ?_⟩; have n0_ := Aside0.mk (below_step (by repeat (first | (with_reducible first | exact HB.out | apply below_alloc | apply pw_below_drewN | apply below_drew1) | exact HB.out)) hb); clear HB; have HB := n0_; clear n0_; (try clear hb); (try clear hb2); (try clear hk); (try clear hi)))
              go_ret
              exact ⟨by first | rfl | (simp [errW_none, errW_some] <;> rfl) | (simp [*, errW_none, errW_some] <;> rfl), by repeat (first | (with_reducible first | exact HB.out | apply below_alloc | apply pw_below_drewN | apply below_drew1) | exact HB.out)⟩
          · replace c12 := Bool.eq_false_iff.mpr c12
            subst c12
            have H1 : ((word_Fits.f (Go.bits .xor .i32 (-1) a0) x7_1).bind fun t215 => (if (t212 != t215) = true then (some false) else (jacquardlaw01_WordFits.l0 k1 a0 a1 t210 t212 (wrap64 (x7_1 + 1))))) = some r := by rw [if_neg (show ¬ (false = true) by decide)] at H; exact H
            clear H
            have H := H1
            clear H1
            replace H := Option.bind_eq_some_iff.mp H
            obtain ⟨t215, A220, H⟩ := H
            replace H : (if (t212 != t215) = true then (some false) else (jacquardlaw01_WordFits.l0 k1 a0 a1 t210 t212 (wrap64 (x7_1 + 1)))) = some r := H
            have A22 := Aside0.mk A220
            clear A220
            by_cases c23 : (t212 != t215) = true
            · rw [if_pos c23] at H
              have c23b0 : (t212 != t215) = true := c23
              (try (have c23b1 : decide (t212 = t215) = false := by simpa using c23))
              (try (have c23b2 : (t212 == t215) = false := by simpa using c23))
              (try (have c23b3 : ¬ (t212 = t215) := by simpa using c23))
              clear c23
              obtain rfl := Option.some.inj H
              go_wp2_with (first | ((with_reducible refine gate_callee (f := 16) rfl ?_); refine goesL_ (some 22) rfl rfl Try.func16 (by kernel_rfl) rfl #[.int .i64 8, .int .i32 a0, .int .i32 (wrap32 (wrap64 (32 - x7_1)))] rfl (by (try simp only [List.map_toArray, List.map_cons, List.map_nil]); first | done | rfl | (simp only [List.length_drop, List.length_take]; rfl)) ?_; (with_reducible refine (jacquardlaw01_does.calls 8 a0 (wrap32 (wrap64 (32 - x7_1))) t211 _ A6.out).mono ?_); rintro e w24 ⟨rfl, hb⟩; refine ⟨_, rfl, ?_⟩; have n0_ := Aside0.mk (below_step (by repeat (first | (with_reducible first | exact HB.out | apply below_alloc | apply pw_below_drewN | apply below_drew1) | exact HB.out)) hb); clear HB; have HB := n0_; clear n0_; (try clear hb); (try clear hb2); (try clear hk); (try clear hi)) | ((with_reducible refine gate_callee (f := 17) rfl ?_); refine goesL_ (some 25) rfl rfl Try.func17 (by kernel_rfl) rfl #[.int .i32 a0, .int .i64 x7_1] rfl (by (try simp only [List.map_toArray, List.map_cons, List.map_nil]); first | done | rfl | (simp only [List.length_drop, List.length_take]; rfl)) ?_; (with_reducible refine (word_Fits.calls a0 x7_1 t212 _ A7.out).mono ?_); rintro e w' ⟨rfl, ⟨nd, rfl⟩⟩; refine ⟨_, rfl, ?_⟩) | ((with_reducible refine gate_callee (f := 16) rfl ?_); refine goesL_ (some 31) rfl rfl Try.func16 (by kernel_rfl) rfl #[.int .i64 10, .int .i32 t211, .int .i32 (wrap32 (wrap64 (32 - x7_1)))] rfl (by (try simp only [List.map_toArray, List.map_cons, List.map_nil]); first | done | rfl | (simp only [List.length_drop, List.length_take]; rfl)) ?_; (with_reducible refine (jacquardlaw01_does.calls 10 t211 (wrap32 (wrap64 (32 - x7_1))) t213 _ A8.out).mono ?_); rintro e w25 ⟨rfl, hb⟩; refine ⟨_, rfl, ?_⟩; have n0_ := Aside0.mk (below_step (by repeat (first | (with_reducible first | exact HB.out | apply below_alloc | apply pw_below_drewN | apply below_drew1) | exact HB.out)) hb); clear HB; have HB := n0_; clear n0_; (try clear hb); (try clear hb2); (try clear hk); (try clear hi)) | (go_at_call 17; (with_reducible refine (word_Fits.calls (Go.bits .xor .i32 (-1) a0) x7_1 t215 _ A22.out).mono ?_); rintro e w' ⟨rfl, ⟨nd, rfl⟩⟩))
              go_ret
              exact ⟨by first | rfl | (simp [errW_none, errW_some] <;> rfl) | (simp [*, errW_none, errW_some] <;> rfl), by repeat (first | (with_reducible first | exact HB.out | apply below_alloc | apply pw_below_drewN | apply below_drew1) | exact HB.out)⟩
            · rw [if_neg c23] at H
              have c23b0 : (t212 != t215) = false := by simpa using c23
              (try (have c23b1 : decide (t212 = t215) = true := by simpa using c23))
              (try (have c23b2 : (t212 == t215) = true := by simpa using c23))
              clear c23
              have H' := Aside0.mk H
              clear H
              go_wp2_with (first | ((with_reducible refine gate_callee (f := 16) rfl ?_); refine goesL_ (some 22) rfl rfl Try.func16 (by kernel_rfl) rfl #[.int .i64 8, .int .i32 a0, .int .i32 (wrap32 (wrap64 (32 - x7_1)))] rfl (by (try simp only [List.map_toArray, List.map_cons, List.map_nil]); first | done | rfl | (simp only [List.length_drop, List.length_take]; rfl)) ?_; (with_reducible refine (jacquardlaw01_does.calls 8 a0 (wrap32 (wrap64 (32 - x7_1))) t211 _ A6.out).mono ?_); rintro e w26 ⟨rfl, hb⟩; refine ⟨_, rfl, ?_⟩; have n0_ := Aside0.mk (below_step (by repeat (first | (with_reducible first | exact HB.out | apply below_alloc | apply pw_below_drewN | apply below_drew1) | exact HB.out)) hb); clear HB; have HB := n0_; clear n0_; (try clear hb); (try clear hb2); (try clear hk); (try clear hi)) | ((with_reducible refine gate_callee (f := 17) rfl ?_); refine goesL_ (some 25) rfl rfl Try.func17 (by kernel_rfl) rfl #[.int .i32 a0, .int .i64 x7_1] rfl (by (try simp only [List.map_toArray, List.map_cons, List.map_nil]); first | done | rfl | (simp only [List.length_drop, List.length_take]; rfl)) ?_; (with_reducible refine (word_Fits.calls a0 x7_1 t212 _ A7.out).mono ?_); rintro e w' ⟨rfl, ⟨nd, rfl⟩⟩; refine ⟨_, rfl, ?_⟩) | ((with_reducible refine gate_callee (f := 16) rfl ?_); refine goesL_ (some 31) rfl rfl Try.func16 (by kernel_rfl) rfl #[.int .i64 10, .int .i32 t211, .int .i32 (wrap32 (wrap64 (32 - x7_1)))] rfl (by (try simp only [List.map_toArray, List.map_cons, List.map_nil]); first | done | rfl | (simp only [List.length_drop, List.length_take]; rfl)) ?_; (with_reducible refine (jacquardlaw01_does.calls 10 t211 (wrap32 (wrap64 (32 - x7_1))) t213 _ A8.out).mono ?_); rintro e w27 ⟨rfl, hb⟩; refine ⟨_, rfl, ?_⟩; have n0_ := Aside0.mk (below_step (by repeat (first | (with_reducible first | exact HB.out | apply below_alloc | apply pw_below_drewN | apply below_drew1) | exact HB.out)) hb); clear HB; have HB := n0_; clear n0_; (try clear hb); (try clear hb2); (try clear hk); (try clear hi)) | (go_at_call 17; (with_reducible refine (word_Fits.calls (Go.bits .xor .i32 (-1) a0) x7_1 t215 _ A22.out).mono ?_); rintro e w' ⟨rfl, ⟨nd, rfl⟩⟩))
              go_roundg k1
              case measure => have := HK1.out; omega
              case rel => exact ⟨(t212), (wrap64 (x7_1 + 1)), (by first | rfl | (simp; done) | (simp [*]; done)), (by first | rfl | (simp; done) | (simp [*]; done)), H', ⟨by have := HK1.out; omega⟩, ⟨by repeat (first | (with_reducible first | exact HB.out | apply below_alloc | apply pw_below_drewN | apply below_drew1) | exact HB.out)⟩⟩
      · rw [if_neg c5] at H
        have c5b0 : decide (x7_1 ≤ 32) = false := decide_eq_false c5
        clear c5
        have HC28 := Aside0.mk H
        clear H
        go_upto_region 12 with (fail)
        go_cut [57] (fun v57 wc => ∃ (kq : Nat) (x57_27 : Bool), v57 = .bool x57_27 ∧ Aside0 (jacquardlaw01_WordFits.j1 kq a0 t210 x6_1 a1 x57_27 = some r) ∧ Aside0 (kq ≤ k1) ∧ Aside0 (Below w.heap.size w wc))
        case first =>
          have H := HC28.out
          clear HC28
          by_cases c29 : a1 > 0
          · rw [if_pos c29] at H
            have c29b0 : decide (0 < a1) = true := decide_eq_true c29
            clear c29
            (first | rw [c29b0] | (simp only [i64_w, i32_w]; rw [c29b0]) | skip)
            have H' := Aside0.mk H
            clear H
            go_wp2
            go_meet
            case rel => exact ⟨_, (decide (a1 ≤ 32)), (by first | rfl | (simp; done) | (simp [*]; done)), H', ⟨by have := HK1.out; first | omega | exact Nat.le_refl _⟩, ⟨by repeat (first | (with_reducible first | exact HB.out | apply below_alloc | apply pw_below_drewN | apply below_drew1) | exact HB.out)⟩⟩
          · rw [if_neg c29] at H
            have c29b0 : decide (0 < a1) = false := decide_eq_false c29
            clear c29
            (first | rw [c29b0] | (simp only [i64_w, i32_w]; rw [c29b0]) | skip)
            have H' := Aside0.mk H
            clear H
            go_wp2
            go_meet
            case rel => exact ⟨_, (false), (by first | rfl | (simp; done) | (simp [*]; done)), H', ⟨by have := HK1.out; first | omega | exact Nat.le_refl _⟩, ⟨by repeat (first | (with_reducible first | exact HB.out | apply below_alloc | apply pw_below_drewN | apply below_drew1) | exact HB.out)⟩⟩
        case rest =>
          clear HC28
          try clear c1
          try clear c2
          try clear p2
          try clear p3
          try clear c5
          try clear c5b0
          try clear p6
          try clear c9
          try clear c9b0
          try clear c9b1
          try clear c9b2
          try clear c10
          try clear c11
          try clear c12
          try clear c13
          try clear c15
          try clear c15b0
          try clear c15b1
          try clear c15b2
          try clear c16
          try clear c17
          try clear c23
          try clear c23b0
          try clear c23b1
          try clear c23b2
          try clear c29
          try clear c29b0
          try clear p2
          obtain ⟨kq, x57_27, rfl, HA, HJ27, HB⟩ := hcut
          cases kq with
          | zero => exact absurd HA.out (by simp [jacquardlaw01_WordFits.j1])
          | succ kj27 =>
            have H := HA.out
            clear HA
            simp only [jacquardlaw01_WordFits.j1] at H
            by_cases c30 : x57_27 = true
            · subst c30
              have H1 : (if t210 = true then (if x6_1 = true then ((word_Fits.f a0 (wrap64 (a1 + 32))).bind fun t216 => (if (wrap64 (a1 + 32)) > 32 then (if (t216 == true) = true then ((word_Fits.f a0 0).bind fun t217 => (some (t217 == (a0 == 0)))) else (some false)) else (if (t216 == (a0 == 0)) = true then ((word_Fits.f a0 0).bind fun t218 => (some (t218 == (a0 == 0)))) else (some false)))) else (some false)) else (some false)) = some r := by rw [if_pos rfl] at H; exact H
              clear H
              have H := H1
              clear H1
              by_cases c31 : t210 = true
              · subst c31
                have H1 : (if x6_1 = true then ((word_Fits.f a0 (wrap64 (a1 + 32))).bind fun t216 => (if (wrap64 (a1 + 32)) > 32 then (if (t216 == true) = true then ((word_Fits.f a0 0).bind fun t217 => (some (t217 == (a0 == 0)))) else (some false)) else (if (t216 == (a0 == 0)) = true then ((word_Fits.f a0 0).bind fun t218 => (some (t218 == (a0 == 0)))) else (some false)))) else (some false)) = some r := by rw [if_pos rfl] at H; exact H
                clear H
                have H := H1
                clear H1
                by_cases c32 : x6_1 = true
                · subst c32
                  have H1 : ((word_Fits.f a0 (wrap64 (a1 + 32))).bind fun t216 => (if (wrap64 (a1 + 32)) > 32 then (if (t216 == true) = true then ((word_Fits.f a0 0).bind fun t217 => (some (t217 == (a0 == 0)))) else (some false)) else (if (t216 == (a0 == 0)) = true then ((word_Fits.f a0 0).bind fun t218 => (some (t218 == (a0 == 0)))) else (some false)))) = some r := by rw [if_pos rfl] at H; exact H
                  clear H
                  have H := H1
                  clear H1
                  replace H := Option.bind_eq_some_iff.mp H
                  obtain ⟨t216, A330, H⟩ := H
                  replace H : (if (wrap64 (a1 + 32)) > 32 then (if (t216 == true) = true then ((word_Fits.f a0 0).bind fun t217 => (some (t217 == (a0 == 0)))) else (some false)) else (if (t216 == (a0 == 0)) = true then ((word_Fits.f a0 0).bind fun t218 => (some (t218 == (a0 == 0)))) else (some false))) = some r := H
                  have A33 := Aside0.mk A330
                  clear A330
                  by_cases c34 : (wrap64 (a1 + 32)) > 32
                  · rw [if_pos c34] at H
                    have c34b0 : decide (32 < (wrap64 (a1 + 32))) = true := decide_eq_true c34
                    clear c34
                    by_cases c35 : (t216 == true) = true
                    · rw [if_pos c35] at H
                      have c35b0 : (t216 == true) = true := c35
                      (try (have c35b1 : decide (t216 = true) = true := by simpa using c35))
                      (try (have c35b2 : (t216 == true) = true := by simpa using c35))
                      clear c35
                      replace H := Option.bind_eq_some_iff.mp H
                      obtain ⟨t217, A360, H⟩ := H
                      replace H : (some (t217 == (a0 == 0))) = some r := H
                      have A36 := Aside0.mk A360
                      clear A360
                      obtain rfl := Option.some.inj H
                      go_wp2_with (first | (go_at_call 17; (with_reducible refine (word_Fits.calls a0 (wrap64 (a1 + 32)) t216 _ A33.out).mono ?_); rintro e w' ⟨rfl, ⟨nd, rfl⟩⟩) | (go_at_call 17; (with_reducible refine (word_Fits.calls a0 0 t217 _ A36.out).mono ?_); rintro e w' ⟨rfl, ⟨nd, rfl⟩⟩))
                      go_ret
                      exact ⟨by first | rfl | (simp [errW_none, errW_some] <;> rfl) | (simp [*, errW_none, errW_some] <;> rfl), by repeat (first | (with_reducible first | exact HB.out | apply below_alloc | apply pw_below_drewN | apply below_drew1) | exact HB.out)⟩
                    · rw [if_neg c35] at H
                      have c35b0 : (t216 == true) = false := by simpa using c35
                      (try (have c35b1 : decide (t216 = true) = false := by simpa using c35))
                      (try (have c35b2 : (t216 == true) = false := by simpa using c35))
                      (try (have c35b3 : ¬ (t216 = true) := by simpa using c35))
                      clear c35
                      obtain rfl := Option.some.inj H
                      go_wp2_with (first | (go_at_call 17; (with_reducible refine (word_Fits.calls a0 (wrap64 (a1 + 32)) t216 _ A33.out).mono ?_); rintro e w' ⟨rfl, ⟨nd, rfl⟩⟩))
                      go_ret
                      exact ⟨by first | rfl | (simp [errW_none, errW_some] <;> rfl) | (simp [*, errW_none, errW_some] <;> rfl), by repeat (first | (with_reducible first | exact HB.out | apply below_alloc | apply pw_below_drewN | apply below_drew1) | exact HB.out)⟩
                  · rw [if_neg c34] at H
                    have c34b0 : decide (32 < (wrap64 (a1 + 32))) = false := decide_eq_false c34
                    clear c34
                    by_cases c37 : (t216 == (a0 == 0)) = true
                    · rw [if_pos c37] at H
                      have c37b0 : (t216 == (a0 == 0)) = true := c37
                      (try (have c37b1 : decide (t216 = (a0 == 0)) = true := by simpa using c37))
                      (try (have c37b2 : (t216 == (a0 == 0)) = true := by simpa using c37))
                      clear c37
                      replace H := Option.bind_eq_some_iff.mp H
                      obtain ⟨t218, A380, H⟩ := H
                      replace H : (some (t218 == (a0 == 0))) = some r := H
                      have A38 := Aside0.mk A380
                      clear A380
                      obtain rfl := Option.some.inj H
                      go_wp2_with (first | (go_at_call 17; (with_reducible refine (word_Fits.calls a0 (wrap64 (a1 + 32)) t216 _ A33.out).mono ?_); rintro e w' ⟨rfl, ⟨nd, rfl⟩⟩) | (go_at_call 17; (with_reducible refine (word_Fits.calls a0 0 t218 _ A38.out).mono ?_); rintro e w' ⟨rfl, ⟨nd, rfl⟩⟩))
                      go_ret
                      exact ⟨by first | rfl | (simp [errW_none, errW_some] <;> rfl) | (simp [*, errW_none, errW_some] <;> rfl), by repeat (first | (with_reducible first | exact HB.out | apply below_alloc | apply pw_below_drewN | apply below_drew1) | exact HB.out)⟩
                    · rw [if_neg c37] at H
                      have c37b0 : (t216 == (a0 == 0)) = false := by simpa using c37
                      (try (have c37b1 : decide (t216 = (a0 == 0)) = false := by simpa using c37))
                      (try (have c37b2 : (t216 == (a0 == 0)) = false := by simpa using c37))
                      (try (have c37b3 : ¬ (t216 = (a0 == 0)) := by simpa using c37))
                      clear c37
                      obtain rfl := Option.some.inj H
                      go_wp2_with (first | (go_at_call 17; (with_reducible refine (word_Fits.calls a0 (wrap64 (a1 + 32)) t216 _ A33.out).mono ?_); rintro e w' ⟨rfl, ⟨nd, rfl⟩⟩))
                      go_ret
                      exact ⟨by first | rfl | (simp [errW_none, errW_some] <;> rfl) | (simp [*, errW_none, errW_some] <;> rfl), by repeat (first | (with_reducible first | exact HB.out | apply below_alloc | apply pw_below_drewN | apply below_drew1) | exact HB.out)⟩
                · replace c32 := Bool.eq_false_iff.mpr c32
                  subst c32
                  have H1 : (some false) = some r := by rw [if_neg (show ¬ (false = true) by decide)] at H; exact H
                  clear H
                  have H := H1
                  clear H1
                  obtain rfl := Option.some.inj H
                  go_wp2
                  go_ret
                  exact ⟨by first | rfl | (simp [errW_none, errW_some] <;> rfl) | (simp [*, errW_none, errW_some] <;> rfl), by repeat (first | (with_reducible first | exact HB.out | apply below_alloc | apply pw_below_drewN | apply below_drew1) | exact HB.out)⟩
              · replace c31 := Bool.eq_false_iff.mpr c31
                subst c31
                have H1 : (some false) = some r := by rw [if_neg (show ¬ (false = true) by decide)] at H; exact H
                clear H
                have H := H1
                clear H1
                obtain rfl := Option.some.inj H
                go_wp2
                go_ret
                exact ⟨by first | rfl | (simp [errW_none, errW_some] <;> rfl) | (simp [*, errW_none, errW_some] <;> rfl), by repeat (first | (with_reducible first | exact HB.out | apply below_alloc | apply pw_below_drewN | apply below_drew1) | exact HB.out)⟩
            · replace c30 := Bool.eq_false_iff.mpr c30
              subst c30
              have H1 : (if t210 = true then (if x6_1 = true then ((word_Fits.f a0 a1).bind fun t219 => (if a1 > 32 then (if (t219 == true) = true then ((word_Fits.f a0 0).bind fun t220 => (some (t220 == (a0 == 0)))) else (some false)) else (if (t219 == (a0 == 0)) = true then ((word_Fits.f a0 0).bind fun t221 => (some (t221 == (a0 == 0)))) else (some false)))) else (some false)) else (some false)) = some r := by rw [if_neg (show ¬ (false = true) by decide)] at H; exact H
              clear H
              have H := H1
              clear H1
              by_cases c39 : t210 = true
              · subst c39
                have H1 : (if x6_1 = true then ((word_Fits.f a0 a1).bind fun t219 => (if a1 > 32 then (if (t219 == true) = true then ((word_Fits.f a0 0).bind fun t220 => (some (t220 == (a0 == 0)))) else (some false)) else (if (t219 == (a0 == 0)) = true then ((word_Fits.f a0 0).bind fun t221 => (some (t221 == (a0 == 0)))) else (some false)))) else (some false)) = some r := by rw [if_pos rfl] at H; exact H
                clear H
                have H := H1
                clear H1
                by_cases c40 : x6_1 = true
                · subst c40
                  have H1 : ((word_Fits.f a0 a1).bind fun t219 => (if a1 > 32 then (if (t219 == true) = true then ((word_Fits.f a0 0).bind fun t220 => (some (t220 == (a0 == 0)))) else (some false)) else (if (t219 == (a0 == 0)) = true then ((word_Fits.f a0 0).bind fun t221 => (some (t221 == (a0 == 0)))) else (some false)))) = some r := by rw [if_pos rfl] at H; exact H
                  clear H
                  have H := H1
                  clear H1
                  replace H := Option.bind_eq_some_iff.mp H
                  obtain ⟨t219, A410, H⟩ := H
                  replace H : (if a1 > 32 then (if (t219 == true) = true then ((word_Fits.f a0 0).bind fun t220 => (some (t220 == (a0 == 0)))) else (some false)) else (if (t219 == (a0 == 0)) = true then ((word_Fits.f a0 0).bind fun t221 => (some (t221 == (a0 == 0)))) else (some false))) = some r := H
                  have A41 := Aside0.mk A410
                  clear A410
                  by_cases c42 : a1 > 32
                  · rw [if_pos c42] at H
                    have c42b0 : decide (32 < a1) = true := decide_eq_true c42
                    clear c42
                    by_cases c43 : (t219 == true) = true
                    · rw [if_pos c43] at H
                      have c43b0 : (t219 == true) = true := c43
                      (try (have c43b1 : decide (t219 = true) = true := by simpa using c43))
                      (try (have c43b2 : (t219 == true) = true := by simpa using c43))
                      clear c43
                      replace H := Option.bind_eq_some_iff.mp H
                      obtain ⟨t220, A440, H⟩ := H
                      replace H : (some (t220 == (a0 == 0))) = some r := H
                      have A44 := Aside0.mk A440
                      clear A440
                      obtain rfl := Option.some.inj H
                      go_wp2_with (first | (go_at_call 17; (with_reducible refine (word_Fits.calls a0 a1 t219 _ A41.out).mono ?_); rintro e w' ⟨rfl, ⟨nd, rfl⟩⟩) | (go_at_call 17; (with_reducible refine (word_Fits.calls a0 0 t220 _ A44.out).mono ?_); rintro e w' ⟨rfl, ⟨nd, rfl⟩⟩))
                      go_ret
                      exact ⟨by first | rfl | (simp [errW_none, errW_some] <;> rfl) | (simp [*, errW_none, errW_some] <;> rfl), by repeat (first | (with_reducible first | exact HB.out | apply below_alloc | apply pw_below_drewN | apply below_drew1) | exact HB.out)⟩
                    · rw [if_neg c43] at H
                      have c43b0 : (t219 == true) = false := by simpa using c43
                      (try (have c43b1 : decide (t219 = true) = false := by simpa using c43))
                      (try (have c43b2 : (t219 == true) = false := by simpa using c43))
                      (try (have c43b3 : ¬ (t219 = true) := by simpa using c43))
                      clear c43
                      obtain rfl := Option.some.inj H
                      go_wp2_with (first | (go_at_call 17; (with_reducible refine (word_Fits.calls a0 a1 t219 _ A41.out).mono ?_); rintro e w' ⟨rfl, ⟨nd, rfl⟩⟩))
                      go_ret
                      exact ⟨by first | rfl | (simp [errW_none, errW_some] <;> rfl) | (simp [*, errW_none, errW_some] <;> rfl), by repeat (first | (with_reducible first | exact HB.out | apply below_alloc | apply pw_below_drewN | apply below_drew1) | exact HB.out)⟩
                  · rw [if_neg c42] at H
                    have c42b0 : decide (32 < a1) = false := decide_eq_false c42
                    clear c42
                    by_cases c45 : (t219 == (a0 == 0)) = true
                    · rw [if_pos c45] at H
                      have c45b0 : (t219 == (a0 == 0)) = true := c45
                      (try (have c45b1 : decide (t219 = (a0 == 0)) = true := by simpa using c45))
                      (try (have c45b2 : (t219 == (a0 == 0)) = true := by simpa using c45))
                      clear c45
                      replace H := Option.bind_eq_some_iff.mp H
                      obtain ⟨t221, A460, H⟩ := H
                      replace H : (some (t221 == (a0 == 0))) = some r := H
                      have A46 := Aside0.mk A460
                      clear A460
                      obtain rfl := Option.some.inj H
                      go_wp2_with (first | (go_at_call 17; (with_reducible refine (word_Fits.calls a0 a1 t219 _ A41.out).mono ?_); rintro e w' ⟨rfl, ⟨nd, rfl⟩⟩) | (go_at_call 17; (with_reducible refine (word_Fits.calls a0 0 t221 _ A46.out).mono ?_); rintro e w' ⟨rfl, ⟨nd, rfl⟩⟩))
                      go_ret
                      exact ⟨by first | rfl | (simp [errW_none, errW_some] <;> rfl) | (simp [*, errW_none, errW_some] <;> rfl), by repeat (first | (with_reducible first | exact HB.out | apply below_alloc | apply pw_below_drewN | apply below_drew1) | exact HB.out)⟩
                    · rw [if_neg c45] at H
                      have c45b0 : (t219 == (a0 == 0)) = false := by simpa using c45
                      (try (have c45b1 : decide (t219 = (a0 == 0)) = false := by simpa using c45))
                      (try (have c45b2 : (t219 == (a0 == 0)) = false := by simpa using c45))
                      (try (have c45b3 : ¬ (t219 = (a0 == 0)) := by simpa using c45))
                      clear c45
                      obtain rfl := Option.some.inj H
                      go_wp2_with (first | (go_at_call 17; (with_reducible refine (word_Fits.calls a0 a1 t219 _ A41.out).mono ?_); rintro e w' ⟨rfl, ⟨nd, rfl⟩⟩))
                      go_ret
                      exact ⟨by first | rfl | (simp [errW_none, errW_some] <;> rfl) | (simp [*, errW_none, errW_some] <;> rfl), by repeat (first | (with_reducible first | exact HB.out | apply below_alloc | apply pw_below_drewN | apply below_drew1) | exact HB.out)⟩
                · replace c40 := Bool.eq_false_iff.mpr c40
                  subst c40
                  have H1 : (some false) = some r := by rw [if_neg (show ¬ (false = true) by decide)] at H; exact H
                  clear H
                  have H := H1
                  clear H1
                  obtain rfl := Option.some.inj H
                  go_wp2
                  go_ret
                  exact ⟨by first | rfl | (simp [errW_none, errW_some] <;> rfl) | (simp [*, errW_none, errW_some] <;> rfl), by repeat (first | (with_reducible first | exact HB.out | apply below_alloc | apply pw_below_drewN | apply below_drew1) | exact HB.out)⟩
              · replace c39 := Bool.eq_false_iff.mpr c39
                subst c39
                have H1 : (some false) = some r := by rw [if_neg (show ¬ (false = true) by decide)] at H; exact H
                clear H
                have H := H1
                clear H1
                obtain rfl := Option.some.inj H
                go_wp2
                go_ret
                exact ⟨by first | rfl | (simp [errW_none, errW_some] <;> rfl) | (simp [*, errW_none, errW_some] <;> rfl), by repeat (first | (with_reducible first | exact HB.out | apply below_alloc | apply pw_below_drewN | apply below_drew1) | exact HB.out)⟩

/-- THE ONE PURE STATEMENT of jacquardlaw01_WordFits: yours. -/
def jacquardlaw01_WordFits.Pure : Prop := ∀ (a0 : Int) (a1 : Int), (Lit.int .i32 a0).wf = true → (Lit.int .i64 a1).wf = true → ∃ k, jacquardlaw01_WordFits.f k a0 a1 = some true
theorem jacquardlaw01_WordFits.walk (P : jacquardlaw01_WordFits.Pure) (a0 : Int) (a1 : Int) (w : World) (w0 : (Lit.int .i32 a0).wf = true) (w1 : (Lit.int .i64 a1).wf = true) :
    Calls Try.prog 10 #[.int .i32 a0, .int .i64 a1] w fun e w' => e = .returned (.bool true) ∧ Below w.heap.size w w' := by
  obtain ⟨k, h⟩ := P a0 a1 w0 w1
  refine (jacquardlaw01_WordFits.calls k a0 a1 true w h).mono ?_
  rintro e w' ⟨rfl, hd⟩
  exact ⟨rfl, hd⟩

end Go.Proofs.Ytfiajahppimchaa.Pr
