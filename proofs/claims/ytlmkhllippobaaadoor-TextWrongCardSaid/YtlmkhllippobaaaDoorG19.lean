/- Parts of the proof, one behind the other: Prx3, Shown, WrongP, Wrong, EachTile, Tile. -/
import Derived.Test.YtlmkhllippobaaaDoorG16
import Derived.Test.YtlmkhllippobaaaDoorG18
import Derived.Test.YtlmkhllippobaaaDoorG02
import Derived.Laws.Tables
import Derived.Laws.CopyOwn
import Derived.Test.YtlmkhllippobaaaDoorG07
import Derived.Test.YtlmkhllippobaaaDoorG15
import Derived.Test.YtlmkhllippobaaaDoorG03
section
-- By this session's driver (wip/myprint.py) out of the translation; Lean checks it.
namespace Go.Proofs.YtlmkhllippobaaaDoor.Pr
open Go.Proofs.YtlmkhllippobaaaDoor.Kd
open Go.RowKit Go.Proofs.YtlmkhllippobaaaDoorW.PrintWords Go.Proofs.YtlmkhllippobaaaDoorW.PrintLast Go.Proofs.YtlmkhllippobaaaDoorW.PrintMore
attribute [local go_sem] max2_int min2_int max_two min_two max_three min_three max_four min_four   -- for this text's walks alone
set_option linter.unusedVariables false
set_option linter.unusedSimpArgs false

/-! ### jacquardref03_Same: function 14 -/
def jacquardref03_Same.f (k : Nat) (a0_0 : Int) (l0_1 : List (S52)) (a1_0 : Int) (l1_1 : List (S52)) : Option (Bool) := (jacquardref03_Print.f k a0_0 l0_1).bind fun t161 => ((jacquardref03_Print.f k a1_0 l1_1).bind fun t162 => (some (t161.toList == t162.toList)))
theorem jacquardref03_Same.mono : ∀ a0 a1 a2 a3 k, LeO (jacquardref03_Same.f k a0 a1 a2 a3) (jacquardref03_Same.f (k + 1) a0 a1 a2 a3) := by
  intro a0 a1 a2 a3 k
  unfold jacquardref03_Same.f
  repeat' first
      | (with_reducible exact jacquardref03_Print.mono _ _ _)
      | (with_reducible exact LeO.refl _)
      | (with_reducible exact LeO.none _)
      | (with_reducible refine LeO.ite ?_ ?_)
      | (with_reducible refine LeO.bind ?_ (fun _ => ?_))
      | exact jacquardref03_Print.mono _ _ _
      | exact LeO.none _
      | refine LeO.ite ?_ ?_
      | refine LeO.bind ?_ (fun _ => ?_)
set_option maxHeartbeats 8000000 in
set_option maxRecDepth 100000 in
theorem jacquardref03_Same.calls (k : Nat) (a0_0 : Int) (A0_1 : Option Addr) (c0_1 : Nat) (l0_1 : List (S52)) (a1_0 : Int) (A1_1 : Option Addr) (c1_1 : Nat) (l1_1 : List (S52)) (r : Bool) (w : World) (hr0_1 : Kd.C k52 w A0_1 l0_1.length l0_1) (hc0_1 : l0_1.length ≤ c0_1) (hr1_1 : Kd.C k52 w A1_1 l1_1.length l1_1) (hc1_1 : l1_1.length ≤ c1_1) (h : jacquardref03_Same.f k a0_0 l0_1 a1_0 l1_1 = some r) :
    Calls Tryd.prog 14 #[.agg #[.int .i64 a0_0, .slice A0_1 l0_1.length c0_1], .agg #[.int .i64 a1_0, .slice A1_1 l1_1.length c1_1]] w fun e w' => e = .returned (.bool r) ∧ Below w.heap.size w w' := by
  have hu28 := Tryd.underlying28
  have HR0_1 := Aside0.mk hr0_1
  have HC0_1 := Aside0.mk hc0_1
  clear hr0_1 hc0_1
  have HR1_1 := Aside0.mk hr1_1
  have HC1_1 := Aside0.mk hc1_1
  clear hr1_1 hc1_1
  have HB := Aside0.mk (Below.refl w.heap.size w)
  have H : ((jacquardref03_Print.f k a0_0 l0_1).bind fun t161 => ((jacquardref03_Print.f k a1_0 l1_1).bind fun t162 => (some (t161.toList == t162.toList)))) = some r := h
  clear h
  replace H := Option.bind_eq_some_iff.mp H
  obtain ⟨t161, A30, H⟩ := H
  replace H : ((jacquardref03_Print.f k a1_0 l1_1).bind fun t162 => (some (t161.toList == t162.toList))) = some r := H
  have A3 := Aside0.mk A30
  clear A30
  replace H := Option.bind_eq_some_iff.mp H
  obtain ⟨t162, A40, H⟩ := H
  replace H : (some (t161.toList == t162.toList)) = some r := H
  have A4 := Aside0.mk A40
  clear A40
  obtain rfl := Option.some.inj H
  go_enter Tryd.func14, Tryd.ntmps14
  try go_wp2_with (first | ((with_reducible refine gate_dst (N := 2) rfl ?_); refine box_event ?hg (N := 2) ?hd (cs := #[.int .i64 a0_0, .slice A0_1 l0_1.length c0_1]) (t := 28) ?hr ?_; (case hd => rfl); (case hg => rfl); (case hr => first | (go_simp; done) | (go_simp; rfl)); intro gb159 hg w5 hbox hb; have n0_ := Aside0.mk (below_step (by repeat (first | (with_reducible first | exact HB.out | apply below_alloc | apply pw_below_drewN | apply below_drew1) | exact HB.out)) hb); have n1_ := Aside0.mk (hbox); have n2_ := Aside0.mk ((by rw [hg]; exact (below_size (by repeat (first | (with_reducible first | exact HB.out | apply below_alloc | apply pw_below_drewN | apply below_drew1) | exact HB.out))) : w.heap.size ≤ gb159)); have n3_ := Aside0.mk ((by rw [hg]; exact (below_size (by repeat (first | (with_reducible first | exact HB.out | apply below_alloc | apply pw_below_drewN | apply below_drew1) | exact HB.out))) : w.heap.size ≤ gb159)); clear HB; have HB := n0_; have BK159 := n1_; have GW159 := n2_; have GE159 := n3_; clear n0_ n1_ n2_ n3_; clear hb hbox hg) | ((with_reducible refine gate_dst (N := 3) rfl ?_); refine box_event ?hg (N := 3) ?hd (cs := #[.int .i64 a1_0, .slice A1_1 l1_1.length c1_1]) (t := 28) ?hr ?_; (case hd => rfl); (case hg => rfl); (case hr => first | (go_simp; done) | (go_simp; rfl)); intro gb160 hg w6 hbox hb; have n0_ := Aside0.mk (blk_below (g := gb159) (o := .cells #[.int .i64 a0_0, .slice A0_1 l0_1.length c0_1] 28 (0, 0)) (by (with_reducible repeat (first | refine blk_drewN ?_ _ | refine blk_drew ?_ | refine blk_alloc ?_ _)); exact BK159.out) hb); have n1_ := Aside0.mk (below_step (by repeat (first | (with_reducible first | exact HB.out | apply below_alloc | apply pw_below_drewN | apply below_drew1 | refine below_set ?_ GE159.out) | exact HB.out)) hb); have n2_ := Aside0.mk (hbox); have n3_ := Aside0.mk ((by rw [hg]; exact (below_size (by repeat (first | (with_reducible first | exact HB.out | apply below_alloc | apply pw_below_drewN | apply below_drew1 | refine below_set ?_ GE159.out) | exact HB.out))) : w.heap.size ≤ gb160)); have n4_ := Aside0.mk ((by rw [hg]; exact (below_size (by repeat (first | (with_reducible first | exact HB.out | apply below_alloc | apply pw_below_drewN | apply below_drew1 | refine below_set ?_ GE159.out) | exact HB.out))) : w.heap.size ≤ gb160)); have n5_ := Aside0.mk ((by rw [hg]; exact Nat.ne_of_lt (blk_lt (g := gb159) (o := .cells #[.int .i64 a0_0, .slice A0_1 l0_1.length c0_1] 28 (0, 0)) (by (with_reducible repeat (first | refine blk_drewN ?_ _ | refine blk_drew ?_ | refine blk_alloc ?_ _)); exact BK159.out)) : gb159 ≠ gb160)); have n6_ := Aside0.mk ((by rw [hg]; exact Nat.ne_of_gt (blk_lt (g := gb159) (o := .cells #[.int .i64 a0_0, .slice A0_1 l0_1.length c0_1] 28 (0, 0)) (by (with_reducible repeat (first | refine blk_drewN ?_ _ | refine blk_drew ?_ | refine blk_alloc ?_ _)); exact BK159.out)) : gb160 ≠ gb159)); clear BK159; clear HB; have BK159 := n0_; have HB := n1_; have BK160 := n2_; have GW160 := n3_; have GE160 := n4_; have NB159_160 := n5_; have NB160_159 := n6_; clear n0_ n1_ n2_ n3_ n4_ n5_ n6_; clear hb hbox hg))
  have n0_ := Aside0.mk (blk_drew BK159.out)
  have n1_ := Aside0.mk (blk_drew BK160.out)
  have n2_ := Aside0.mk (below_drew1 HB.out)
  clear BK159
  clear BK160
  clear HB
  have BK159 := n0_
  have BK160 := n1_
  have HB := n2_
  clear n0_ n1_ n2_
  refine start_ (n := 6) (S := fun w' => w'.cell? ⟨gb159, 0, none⟩ = some (.int .i64 a0_0) ∧ w'.cell? ⟨gb159, 1, none⟩ = some (.slice A0_1 l0_1.length c0_1) ∧ w'.cell? ⟨gb160, 0, none⟩ = some (.int .i64 a1_0) ∧ w'.cell? ⟨gb160, 1, none⟩ = some (.slice A1_1 l1_1.length c1_1)) (ds := []) #[false, false, false, false, false, false] (by kernel_rfl) rfl rfl ⟨(blk_cell BK159.out 0).trans rfl, (blk_cell BK159.out 1).trans rfl, (blk_cell BK160.out 0).trans rfl, (blk_cell BK160.out 1).trans rfl⟩ (fun hHeld => ?_)
  generalize w6.drew = w7 at BK159 BK160 HB hHeld ⊢
  refine take_ (i := 0) (N := some 5) (v := ?_) (a' := ?_) #[true, false, false, false, false, false] rfl rfl (by kernel_rfl) (fun _ _ _ h => h) (Or.inl ⟨by rfl, ?_⟩) hHeld ?_ ?_
  rotate_left
  · rintro w' ⟨s0, s1, s2, s3⟩
    go_simp
    with_reducible rfl
  rotate_left
  · simp only [Act.put, List.setIfInBounds_toArray, List.set_cons_zero, List.set_cons_succ, i64_w, i32_w]
    rfl
  refine take_ (i := 2) (N := some 7) (v := ?_) (a' := ?_) #[true, false, true, false, false, false] rfl rfl (by kernel_rfl) (fun _ _ _ h => h) (Or.inl ⟨by rfl, ?_⟩) hHeld ?_ ?_
  rotate_left
  · rintro w' ⟨s0, s1, s2, s3⟩
    go_simp
    with_reducible rfl
  rotate_left
  · simp only [Act.put, List.setIfInBounds_toArray, List.set_cons_zero, List.set_cons_succ, i64_w, i32_w]
    rfl
  refine one_ (i := 1) (N := some 6) #[true, true, true, false, false, false] rfl rfl (by kernel_rfl) (by decide) (fun K hK => ?_)
  refine goes_ Tryd.func25 (by kernel_rfl) rfl #[.agg #[.int .i64 a0_0, .slice A0_1 l0_1.length c0_1]] (by rfl) rfl rfl (by (try simp only [List.map_toArray, List.map_cons, List.map_nil]); first | done | rfl | (simp only [List.length_drop, List.length_take]; rfl)) ?_
  with_reducible refine (jacquardref03_Print.calls k a0_0 _ _ l0_1 t161 _ ?side1 ?side2 A3.out).mono ?_
  (case side1 => repeat (first | exact (Kd.C_below HR0_1.out HB.out) | (with_reducible refine Kd.C_alloc ?_ _) | (with_reducible refine Kd.C_drewN ?_ _) | (with_reducible refine Kd.C_drew ?_)))
  (case side2 => exact HC0_1.out)
  rintro e w8 ⟨rfl, hb⟩
  refine ⟨_, rfl, ?_⟩
  have n0_ := Aside0.mk (blk_below (g := gb159) (o := .cells #[.int .i64 a0_0, .slice A0_1 l0_1.length c0_1] 28 (0, 0)) (by (with_reducible repeat (first | refine blk_drewN ?_ _ | refine blk_drew ?_ | refine blk_alloc ?_ _)); exact BK159.out) hb)
  have n1_ := Aside0.mk (blk_below (g := gb160) (o := .cells #[.int .i64 a1_0, .slice A1_1 l1_1.length c1_1] 28 (0, 0)) (by (with_reducible repeat (first | refine blk_drewN ?_ _ | refine blk_drew ?_ | refine blk_alloc ?_ _)); exact BK160.out) hb)
  have n2_ := Aside0.mk (below_step (by repeat (first | (with_reducible first | exact HB.out | apply below_alloc | apply pw_below_drewN | apply below_drew1 | refine below_set ?_ GE159.out | refine below_set ?_ GE160.out) | exact HB.out)) hb)
  clear BK159
  clear BK160
  clear HB
  have BK159 := n0_
  have BK160 := n1_
  have HB := n2_
  clear n0_ n1_ n2_
  (try clear hb)
  (try clear hb2)
  (try clear hk)
  (try clear hi)
  refine hK.out _ _ ⟨(blk_cell BK159.out 0).trans rfl, (blk_cell BK159.out 1).trans rfl, (blk_cell BK160.out 0).trans rfl, (blk_cell BK160.out 1).trans rfl⟩ (fun hHeld => ?_)
  clear hK K
  refine norm_ (a' := ?_) ?_ ?_
  rotate_left
  · show Act.put _ (some 6) _ = _
    simp only [Act.put, List.setIfInBounds_toArray, List.set_cons_zero, List.set_cons_succ, i64_w, i32_w]
    rfl
  refine one_ (i := 3) (N := some 8) #[true, true, true, true, false, false] rfl rfl (by kernel_rfl) (by decide) (fun K hK => ?_)
  refine goes_ Tryd.func25 (by kernel_rfl) rfl #[.agg #[.int .i64 a1_0, .slice A1_1 l1_1.length c1_1]] (by rfl) rfl rfl (by (try simp only [List.map_toArray, List.map_cons, List.map_nil]); first | done | rfl | (simp only [List.length_drop, List.length_take]; rfl)) ?_
  with_reducible refine (jacquardref03_Print.calls k a1_0 _ _ l1_1 t162 _ ?side1 ?side2 A4.out).mono ?_
  (case side1 => repeat (first | exact (Kd.C_below HR1_1.out HB.out) | (with_reducible refine Kd.C_alloc ?_ _) | (with_reducible refine Kd.C_drewN ?_ _) | (with_reducible refine Kd.C_drew ?_)))
  (case side2 => exact HC1_1.out)
  rintro e w9 ⟨rfl, hb⟩
  refine ⟨_, rfl, ?_⟩
  have n0_ := Aside0.mk (blk_below (g := gb159) (o := .cells #[.int .i64 a0_0, .slice A0_1 l0_1.length c0_1] 28 (0, 0)) (by (with_reducible repeat (first | refine blk_drewN ?_ _ | refine blk_drew ?_ | refine blk_alloc ?_ _)); exact BK159.out) hb)
  have n1_ := Aside0.mk (blk_below (g := gb160) (o := .cells #[.int .i64 a1_0, .slice A1_1 l1_1.length c1_1] 28 (0, 0)) (by (with_reducible repeat (first | refine blk_drewN ?_ _ | refine blk_drew ?_ | refine blk_alloc ?_ _)); exact BK160.out) hb)
  have n2_ := Aside0.mk (below_step (by repeat (first | (with_reducible first | exact HB.out | apply below_alloc | apply pw_below_drewN | apply below_drew1 | refine below_set ?_ GE159.out | refine below_set ?_ GE160.out) | exact HB.out)) hb)
  clear BK159
  clear BK160
  clear HB
  have BK159 := n0_
  have BK160 := n1_
  have HB := n2_
  clear n0_ n1_ n2_
  (try clear hb)
  (try clear hb2)
  (try clear hk)
  (try clear hi)
  refine hK.out _ _ ⟨(blk_cell BK159.out 0).trans rfl, (blk_cell BK159.out 1).trans rfl, (blk_cell BK160.out 0).trans rfl, (blk_cell BK160.out 1).trans rfl⟩ (fun hHeld => ?_)
  clear hK K
  refine norm_ (a' := ?_) ?_ ?_
  rotate_left
  · show Act.put _ (some 8) _ = _
    simp only [Act.put, List.setIfInBounds_toArray, List.set_cons_zero, List.set_cons_succ, i64_w, i32_w]
    rfl
  refine pure_ (i := 4) (N := some 9) (v := ?_) (a' := ?_) #[true, true, true, true, true, false] rfl rfl (by kernel_rfl) (fun _ _ _ h => h) (Or.inl ⟨by rfl, ?_⟩) ?_ ?_
  rotate_left
  · intro w'
    go_simp
    with_reducible rfl
  rotate_left
  · simp only [Act.put, List.setIfInBounds_toArray, List.set_cons_zero, List.set_cons_succ, i64_w, i32_w]
    rfl
  refine pure_ (i := 5) (N := some 4) (v := ?_) (a' := ?_) #[true, true, true, true, true, true] rfl rfl (by kernel_rfl) (fun _ _ _ h => h) (Or.inl ⟨by rfl, ?_⟩) ?_ ?_
  rotate_left
  · intro w'
    go_simp
    with_reducible rfl
  rotate_left
  · simp only [Act.put, List.setIfInBounds_toArray, List.set_cons_zero, List.set_cons_succ, i64_w, i32_w]
    rfl
  refine done_ (by kernel_rfl) ?_
  try go_wp2
  go_ret
  exact ⟨by first | rfl | (simp [errW_none, errW_some] <;> rfl) | (simp [*, errW_none, errW_some] <;> rfl), by repeat (first | (with_reducible first | exact HB.out | apply below_alloc | apply pw_below_drewN | apply below_drew1 | refine below_set ?_ GE159.out | refine below_set ?_ GE160.out) | exact HB.out)⟩

-- NOT PRINTED: function 5 (jacquardlaw25_shown)

-- NOT PRINTED: function 3 (jacquardlaw25_TextWrong)

end Go.Proofs.YtlmkhllippobaaaDoor.Pr
end
section
/- jacquardlaw25.shown, walked. -/
set_option linter.unusedVariables false
set_option linter.unusedSimpArgs false
namespace Go.Proofs.YtlmkhllippobaaaDoor.Ps
open Go.RowKit Go.Proofs.YtlmkhllippobaaaDoor.Wb Go.Proofs.YtlmkhllippobaaaDoorW.PrintWords Go.Proofs.YtlmkhllippobaaaDoorW.PrintWords.Kd Go.Proofs.YtlmkhllippobaaaDoorW.PrintMore Go.Proofs.YtlmkhllippobaaaDoorW.PrintMore.Kd Go.Proofs.YtlmkhllippobaaaDoor.Wl Go.Proofs.YtlmkhllippobaaaDoor.Tx Go.Proofs.YtlmkhllippobaaaDoor.Kd Go.Proofs.YtlmkhllippobaaaDoor.Kp Go.Proofs.YtlmkhllippobaaaDoor.TxW
attribute [local go_sem ↓] Go.wp_at_zero Go.wp_at_succ

/-- A whole block is a row. -/
theorem C_blk {α : Type} {d : Kd α} {w : World} {g t : Nat} {xs : List α} {cs : Array Value} (hb : w.heap[g]? = some (.cells cs t (0, 0))) (h : Reps (d.K w) d.sz xs cs.toList) (hn : xs.length ≤ 9223372036854775807) :
    d.C w (some ⟨g, 0, none⟩) xs.length xs := by
  refine ⟨rfl, hn, fun _ => ⟨_, rfl, fun j p hj => ⟨_, ?_, h.2 j p hj, fun i u hu => ?_⟩⟩⟩
  · exact d.K_len (h.2 j p hj)
  · have h1 : w.cell? ((⟨g, 0, none⟩ : Addr).add (j * d.sz + i)) = cs[j * d.sz + i]? := by
      have := blk_cell hb (0 + (j * d.sz + i))
      rw [Addr.add_lit, Nat.zero_add] at *
      exact this
    refine h1.trans ?_
    rw [List.getElem?_take] at hu
    split at hu
    · rw [List.getElem?_drop] at hu
      rw [← hu]
      exact (Array.getElem?_toList).symm
    · cases hu
def wS (w : World) : World := ((((w.alloc (.cells #[.int .i64 0, .int .i64 1] 3)).alloc (.cells #[.int .i64 2, .int .i64 2, .int .i64 0, .slice (some ⟨w.heap.size, 0, none⟩) 2 2, .int .i32 0] 46)).alloc (.cells #[.int .i64 2] 3)).alloc (.cells #[.slice none 0 0, .slice (some ⟨w.heap.size + 1, 0, none⟩) 1 1, .int .i64 4, .slice (some ⟨w.heap.size + 1 + 1, 0, none⟩) 1 1, .slice none 0 0, .int .i32 0] 52)).alloc (.cells #[.int .i64 2, .slice (some ⟨w.heap.size + 1 + 1 + 1, 0, none⟩) 1 1] 28)
theorem wS_below (w : World) : Below w.heap.size w (wS w) := by
  unfold wS
  exact below_alloc (below_alloc (below_alloc (below_alloc (below_alloc (Below.refl _ _) _) _) _) _) _
theorem wS_C (w : World) : k52.C (wS w) (some ⟨w.heap.size + 1 + 1 + 1, 0, none⟩) 1 fShown.f1 := by
  unfold wS
  obtain ⟨w1, hw1⟩ : ∃ w1, w.alloc (.cells #[.int .i64 0, .int .i64 1] 3) = w1 := ⟨_, rfl⟩
  have h1 : w1.heap.size = w.heap.size + 1 := by rw [← hw1]; simp
  have b1 : w1.heap[w.heap.size]? = some (.cells #[.int .i64 0, .int .i64 1] 3 (0, 0)) := by rw [← hw1]; exact heap_alloc_new w _
  have c1 : (Kd.int .i64).C w1 (some ⟨w.heap.size, 0, none⟩) 2 [0, 1] := C_blk b1 (Reps.one rfl (Reps.one rfl (Reps.none _ _))) (by decide)
  rw [hw1]
  obtain ⟨w2, hw2⟩ : ∃ w2, w1.alloc (.cells #[.int .i64 2, .int .i64 2, .int .i64 0, .slice (some ⟨w.heap.size, 0, none⟩) 2 2, .int .i32 0] 46) = w2 := ⟨_, rfl⟩
  have h2 : w2.heap.size = w.heap.size + 1 + 1 := by rw [← hw2]; simp [h1]
  have b2 : w2.heap[w.heap.size + 1]? = some (.cells #[.int .i64 2, .int .i64 2, .int .i64 0, .slice (some ⟨w.heap.size, 0, none⟩) 2 2, .int .i32 0] 46 (0, 0)) := by rw [← hw2, ← h1]; exact heap_alloc_new w1 _
  have c2 : k46.C w2 (some ⟨w.heap.size + 1, 0, none⟩) 1 [⟨2, 2, 0, [0, 1], 0⟩] :=
    C_blk b2 (show Reps _ _ ([] ++ [_]) ([] ++ [_, _, _, _, _]) from Reps.snoc (Reps.none _ _) (k46_mk w2 ⟨2, 2, 0, [0, 1], 0⟩ (c3 := 2) (by decide) (by rw [← hw2]; exact C_alloc c1 _)) rfl) (by decide)
  rw [hw2]
  obtain ⟨w3, hw3⟩ : ∃ w3, w2.alloc (.cells #[.int .i64 2] 3) = w3 := ⟨_, rfl⟩
  have h3 : w3.heap.size = w.heap.size + 1 + 1 + 1 := by rw [← hw3]; simp [h2]
  have b3 : w3.heap[w.heap.size + 1 + 1]? = some (.cells #[.int .i64 2] 3 (0, 0)) := by rw [← hw3, ← h2]; exact heap_alloc_new w2 _
  have c3 : (Kd.int .i64).C w3 (some ⟨w.heap.size + 1 + 1, 0, none⟩) 1 [2] := C_blk b3 (Reps.one rfl (Reps.none _ _)) (by decide)
  have c2' := C_alloc c2 (.cells #[.int .i64 2] 3)
  rw [hw3] at c2' ⊢
  obtain ⟨w4, hw4⟩ : ∃ w4, w3.alloc (.cells #[.slice none 0 0, .slice (some ⟨w.heap.size + 1, 0, none⟩) 1 1, .int .i64 4, .slice (some ⟨w.heap.size + 1 + 1, 0, none⟩) 1 1, .slice none 0 0, .int .i32 0] 52) = w4 := ⟨_, rfl⟩
  have b4 : w4.heap[w.heap.size + 1 + 1 + 1]? = some (.cells #[.slice none 0 0, .slice (some ⟨w.heap.size + 1, 0, none⟩) 1 1, .int .i64 4, .slice (some ⟨w.heap.size + 1 + 1, 0, none⟩) 1 1, .slice none 0 0, .int .i32 0] 52 (0, 0)) := by rw [← hw4, ← h3]; exact heap_alloc_new w3 _
  have c4 : k52.C w4 (some ⟨w.heap.size + 1 + 1 + 1, 0, none⟩) 1 fShown.f1 :=
    C_blk b4 (show Reps _ _ ([] ++ [_]) ([] ++ [_, _, _, _, _, _]) from Reps.snoc (Reps.none _ _) (k52_mk w4 ⟨[], [⟨2, 2, 0, [0, 1], 0⟩], ⟨4, [2], [], 0⟩⟩ (c0 := 0) (c1 := 1) (c3 := 1) (c4 := 0) (by decide) (C_nil _ _) (by decide) (by rw [← hw4]; exact C_alloc c2' _) (by decide) (by rw [← hw4]; exact C_alloc c3 _) (by decide) (C_nil _ _)) rfl) (by decide)
  rw [hw4]
  exact C_alloc c4 _
theorem same_shown : Go.Proofs.YtlmkhllippobaaaDoor.Pr.jacquardref03_Same.f 40 2 fShown.f1 2 fShown.f1 = some true := by kernel_rfl
theorem okShown : FuncOK fShown := by
  refine ⟨by unfold I64; decide, ?_⟩
  intro x hx
  cases hx with
  | head =>
    refine ⟨by simp, ?_, by unfold I64; decide, by simp [I64], by simp, by unfold I32; decide⟩
    intro i hi
    simp at hi
    subst hi
    constructor <;> simp
  | tail _ h => cases h

set_option maxHeartbeats 4000000 in
set_option maxRecDepth 1000000 in
theorem shown_calls (w : World) (HG : Aside0 (LaidP w)) :
    Calls Tryd.prog 5 #[] w fun e w' => e = .returned (.bool true) ∧ Below w.heap.size w w' := by
  have HB := Aside0.mk (wS_below w)
  have HC := Aside0.mk (wS_C w)
  have HS : Aside0 ((wS w).heap[w.heap.size + 1 + 1 + 1 + 1]? = some (.cells #[.int .i64 2, .slice (some ⟨w.heap.size + 1 + 1 + 1, 0, none⟩) 1 1] 28 (0, 0))) := by
    refine ⟨?_⟩
    unfold wS
    have e : ((((w.alloc (.cells #[.int .i64 0, .int .i64 1] 3)).alloc (.cells #[.int .i64 2, .int .i64 2, .int .i64 0, .slice (some ⟨w.heap.size, 0, none⟩) 2 2, .int .i32 0] 46)).alloc (.cells #[.int .i64 2] 3)).alloc (.cells #[.slice none 0 0, .slice (some ⟨w.heap.size + 1, 0, none⟩) 1 1, .int .i64 4, .slice (some ⟨w.heap.size + 1 + 1, 0, none⟩) 1 1, .slice none 0 0, .int .i32 0] 52)).heap.size = w.heap.size + 1 + 1 + 1 + 1 := by simp
    rw [← e]
    exact heap_alloc_new _ _
  go_enter Tryd.func5, Tryd.ntmps5
  go_wp2_with fail
  obtain ⟨w5, hw5⟩ : ∃ w5, wS w = w5 := ⟨_, rfl⟩
  rw [show ((((w.alloc (.cells #[.int .i64 0, .int .i64 1] 3)).alloc (.cells #[.int .i64 2, .int .i64 2, .int .i64 0, .slice (some ⟨w.heap.size, 0, none⟩) 2 2, .int .i32 0] 46)).alloc (.cells #[.int .i64 2] 3)).alloc (.cells #[.slice none 0 0, .slice (some ⟨w.heap.size + 1, 0, none⟩) 1 1, .int .i64 4, .slice (some ⟨w.heap.size + 1 + 1, 0, none⟩) 1 1, .slice none 0 0, .int .i32 0] 52)).alloc (.cells #[.int .i64 2, .slice (some ⟨w.heap.size + 1 + 1 + 1, 0, none⟩) 1 1] 28) = w5 from hw5]
  rw [hw5] at HB HC HS
  refine (Parse_calls sShown w5 ⟨HG.out.below HB.out⟩ (by decide)).mono ?_
  rw [parse_shown]
  rintro e w6 ⟨v, rfl, hR, hb6⟩
  obtain ⟨A, c, rfl, hc, hK⟩ := R_reads hR
  have HK := Aside0.mk (block_C hK)
  have HL := Aside0.mk hc
  obtain ⟨w7, hw7⟩ : ∃ w7, w6.alloc (.cells #[.int .i64 2, .slice A 1 c] 28) = w7 := ⟨_, rfl⟩
  have hb7 : Below w5.heap.size w5 w7 := by rw [← hw7]; exact below_alloc hb6 _
  have hg7 : w7.heap[w6.heap.size]? = some (.cells #[.int .i64 2, .slice A 1 c] 28 (0, 0)) := by rw [← hw7]; exact heap_alloc_new w6 _
  have HK := Aside0.mk (show k52.C w7 A 1 fShown.f1 by rw [← hw7]; exact C_alloc (block_C hK) _)
  have HL := Aside0.mk hc
  have HB7 := Aside0.mk hb7
  have HC7 := Aside0.mk (C_below HC.out hb7)
  have hs7 := blk_below HS.out hb7
  have HS7 := Aside0.mk hs7
  have HG7 := Aside0.mk hg7
  have s0 : w7.cell? ⟨w.heap.size + 1 + 1 + 1 + 1, 0, none⟩ = some (.int .i64 2) := blk_cell hs7 0
  have s1 : w7.cell? ⟨w.heap.size + 1 + 1 + 1 + 1, 1, none⟩ = some (.slice (some ⟨w.heap.size + 1 + 1 + 1, 0, none⟩) 1 1) := blk_cell hs7 1
  clear hR hc hK hb6 hb7 hg7 hs7
  go_wp2_with (rw [show w6.alloc (.cells #[.int .i64 fShown.f0, .slice A fShown.f1.length c] 28) = w7 from hw7])
  refine (Func_calls fShown (some ⟨w.heap.size + 1 + 1 + 1, 0, none⟩) 1 w7 ⟨(HG.out.below (HB.out.trans (HB7.out.mono HB.out.size))).l⟩ HC7.out ⟨okShown⟩ (by rw [text_shown]; decide)).mono ?_
  rw [text_shown]
  rintro e w8 ⟨rfl, hb8⟩
  have hs8 := blk_below HS7.out hb8
  have hg8 := blk_below HG7.out hb8
  have s0 : w8.cell? ⟨w.heap.size + 1 + 1 + 1 + 1, 0, none⟩ = some (.int .i64 2) := blk_cell hs8 0
  have s1 : w8.cell? ⟨w.heap.size + 1 + 1 + 1 + 1, 1, none⟩ = some (.slice (some ⟨w.heap.size + 1 + 1 + 1, 0, none⟩) 1 1) := blk_cell hs8 1
  have g0 : w8.cell? ⟨w6.heap.size, 0, none⟩ = some (.int .i64 2) := blk_cell hg8 0
  have g1 : w8.cell? ⟨w6.heap.size, 1, none⟩ = some (.slice A 1 c) := blk_cell hg8 1
  have HK8 := Aside0.mk (C_below HK.out hb8)
  have HC8 := Aside0.mk (C_below HC7.out hb8)
  have HB8 := Aside0.mk (HB7.out.trans (hb8.mono HB7.out.size))
  clear hs8 hg8 hb8
  have hstr : ((sShown.data.toList.toArray.toList : List UInt8) == [102, 117, 110, 99, 32, 50, 10, 98, 108, 111, 99, 107, 32, 48, 10, 97, 100, 100, 32, 50, 32, 48, 32, 49, 10, 114, 101, 116, 32, 50, 10]) = true := by decide
  rw [show (⟨sShown.data.toList.toArray⟩ : ByteArray) = ⟨#[102, 117, 110, 99, 32, 50, 10, 98, 108, 111, 99, 107, 32, 48, 10, 97, 100, 100, 32, 50, 32, 48, 32, 49, 10, 114, 101, 116, 32, 50, 10]⟩ from rfl]
  go_wp2_with fail
  refine (Go.Proofs.YtlmkhllippobaaaDoor.Pr.jacquardref03_Same.calls 40 2 (some ⟨w.heap.size + 1 + 1 + 1, 0, none⟩) 1 fShown.f1 2 A c fShown.f1 true w8 HC8.out (by decide) HK8.out HL.out same_shown).mono ?_
  rintro e w9 ⟨rfl, hb9⟩
  have HB9 := Aside0.mk (HB.out.trans ((HB8.out.trans (hb9.mono HB8.out.size)).mono HB.out.size))
  clear hb9
  go_wp2
  go_ret
  exact ⟨rfl, HB9.out⟩
end Go.Proofs.YtlmkhllippobaaaDoor.Ps
end
section
/- TextWrong's words. -/
set_option linter.unusedVariables false
namespace Go.Proofs.YtlmkhllippobaaaDoor.Ps
open Go.RowKit Go.Proofs.YtlmkhllippobaaaDoorW.PrintWords Go.Proofs.YtlmkhllippobaaaDoor.Wl Go.Proofs.YtlmkhllippobaaaDoor.Tx Go.Proofs.YtlmkhllippobaaaDoor.Kd Go.Proofs.YtlmkhllippobaaaDoor.TxW
def strL : List ByteArray := [⟨#[102, 117, 110, 99, 32, 49]⟩, ⟨#[98, 108, 111, 99, 107, 32, 50]⟩, ⟨#[98, 108, 111, 99, 107, 32, 120]⟩, ⟨#[112, 104, 105]⟩, ⟨#[112, 104, 105, 32, 53, 32, 49]⟩, ⟨#[112, 104, 105, 32, 53, 32, 49, 58, 120]⟩, ⟨#[112, 104, 105, 32, 53, 32, 49, 58, 50, 58, 51]⟩, ⟨#[97, 100, 100, 115, 32, 53, 32, 48, 32, 49]⟩, ⟨#[97, 100, 100, 32, 53, 32, 48]⟩, ⟨#[97, 100, 100, 32, 53, 32, 48, 32, 120]⟩, ⟨#[99, 111, 110, 115, 116, 32, 53]⟩, ⟨#[99, 111, 110, 115, 116, 32, 53, 32, 50, 49, 52, 55, 52, 56, 51, 54, 52, 56]⟩, ⟨#[108, 111, 97, 100, 32, 53, 32, 48]⟩, ⟨#[115, 116, 111, 114, 101, 32, 48, 32, 49]⟩, ⟨#[99, 97, 108, 108, 32, 53]⟩, ⟨#[99, 97, 108, 108, 32, 53, 32, 49, 32, 50, 32, 51, 32, 52, 32, 53, 32, 54]⟩, ⟨#[109, 117, 108, 119, 32, 53, 32, 54, 32, 48]⟩, ⟨#[106, 117, 109, 112]⟩, ⟨#[98, 114, 97, 110, 99, 104, 32, 48, 32, 49]⟩, ⟨#[115, 119, 105, 116, 99, 104, 32, 48]⟩, ⟨#[114, 101, 116, 32, 48, 32, 49]⟩, ⟨#[116, 114, 97, 112]⟩, ⟨#[63]⟩, ⟨#[116, 105, 108, 101, 32, 108, 105, 32, 49]⟩]
def wantL : List Int := [70, 70, 70, 70, 70, 71, 70, 72, 70, 71, 70, 71, 70, 70, 70, 70, 70, 70, 70, 70, 70, 70, 72, 72]
def lCells : Array Value := (strL.map Value.string).toArray
def wCells : Array Value := (wantL.map (Value.int .i64)).toArray
def lZero : Array Value := (List.replicate 24 (Value.string ⟨#[]⟩)).toArray
def wZero : Array Value := (List.replicate 24 (Value.int .i64 0)).toArray
def lStr (k : Nat) : ByteArray := strL.getD k ⟨#[]⟩
def wantOf (k : Nat) : Int := wantL.getD k 0
theorem lCells_at {k : Nat} (h : k < 24) : lCells[k]? = some (.string (lStr k)) := by
  have : ∀ k < 24, lCells[k]? = some (.string (lStr k)) := by intro k hk; (iterate 24 (cases k with | zero => rfl | succ k => ?_)); omega
  exact this k h
theorem wCells_at {k : Nat} (h : k < 24) : wCells[k]? = some (.int .i64 (wantOf k)) := by
  have : ∀ k < 24, wCells[k]? = some (.int .i64 (wantOf k)) := by intro k hk; (iterate 24 (cases k with | zero => rfl | succ k => ?_)); omega
  exact this k h
theorem lStr_size {k : Nat} (h : k < 24) : (lStr k).size ≤ 18 := by
  have : ∀ k < 24, (lStr k).size ≤ 18 := by intro k hk; (iterate 24 (cases k with | zero => decide | succ k => ?_)); omega
  exact this k h
/-- The text's beginning, with i lines without words. -/
def sHead : List UInt8 := [102, 117, 110, 99, 32, 50, 10, 98, 108, 111, 99, 107, 32, 48, 10, 106, 117, 109, 112, 32, 49, 10, 98, 108, 111, 99, 107, 32, 49, 10]
def sAt (i : Nat) : ByteArray := ⟨(sHead ++ List.replicate i 10).toArray⟩
theorem sAt_step (i : Nat) : sAt i ++ (⟨#[10]⟩ : ByteArray) = sAt (i + 1) := by
  unfold sAt
  ext1
  simp only [ByteArray.data_append]
  rw [List.replicate_succ']
  simp
theorem sAt_size (i : Nat) : (sAt i).size = 30 + i := by
  show (sHead ++ List.replicate i 10).toArray.size = 30 + i
  simp only [sHead, List.size_toArray, List.length_append, List.length_cons, List.length_nil, List.length_replicate]
def t1 (k n : Nat) : ByteArray := sAt n ++ lStr k ++ ⟨#[10, 114, 101, 116, 10]⟩
def t2 (n : Nat) : ByteArray := sAt n ++ ⟨#[112, 104, 105, 32, 53, 32, 48, 58, 49, 10, 97, 100, 100, 32, 54, 32, 48, 32, 53, 10, 114, 101, 116, 32, 54]⟩
theorem t1_size {k n : Nat} (h : k < 24) (hn : n < 10) : (t1 k n).size < 4294967281 := by
  have := lStr_size h
  unfold t1
  rw [ByteArray.size_append, ByteArray.size_append, sAt_size]
  show 30 + n + (lStr k).size + 5 < _
  omega
theorem t2_size {n : Nat} (hn : n < 10) : (t2 n).size < 4294967281 := by
  unfold t2
  rw [ByteArray.size_append, sAt_size]
  show 30 + n + 25 < _
  omega
def ok1 : Bool := (List.range 24).all fun k => (List.range 10).all fun n => decide ((parseT (t1 k n).data.toList).2 = (5 + (n : Int), wantOf k)) && (parseT (t1 k n).data.toList).1.f1.length == 0
def ok2 : Bool := (List.range 10).all fun n => decide ((parseT (t2 n).data.toList).2.2 = 0) && (parseT (t2 n).data.toList).1.f1.length == 2 && decide ((parseT (t2 n).data.toList).1.f0 = 2)
def ok3 : Bool := (List.range 10).all fun n => decide ((parseT (sAt n).data.toList).2 = (5 + (n : Int), 70))
theorem ok2_t : ok2 = true := by kernel_rfl
theorem ok3_t : ok3 = true := by kernel_rfl
theorem ok1_t : ok1 = true := by kernel_rfl
theorem wr1 {k n : Nat} (hk : k < 24) (hn : n < 10) : ∃ f, parseT (t1 k n).data.toList = (f, 5 + (n : Int), wantOf k) ∧ f.f1.length = 0 := by
  have := ok1_t
  unfold ok1 at this
  rw [List.all_eq_true] at this
  have := this k (List.mem_range.2 hk)
  rw [List.all_eq_true] at this
  have := this n (List.mem_range.2 hn)
  simp only [Bool.and_eq_true, decide_eq_true_eq, beq_iff_eq] at this
  exact ⟨_, Prod.ext rfl this.1, this.2⟩
theorem wr2 {n : Nat} (hn : n < 10) : ∃ f l, parseT (t2 n).data.toList = (f, l, 0) ∧ f.f1.length = 2 ∧ f.f0 = 2 := by
  have := ok2_t
  unfold ok2 at this
  rw [List.all_eq_true] at this
  have := this n (List.mem_range.2 hn)
  simp only [Bool.and_eq_true, decide_eq_true_eq, beq_iff_eq] at this
  exact ⟨_, _, Prod.ext rfl (Prod.ext rfl this.1.1), this.1.2, this.2⟩
theorem wr3 {n : Nat} (hn : n < 10) : ∃ f, parseT (sAt n).data.toList = (f, 5 + (n : Int), 70) := by
  have := ok3_t
  unfold ok3 at this
  rw [List.all_eq_true] at this
  have := this n (List.mem_range.2 hn)
  simp only [decide_eq_true_eq] at this
  exact ⟨_, Prod.ext rfl this⟩
end Go.Proofs.YtlmkhllippobaaaDoor.Ps
end
section
/- jacquardlaw25.TextWrong, walked. -/
set_option linter.unusedVariables false
set_option linter.unusedSimpArgs false
namespace Go.Proofs.YtlmkhllippobaaaDoor.Ps
open Go.RowKit Go.Proofs.YtlmkhllippobaaaDoor.Wb Go.Proofs.YtlmkhllippobaaaDoorW.PrintWords Go.Proofs.YtlmkhllippobaaaDoorW.PrintWords.Kd Go.Proofs.YtlmkhllippobaaaDoorW.PrintMore Go.Proofs.YtlmkhllippobaaaDoorW.PrintMore.Kd Go.Proofs.YtlmkhllippobaaaDoor.Wl Go.Proofs.YtlmkhllippobaaaDoor.Tx Go.Proofs.YtlmkhllippobaaaDoor.Kd Go.Proofs.YtlmkhllippobaaaDoor.Kp Go.Proofs.YtlmkhllippobaaaDoor.TxW
attribute [local go_sem ↓] Go.wp_at_zero Go.wp_at_succ

theorem build_to {P : Program} {ops : Array Oper} {rest : List Oper} {o : Oper} {a : Act} {w : World} {Q : Exit → Act → World → Prop} (hg : o.guard = none) (t : TypeId) (parts : Array (Nat × Operand)) (ho : o.op = .build t parts) (cells : Array Value)
    (hf : P.built t (parts.map fun (i, x) => (i, a.eval x)).toList = some cells)
    (h : wpList P ops Q rest (a.put o.dst (.agg cells)) w) : wpList P ops Q (o :: rest) a w :=
  wpList_build hg t parts ho (by rw [hf]; rfl) (by rw [hf]; exact h)

set_option maxHeartbeats 8000000 in
set_option maxRecDepth 1000000 in
theorem wrong_calls (a0 a1 : Int) (w : World) (HG : Aside0 (LaidP w)) (h0 : Aside0 (0 ≤ a0 ∧ a0 < 256)) (h1 : Aside0 (0 ≤ a1 ∧ a1 < 256)) :
    Calls Tryd.prog 3 #[.int .u8 a0, .int .u8 a1] w fun e w' => e = .returned (.bool true) ∧ Below w.heap.size w w' := by
  go_enter Tryd.func3, Tryd.ntmps3
  go_wp2_with fail
  refine (shown_calls w HG).mono ?_
  rintro e w1 ⟨rfl, hb1⟩
  have HB1 := Aside0.mk hb1
  clear hb1
  go_wp2_with (first
    | ((with_reducible refine gate_dst (N := 21) rfl ?_); refine build_to rfl _ _ rfl lCells (by as_aux_lemma => kernel_rfl) ?_)
    | ((with_reducible refine gate_dst (N := 22) rfl ?_); refine build_to rfl _ _ rfl wCells (by as_aux_lemma => kernel_rfl) ?_)
    | ((with_reducible refine gate_dst (N := 6) rfl ?_); refine box_event rfl (N := 6) rfl (cs := lZero) (t := 23) (by as_aux_lemma => kernel_rfl) ?_
       intro gl hgl w2 hbox2 hb2
       have HX2 := Aside0.mk hbox2
       have HB2 := Aside0.mk hb2
       have HE2 := Lib.hid hgl
       clear hbox2 hb2 hgl)
    | ((with_reducible refine gate_store (t := 23) (p := 6) rfl ?_)
       refine wpList_store_row rfl _ _ _ rfl gl lCells rfl rfl _ lZero HX2.out (by as_aux_lemma => kernel_rfl) (by as_aux_lemma => kernel_rfl) (by as_aux_lemma => kernel_rfl) ?_
       obtain ⟨w3, hw3⟩ : ∃ x, w2.setRow gl lCells = x := ⟨_, rfl⟩
       have HX3 : Aside0 (w3.heap[gl]? = some (.cells lCells 23 (0, 0))) := ⟨by rw [← hw3]; exact setRow_heap w2 gl _ _ _ _ HX2.out⟩
       have HB3 : Aside0 (Below w1.heap.size w1 w3) := ⟨by rw [← hw3]; exact below_setRow HB2.out (Nat.le_of_eq HE2.out.symm) _⟩
       rw [hw3]
       clear hw3 HX2 HB2 w2)
    | ((with_reducible refine gate_dst (N := 7) rfl ?_); refine box_event rfl (N := 7) rfl (cs := wZero) (t := 25) (by as_aux_lemma => kernel_rfl) ?_
       intro gw hgw w4 hbox4 hb4
       have HX4 := Aside0.mk hbox4
       have HB4 := Aside0.mk hb4
       have HE4 := Lib.hid hgw
       clear hbox4 hb4 hgw)
    | ((with_reducible refine gate_store (t := 25) (p := 7) rfl ?_)
       refine wpList_store_row rfl _ _ _ rfl gw wCells rfl rfl _ wZero HX4.out (by as_aux_lemma => kernel_rfl) (by as_aux_lemma => kernel_rfl) (by as_aux_lemma => kernel_rfl) ?_
       obtain ⟨w5, hw5⟩ : ∃ x, w4.setRow gw wCells = x := ⟨_, rfl⟩
       have HX5 : Aside0 (w5.heap[gw]? = some (.cells wCells 25 (0, 0))) := ⟨by rw [← hw5]; exact setRow_heap w4 gw _ _ _ _ HX4.out⟩
       have HB5 : Aside0 (Below w3.heap.size w3 w5) := ⟨by rw [← hw5]; exact below_setRow HB4.out (Nat.le_of_eq HE4.out.symm) _⟩
       rw [hw5]
       clear hw5 HX4 HB4 w4))
  have HLT : Aside0 (gl < w5.heap.size ∧ gl ≠ gw ∧ gl < w3.heap.size) := ⟨by
    have e2 := HE2.out
    have e3 := (Array.getElem?_eq_some_iff.1 HX3.out).1
    have e4 := HE4.out
    have e5 := HB5.out.size
    exact ⟨by omega, by omega, e3⟩⟩
  have HX3' : Aside0 (w5.heap[gl]? = some (.cells lCells 23 (0, 0))) := ⟨(HB5.out.block gl HLT.out.2.2).trans HX3.out⟩
  have HB5' : Aside0 (Below w.heap.size w w5) := ⟨HB1.out.trans (((HB3.out).trans (HB5.out.mono HB3.out.size)).mono HB1.out.size)⟩
  clear HX3 HB3 HB5 HB1 HE2 HE4
  obtain ⟨k, hk, hk24⟩ : ∃ k : Nat, a0.tmod 24 = (k : Int) ∧ k < 24 := by
    have := h0.out
    have e := Int.tmod_eq_emod_of_nonneg this.1 (b := 24)
    refine ⟨(a0.tmod 24).toNat, ?_, ?_⟩ <;> omega
  obtain ⟨n, hn, hn10⟩ : ∃ n : Nat, a1.tmod 10 = (n : Int) ∧ n < 10 := by
    have := h1.out
    have e := Int.tmod_eq_emod_of_nonneg this.1 (b := 10)
    refine ⟨(a1.tmod 10).toNat, ?_, ?_⟩ <;> omega
  have hwn : wrap64 (n : Int) = n := by unfold wrap64; omega
  rw [hk]
  have HK := Lib.hid hk24
  have HN := Lib.hid hn10
  clear hk hk24 hn10
  rw [show (⟨#[102, 117, 110, 99, 32, 50, 10, 98, 108, 111, 99, 107, 32, 48, 10, 106, 117, 109, 112, 32, 49, 10, 98, 108, 111, 99, 107, 32, 49, 10]⟩ : ByteArray) = sAt 0 from rfl]
  go_loopg [9, 10] n (fun gk s9 s10 wx => ∃ i : Nat, s9 = .string (sAt i) ∧ s10 = .int .i64 (i : Int) ∧ i + gk = n ∧ wx = w5)
  case atStart => exact ⟨0, rfl, rfl, by omega, rfl⟩
  case round =>
    obtain ⟨i, rfl, rfl, hi, rfl⟩ := hrel
    by_cases hlt : i < n
    · have c1 : decide ((i : Int) < (n : Int)) = true := by simpa using hlt
      have c2 : (9223372036854775807 < (sAt i).size + 1) = False := eq_false (by rw [sAt_size]; have := HN.out; omega)
      have hst := sAt_step i
      obtain ⟨g', rfl⟩ : ∃ g', gk = g' + 1 := ⟨gk - 1, by omega⟩
      clear hlt
      go_wp2
      go_roundg g'
      case measure => omega
      case rel => exact ⟨i + 1, rfl, by have := HN.out; simp; unfold wrap64; omega, by omega, rfl⟩
    · have c1 : decide ((i : Int) < (n : Int)) = false := by simpa using hlt
      have hin : i = n := by omega
      subst hin
      have HW := Lib.hid hn
      have lc : wr.cell? ⟨gl, k, none⟩ = some (.string (lStr k)) := (blk_cell HX3'.out k).trans (lCells_at HK.out)
      have c3 : (9223372036854775807 < (sAt i).size + (lStr k).size) = False := eq_false (by rw [sAt_size]; have := HN.out; have := lStr_size HK.out; omega)
      have c4 : (9223372036854775807 < (sAt i).size + (lStr k).size + 5) = False := eq_false (by rw [sAt_size]; have := HN.out; have := lStr_size HK.out; omega)
      clear hlt hi
      have k1 : (k : Int) < 24 := by have := HK.out; omega
      have k2 : k < 24 := HK.out
      go_wp2_with fail
      obtain ⟨f1, hp1, hl1⟩ := wr1 k2 HN.out
      have hz := t1_size k2 HN.out
      obtain ⟨f2, n2, hp2, hl2, hq2⟩ := wr2 HN.out
      have hz2 := t2_size HN.out
      obtain ⟨f3, hp3⟩ := wr3 HN.out
      have hz3 := sAt_size i
      have c5 : (9223372036854775807 < (sAt i).size + 25) = False := eq_false (by rw [sAt_size]; have := HN.out; omega)
      obtain ⟨S, hS⟩ : ∃ S : ByteArray, sAt i ++ lStr k ++ ⟨#[10, 114, 101, 116, 10]⟩ = S := ⟨_, rfl⟩
      obtain ⟨S2, hS2⟩ : ∃ S : ByteArray, sAt i ++ ⟨#[112, 104, 105, 32, 53, 32, 48, 58, 49, 10, 97, 100, 100, 32, 54, 32, 48, 32, 53, 10, 114, 101, 116, 32, 54]⟩ = S := ⟨_, rfl⟩
      rw [hS]
      rw [show t1 k i = S from hS] at hp1 hz
      rw [show t2 i = S2 from hS2] at hp2 hz2
      obtain ⟨T, hT⟩ : ∃ T, sAt i = T := ⟨_, rfl⟩
      rw [hT] at hp3 hz3 hS2 c5 ⊢
      clear hT hS lc c3 c4
      have HS2 := Lib.hid hS2
      refine (Parse_calls S wr ⟨HG.out.below HB5'.out⟩ hz).mono ?_
      rw [hp1]
      rintro e w6 ⟨v1, rfl, hR1, hb6⟩
      obtain ⟨A1, c1', rfl⟩ := R_slice hR1
      have HB6 : Aside0 (Below w.heap.size w w6) := ⟨HB5'.out.trans (hb6.mono HB5'.out.size)⟩
      have HX6 := Aside0.mk (blk_below HX5.out hb6)
      have HF1 := Lib.hid hl1
      have HZ2 := Lib.hid hz2
      have HZ3 := Lib.hid hz3
      have HP2 := Lib.hid hp2
      have HP3 := Lib.hid hp3
      have HL2 := Lib.hid hl2
      have HQ2 := Lib.hid hq2
      clear hR1 hb6 hp1 hl1 hp2 hp3 hz hz2 hz3 hl2 hq2 hS2
      go_wp2_with fail
      obtain ⟨w7, hw7⟩ : ∃ w7, w6.alloc (.cells #[.int .i64 f1.f0, .slice A1 f1.f1.length c1'] 28) = w7 := ⟨_, rfl⟩
      have hb7 : Below w6.heap.size w6 w7 := by rw [← hw7]; exact below_alloc (Below.refl _ _) _
      have HA7 : Aside0 (w7.heap[w6.heap.size]? = some (.cells #[.int .i64 f1.f0, .slice A1 f1.f1.length c1'] 28 (0, 0))) := ⟨by rw [← hw7]; exact heap_alloc_new w6 _⟩
      have HB7 := Aside0.mk (HB6.out.trans (hb7.mono HB6.out.size))
      have HX7 := Aside0.mk (blk_below HX6.out hb7)
      rw [hw7]
      rw [HS2.out]
      clear hw7 hb7 HX6
      refine (Parse_calls S2 w7 ⟨HG.out.below HB7.out⟩ HZ2.out).mono ?_
      rw [HP2.out]
      rintro e w8 ⟨v2, rfl, hR2, hb8⟩
      obtain ⟨A2, c2', rfl⟩ := R_slice hR2
      have HB8 := Aside0.mk (HB7.out.trans (hb8.mono HB7.out.size))
      have HX8 := Aside0.mk (blk_below HX7.out hb8)
      have HA8 := Aside0.mk (blk_below HA7.out hb8)
      clear hR2 hb8 HX7 HA7
      go_wp2_with fail
      obtain ⟨w9, hw9⟩ : ∃ w9, w8.alloc (.cells #[.int .i64 f2.f0, .slice A2 f2.f1.length c2'] 28) = w9 := ⟨_, rfl⟩
      have hb9 : Below w8.heap.size w8 w9 := by rw [← hw9]; exact below_alloc (Below.refl _ _) _
      have HC9 : Aside0 (w9.heap[w8.heap.size]? = some (.cells #[.int .i64 f2.f0, .slice A2 f2.f1.length c2'] 28 (0, 0))) := ⟨by rw [← hw9]; exact heap_alloc_new w8 _⟩
      have HB9 := Aside0.mk (HB8.out.trans (hb9.mono HB8.out.size))
      have HX9 := Aside0.mk (blk_below HX8.out hb9)
      have HA9 := Aside0.mk (blk_below HA8.out hb9)
      rw [hw9]
      clear hw9 hb9 HX8 HA8
      refine (Parse_calls T w9 ⟨HG.out.below HB9.out⟩ (by rw [HZ3.out]; have := HN.out; omega)).mono ?_
      rw [HP3.out]
      rintro e w10 ⟨v3, rfl, hR3, hb10⟩
      obtain ⟨A3, c3', rfl⟩ := R_slice hR3
      have HB10 := Aside0.mk (HB9.out.trans (hb10.mono HB9.out.size))
      have HX10 := Aside0.mk (blk_below HX9.out hb10)
      have HA10 := Aside0.mk (blk_below HA9.out hb10)
      have HC10 := Aside0.mk (blk_below HC9.out hb10)
      clear hR3 hb10 HX9 HA9 HC9
      obtain ⟨w11, hw11⟩ : ∃ w11, w10.alloc (.cells #[.int .i64 f3.f0, .slice A3 f3.f1.length c3'] 28) = w11 := ⟨_, rfl⟩
      have hb11 : Below w10.heap.size w10 w11 := by rw [← hw11]; exact below_alloc (Below.refl _ _) _
      have HB11 := Aside0.mk (HB10.out.trans (hb11.mono HB10.out.size))
      have hx := blk_below HX10.out hb11
      have ha := blk_below HA10.out hb11
      have hc := blk_below HC10.out hb11
      rw [HF1.out] at ha
      rw [HL2.out, HQ2.out] at hc
      have x0 : w11.cell? ⟨gw, k, none⟩ = some (.int .i64 (wantOf k)) := (blk_cell hx k).trans (wCells_at HK.out)
      have x1 : w11.cell? ⟨w6.heap.size, 0, none⟩ = some (.int .i64 f1.f0) := blk_cell ha 0
      have x2 : w11.cell? ⟨w6.heap.size, 1, none⟩ = some (.slice A1 0 c1') := blk_cell ha 1
      have x3 : w11.cell? ⟨w8.heap.size, 0, none⟩ = some (.int .i64 2) := blk_cell hc 0
      have x4 : w11.cell? ⟨w8.heap.size, 1, none⟩ = some (.slice A2 2 c2') := blk_cell hc 1
      clear hx ha hc hb11 HX10 HA10 HC10
      have hwn5 : wrap64 (5 + (i : Int)) = 5 + (i : Int) := by have := HN.out; unfold wrap64; omega
      go_wp2_with (rw [hw11])
      go_ret
      exact ⟨rfl, HB11.out⟩
end Go.Proofs.YtlmkhllippobaaaDoor.Ps
end
section
/- text.parser.each, walked: what it is given is Tile. -/
set_option linter.unusedVariables false
set_option linter.unusedSimpArgs false
namespace Go.Proofs.YtlmkhllippobaaaDoor.Ps
open Go.RowKit Go.Proofs.YtlmkhllippobaaaDoorW.PrintWords Go.Proofs.YtlmkhllippobaaaDoorW.PrintWords.Kd Go.Proofs.YtlmkhllippobaaaDoorW.PrintMore Go.Proofs.YtlmkhllippobaaaDoorW.PrintMore.Kd Go.Proofs.YtlmkhllippobaaaDoor.Wl Go.Proofs.YtlmkhllippobaaaDoor.Tx Go.Proofs.YtlmkhllippobaaaDoor.Kd Go.Proofs.YtlmkhllippobaaaDoor.Kp Go.Proofs.YtlmkhllippobaaaDoor.TxW
attribute [local go_sem ↓] Go.wp_at_zero Go.wp_at_succ

set_option maxHeartbeats 1000000 in
set_option maxRecDepth 100000 in
theorem blankTile (x : Nat) (W : World) :
    Calls Tryd.prog 29 #[.int .i32 x] W fun e w' => e = .returned (.bool (blankR x)) ∧ w' = W := by
  have hb : blankR x = (decide (x = 32) || decide (x = 9)) := by
    unfold blankR
    by_cases h1 : x = 32 <;> by_cases h2 : x = 9 <;> simp [h1, h2]
  by_cases h1 : x = 32
  · subst h1
    go_enter Tryd.func29, Tryd.ntmps29
    go_wp2
    go_ret
    exact ⟨rfl, rfl⟩
  by_cases h2 : x = 9
  · subst h2
    go_enter Tryd.func29, Tryd.ntmps29
    go_wp2
    go_ret
    exact ⟨rfl, rfl⟩
  have h3 : ((x : Int) == 32) = false := by simp; omega
  have h4 : ((x : Int) == 9) = false := by simp; omega
  have hf : blankR x = false := by rw [hb]; simp [h1, h2]
  rw [hf]
  clear hf hb h1 h2
  go_enter Tryd.func29, Tryd.ntmps29
  go_wp2
  go_ret
  exact ⟨rfl, rfl⟩
theorem entersTile : ∀ (args : Array Value) (w : World), (callFunc 29 args).run Tryd.prog w = .ok (.enter 29 args) w :=
  enters_of Tryd.func29 (by kernel_rfl) rfl
theorem fieldsTile (s : ByteArray) (w : World) (hs : s.size ≤ 4294967296) :
    Calls Tryd.prog 28 #[.string s, .func (.func 29) #[] #[]] w fun e w' => ∃ A, e = .returned (.slice (some ⟨A, 0, none⟩) (wordsS s).length (wordsS s).length) ∧ RdS w' (some ⟨A, 0, none⟩) (wordsS s) ∧ Below w.heap.size w w' := by
  refine (Tryd.strings_FieldsFunc_runes 29 #[] entersTile blankR s w hs ?_).mono ?_
  · intro W x hx hb
    unfold FnGives
    refine (blankTile x W).mono ?_
    rintro e w' ⟨rfl, rfl⟩
    exact ⟨rfl, 0, rfl⟩
  · rintro e w' ⟨A, rfl, hA, hown, hb⟩
    have hR : Kd.string.R 9 w' w.heap.size (fun _ => True) (.slice (some ⟨A, 0, none⟩) (wordsS s).length (wordsS s).length) (wordsS s) := R_of_own hown (fun _ _ => trivial)
    exact ⟨A, rfl, (RdS.of_R hR).2.2, hb⟩

/-- What each leaves of the parser. -/
def LeavesTile {σ : Type} (B g : Nat) (J : Nat → σ → World → Prop) (n : Nat) (r : Except (Nat × Int) σ) (a : Int) (w' : World) : Prop := match r with
  | .ok s => a = 0 ∧ J n s w'
  | .error (i, e) => a = i ∧ ErrAt g e w' ∧ (e = 70 ∨ e = 71 ∨ e = 72)

set_option maxHeartbeats 8000000 in
set_option maxRecDepth 1000000 in
theorem eachTile_calls {σ : Type} (B g : Nat) (f : σ → ByteArray → List ByteArray → Except Int σ) (J : Nat → σ → World → Prop) (s : ByteArray) (s0 : σ) (w : World) (HG : Aside0 (∀ w', Below B w w' → LaidP w')) (hB : B ≤ w.heap.size) (hs : s.size < 4294967281)
    (hJ : Aside0 (J 0 s0 w))
    (hJ0 : Aside0 (∀ i x W, J i x W → ErrAt g 0 W)) (hJb : Aside0 (∀ i x W W', J i x W → Below W.heap.size W W' → J i x W')) (hJm : Aside0 (∀ i x W, J i x W → J (i + 1) x W))
    (hcall : Aside0 (∀ i x W A first rest, i ≤ s.size → J i x W → Below B w W → RdS W A (first :: rest) → (∀ y ∈ first :: rest, y.size < 4294967281) → rest.length ≤ 1099511627776 →
      Calls Tryd.prog 20 #[.pointer (some ⟨g, 0, none⟩), .slice A (rest.length + 1) (rest.length + 1)] W fun e w' => e = .returned (.tuple #[]) ∧ Below B W w' ∧ Oth W w' ∧
        (match f x first rest with | .ok x' => J (i + 1) x' w' | .error e => ErrAt g e w' ∧ (e = 70 ∨ e = 71 ∨ e = 72)))) :
    Calls Tryd.prog 15 #[.pointer (some ⟨g, 0, none⟩), .string s, .func (.func 20) #[.pointer (some ⟨g, 0, none⟩)] #[]] w fun e w' => ∃ a, e = .returned (.tuple #[.int .i64 a, .int .i64 (linesB s.data.toList).length]) ∧ Below B w w' ∧ LeavesTile B g J (linesS s).length (scan f 1 s0 (linesB s.data.toList)) a w' := by
  obtain ⟨m, hm⟩ := (HG.out w (Below.refl _ _)).mx
  have hlen : (linesS s).length = Lib.countB s ⟨#[10]⟩ + 1 := Lib.splitB_all ⟨#[10]⟩ (by decide) 0 _ s rfl
  have hls : (linesS s).length ≤ s.size + 1 := by
    rw [linesS_len, Lib.size_eq]
    exact lines_len _
  have hll : (linesB s.data.toList).length = (linesS s).length := (linesS_len s).symm
  have HLL := Lib.hid hll
  have HLEN := Lib.hid hlen
  have hsz : ∀ l ∈ linesS s, l.size ≤ s.size := fun l h => by
    have h1 : l.data.toList ∈ linesB s.data.toList := by rw [← linesS_data]; exact List.mem_map_of_mem h
    have h2 := lines_size h1
    rw [Lib.size_eq, Lib.size_eq]
    exact h2
  have HSZ := Aside0.mk hsz
  clear hlen hsz hll
  go_enter Tryd.func15, Tryd.ntmps15
  go_wp2_with fail
  refine (Tryd.strings_Split s ⟨#[10]⟩ m w hs hm (by decide)).mono ?_
  rintro e w1 ⟨rfl, rfl⟩
  rw [← HLEN.out]
  obtain ⟨w1, hw1⟩ : ∃ w1, w.alloc (.cells ((Lib.splitB ⟨#[10]⟩ 0 (Lib.countB s ⟨#[10]⟩) s).map Value.string).toArray 9) = w1 := ⟨_, rfl⟩
  have hbel : Below w.heap.size w w1 := by rw [← hw1]; exact (Below.refl _ _).alloc (Nat.le_refl _) _
  have hrd : RdS w1 (some ⟨w.heap.size, 0, none⟩) (linesS s) := by rw [← hw1]; exact RdS.new w (linesS s) (by omega)
  rw [hw1]
  have HBEL := Aside0.mk hbel
  have HRD := Aside0.mk hrd
  have HJ1 := Aside0.mk (hJb.out 0 s0 w w1 hJ.out hbel)
  clear hw1 hbel hrd hm hJ
  go_wp2
  go_loopg [16] (linesS s).length (fun gk s16 wx => ∃ (k : Nat) (x : σ), s16 = .int .i64 (k : Int) ∧ k + gk = (linesS s).length ∧ J k x wx ∧ Below B w wx ∧ RdS wx (some ⟨w.heap.size, 0, none⟩) (linesS s) ∧ scan f 1 s0 (linesB s.data.toList) = scan f (k + 1) x ((linesB s.data.toList).drop k))
  case atStart => exact ⟨0, s0, rfl, by omega, HJ1.out, HBEL.out.mono hB, HRD.out, by simp⟩
  case round =>
    obtain ⟨k, x, rfl, hk, hj, hbx, hrx, hsc⟩ := hrel
    have HJX := Aside0.mk hj
    have HBX := Aside0.mk hbx
    have HRX := Aside0.mk hrx
    have HSC := Lib.hid hsc
    by_cases hlt : k < (linesS s).length
    · obtain ⟨g', rfl⟩ : ∃ g', gk = g' + 1 := ⟨gk - 1, by omega⟩
      obtain ⟨ad, e1, hc⟩ := at_string hrx.now (k : Int) (by omega) (by omega)
      injection e1 with e1
      subst e1
      rw [Int.toNat_natCast, add_plain] at hc
      obtain ⟨l, hlk⟩ : ∃ l, rdOf ByteArray.empty (linesS s) (k : Int) = l := ⟨_, rfl⟩
      have hget : (linesS s)[k]? = some l := by
        rw [← hlk, List.getElem?_eq_getElem hlt]
        simp [rdOf, List.getD_eq_getElem?_getD, List.getElem?_eq_getElem hlt]
      rw [hlk] at hc
      have hlsz : l.size ≤ s.size := HSZ.out l (List.mem_of_getElem? hget)
      have HGET := Lib.hid hget
      obtain ⟨m2, hm2⟩ := (HG.out wr hbx).mx
      clear hlk hget hj hbx hrx hsc
      go_wp2_with fail
      refine (Tryd.strings_Cut l ⟨#[35]⟩ m2 wr (by omega) hm2).mono ?_
      rintro e w2 ⟨rfl, nd, rfl⟩
      obtain ⟨h, hh⟩ : ∃ h : ByteArray, (⟨(Lib.cut l.data.toList [35]).1.toArray⟩ : ByteArray) = h := ⟨_, rfl⟩
      have hhs : h.size ≤ l.size := by
        rw [← hh, Lib.size_eq, Lib.size_eq]
        have h1 := head_len l.data.toList
        rw [← cut_headOf] at h1
        exact h1
      have hhd : h = ⟨(headOf l.data.toList).toArray⟩ := by rw [← hh, cut_headOf]
      have HHD := Lib.hid hhd
      rw [show (⟨#[35]⟩ : ByteArray).data.toList = [35] from rfl, hh]
      clear hh hhd
      go_wp2_with fail
      refine (fieldsTile h (wr.drewN nd) (by omega)).mono ?_
      rintro e w3 ⟨gA, rfl, hrw, hb3⟩
      have hwo : wordsOf l.data.toList = wordsS h := by rw [wordsOf_eq, HHD.out]
      have hwsz : ∀ y ∈ wordsS h, y.size < 4294967281 := fun y hy => by
        rw [wordsS_eq] at hy
        obtain ⟨z, hz, rfl⟩ := List.mem_map.1 hy
        have h1 := words_size hz
        rw [Lib.size_eq] at hhs
        rw [Lib.size_eq]
        show z.length < _
        omega
      have hwl : (wordsS h).length ≤ h.size + 1 := by
        rw [wordsS_eq, List.length_map, Lib.size_eq]
        exact words_len _
      have HWO := Lib.hid hwo
      have HWS := Aside0.mk hwsz
      have HRW := Aside0.mk hrw
      have hb03 : Below wr.heap.size wr w3 := (pw_below_drewN (Below.refl _ _) nd).trans hb3
      have HB03 := Aside0.mk hb03
      have HJ3 := Aside0.mk (hJb.out k x wr w3 HJX.out hb03)
      have HB3 := Aside0.mk (HBX.out.trans (hb03.mono (Nat.le_trans hB HBX.out.size)))
      have HR3 := Aside0.mk (HRX.out.below hb03)
      obtain ⟨ws, hws⟩ : ∃ ws, wordsS h = ws := ⟨_, rfl⟩
      rw [hws] at HWO HWS HRW hwl ⊢
      clear hb3 hrw hwo hwsz hb03 hws
      cases ws with
      | nil =>
        go_wp2
        go_roundg g'
        case measure => omega
        case rel => exact ⟨k + 1, x, by first | (simp; done) | (simp; unfold wrap64; omega), by omega, hJm.out _ _ _ HJ3.out, HB3.out, HR3.out, by rw [HSC.out, drop_cons (linesS_at HGET.out)]; exact scan_skip f (k + 1) x _ _ HWO.out⟩
      | cons first rest =>
        rw [List.length_cons] at hwl ⊢
        obtain ⟨r, hr⟩ : ∃ r, f x first rest = r := ⟨_, rfl⟩
        have hcl := hcall.out k x w3 (some ⟨gA, 0, none⟩) first rest (by omega) HJ3.out HB3.out HRW.out HWS.out (by omega)
        rw [hr] at hcl
        have HR := Lib.hid hr
        have HCL := Lib.hid hcl
        clear hcl hr
        have hne : ((rest.length : Int) + 1 == 0) = false := by simp; omega
        go_wp2_with fail
        refine HCL.out.mono ?_
        cases r with
        | ok x' =>
          rintro e w4 ⟨rfl, hb4, ho4, hj4⟩
          obtain ⟨ca, cb, cc, cd, hcb⟩ := hJ0.out _ _ _ hj4
          have c4 : w4.cell? ⟨g, 3, none⟩ = some (.int .i64 0) := blk_cell hcb 3
          have HJ4 := Aside0.mk hj4
          have HB4 := Aside0.mk (HB3.out.trans hb4)
          have HR4 := Aside0.mk (HR3.out.oth ho4)
          clear hcb hj4 hb4 ho4
          go_wp2
          go_roundg g'
          case measure => omega
          case rel => exact ⟨k + 1, x', by first | (simp; done) | (simp; unfold wrap64; omega), by omega, HJ4.out, HB4.out, HR4.out, by rw [HSC.out, drop_cons (linesS_at HGET.out)]; exact scan_ok HWO.out HR.out⟩
        | error e0 =>
          rintro e w4 ⟨rfl, hb4, ho4, hj4, he0⟩
          obtain ⟨ca, cb, cc, cd, hcb⟩ := hj4
          have c4 : w4.cell? ⟨g, 3, none⟩ = some (.int .i64 e0) := blk_cell hcb 3
          have hen : (e0 == 0) = false := by simp; omega
          have hen2 : (e0 != 0) = true := by simp; omega
          have HERR : Aside0 (ErrAt g e0 w4) := ⟨⟨_, _, _, _, hcb⟩⟩
          have HE0 := Lib.hid he0
          have HB4 := Aside0.mk (HB3.out.trans hb4)
          have hsc2 : scan f 1 s0 (linesB s.data.toList) = .error (k + 1, e0) := by rw [HSC.out, drop_cons (linesS_at HGET.out)]; exact scan_err HWO.out HR.out
          have HSC2 := Lib.hid hsc2
          clear hcb hb4 ho4 he0 hsc2
          go_wp2
          go_ret2
          refine ⟨(k : Int) + 1, ?_, HB4.out, ?_⟩
          · rw [HLL.out]; rfl
          · rw [HSC2.out]; exact ⟨by simp, HERR.out, HE0.out⟩
    · have hke : k = (linesS s).length := by omega
      subst hke
      have hsc2 : scan f 1 s0 (linesB s.data.toList) = .ok x := by
        rw [HSC.out, List.drop_eq_nil_of_le (by rw [HLL.out]; exact Nat.le_refl _)]
        rfl
      have HSC2 := Lib.hid hsc2
      clear hj hbx hrx hsc hsc2
      go_wp2
      go_ret2
      refine ⟨0, ?_, HBX.out, ?_⟩
      · rw [HLL.out]; rfl
      · rw [HSC2.out]; exact ⟨rfl, HJX.out⟩
end Go.Proofs.YtlmkhllippobaaaDoor.Ps
end
section
/- tile.Name and tile.Patterns, walked. -/
set_option linter.unusedVariables false
set_option linter.unusedSimpArgs false
namespace Go.Proofs.YtlmkhllippobaaaDoor.Tl
open Go.RowKit Go.Proofs.YtlmkhllippobaaaDoorW.PrintWords Go.Proofs.YtlmkhllippobaaaDoor.Wl
def tnamesText : ByteArray := ⟨#[108, 105, 32, 108, 105, 119, 32, 97, 100, 100, 32, 115, 117, 98, 32, 109, 117, 108, 32, 97, 110, 100, 32, 111, 114, 32, 120, 111, 114, 32, 115, 104, 108, 32, 115, 104, 114, 32, 115, 97, 114, 32, 101, 113, 32, 108, 116, 32, 108, 116, 117, 32, 100, 105, 118, 32, 97, 100, 100, 105, 32, 115, 117, 98, 105, 32, 97, 110, 100, 105, 32, 115, 104, 108, 105, 32, 115, 104, 114, 105, 32, 115, 97, 114, 105, 32, 109, 97, 100, 100, 32, 108, 100, 32, 108, 100, 97, 32, 108, 100, 120, 32, 108, 100, 108, 32, 115, 116, 32, 115, 116, 97, 32, 115, 116, 120, 32, 115, 116, 108, 32, 99, 97, 108, 108, 32, 109, 117, 108, 119, 32, 98, 110, 122, 32, 98, 101, 113, 32, 98, 108, 116, 32, 98, 108, 116, 117, 32, 106, 116]⟩
def tnameList : List (List UInt8) := Lib.fields [108, 105, 32, 108, 105, 119, 32, 97, 100, 100, 32, 115, 117, 98, 32, 109, 117, 108, 32, 97, 110, 100, 32, 111, 114, 32, 120, 111, 114, 32, 115, 104, 108, 32, 115, 104, 114, 32, 115, 97, 114, 32, 101, 113, 32, 108, 116, 32, 108, 116, 117, 32, 100, 105, 118, 32, 97, 100, 100, 105, 32, 115, 117, 98, 105, 32, 97, 110, 100, 105, 32, 115, 104, 108, 105, 32, 115, 104, 114, 105, 32, 115, 97, 114, 105, 32, 109, 97, 100, 100, 32, 108, 100, 32, 108, 100, 97, 32, 108, 100, 120, 32, 108, 100, 108, 32, 115, 116, 32, 115, 116, 97, 32, 115, 116, 120, 32, 115, 116, 108, 32, 99, 97, 108, 108, 32, 109, 117, 108, 119, 32, 98, 110, 122, 32, 98, 101, 113, 32, 98, 108, 116, 32, 98, 108, 116, 117, 32, 106, 116]
theorem tnameList_len : tnameList.length = 37 := by decide +kernel
theorem tnames_ascii : ∀ (j : Nat) (b : UInt8), tnamesText.data.toList[j]? = some b → b.toNat < 128 := by
  have h : tnamesText.data.toList.all (fun b => decide (b.toNat < 128)) = true := by decide +kernel
  intro j b hj
  have := List.all_eq_true.mp h b (List.mem_of_getElem? hj)
  simpa using this
def tnameVals : List Value := tnameList.map (fun l => .string ⟨l.toArray⟩)
set_option maxRecDepth 100000 in
theorem fields_tnames (w : World) (HG : Aside0 (Laid w)) :
    Calls Tryd.prog 18 #[.string tnamesText] w fun e w' => e = .returned (.slice (some ⟨w.heap.size, 0, none⟩) 37 37) ∧ w' = w.alloc (.cells tnameVals.toArray 9) := by
  refine (Tryd.strings_Fields_laid tnamesText w (by decide) tnames_ascii HG.out.asc).mono ?_
  rintro e w1 ⟨rfl, rfl⟩
  have e1 : Lib.fields tnamesText.data.toList = tnameList := rfl
  refine ⟨?_, ?_⟩
  · rw [e1, tnameList_len]
  · rw [e1]; rfl
theorem tname_cell (w : World) (i : Nat) (h : i < 37) : (w.alloc (.cells tnameVals.toArray 9)).cell? ⟨w.heap.size, i, none⟩ = some (.string ⟨(tnameList.getD i []).toArray⟩) := by
  have h1 : i < tnameList.length := by rw [tnameList_len]; exact h
  have e : tnameVals.toArray[i]? = some (.string ⟨(tnameList.getD i []).toArray⟩) := by
    unfold tnameVals
    rw [List.getElem?_toArray, List.getElem?_map, List.getElem?_eq_getElem h1, List.getD_eq_getElem?_getD, List.getElem?_eq_getElem h1]
    rfl
  have hh := (MapKept.heap_alloc w (.cells tnameVals.toArray 9)).1
  simp only [World.cell?, hh]
  exact e
/-- What 'tile.Name' computes. -/
def tileNm (a0 : Int) : ByteArray := if 1 ≤ a0 ∧ a0 ≤ 37 then ⟨(tnameList.getD (a0.toNat - 1) []).toArray⟩ else ⟨#[]⟩
theorem tile_Patterns_calls (w : World) (HG : Aside0 (Laid w)) :
    Calls Tryd.prog 42 #[] w fun e w' => e = .returned (.int .i64 37) ∧ Below w.heap.size w w' := by
  have fn := fields_tnames w HG
  unfold tnamesText at fn
  go_enter Tryd.func42, Tryd.ntmps42
  go_wp2_with fail
  refine fn.mono ?_
  rintro e w1 ⟨rfl, rfl⟩
  go_wp2
  go_ret
  exact ⟨rfl, (Below.refl _ _).alloc (Nat.le_refl _) _⟩
set_option maxHeartbeats 1000000 in
set_option maxRecDepth 100000 in
theorem tile_Name_calls (a0 : Int) (w : World) (HG : Aside0 (Laid w)) :
    Calls Tryd.prog 8 #[.int .i64 a0] w fun e w' => e = .returned (.string (tileNm a0)) ∧ Below w.heap.size w w' := by
  have fn := fields_tnames w HG
  unfold tnamesText at fn
  unfold tileNm
  by_cases c : 1 ≤ a0 ∧ a0 ≤ 37
  · rw [if_pos c]
    obtain ⟨c1, c2⟩ := c
    have hc := tname_cell w (a0.toNat - 1) (by omega)
    have b0 : decide (a0 < 1) = false := by simp; omega
    have b1 : decide (37 < a0) = false := by simp; omega
    go_enter Tryd.func8, Tryd.ntmps8
    go_wp2_with fail
    refine fn.mono ?_
    rintro e w1 ⟨rfl, rfl⟩
    go_wp2
    go_ret
    exact ⟨rfl, (Below.refl _ _).alloc (Nat.le_refl _) _⟩
  · rw [if_neg c]
    by_cases c1 : a0 < 1
    · have b0 : decide (a0 < 1) = true := by simp; omega
      go_enter Tryd.func8, Tryd.ntmps8
      go_wp2_with fail
      refine fn.mono ?_
      rintro e w1 ⟨rfl, rfl⟩
      go_wp2
      go_ret
      exact ⟨rfl, (Below.refl _ _).alloc (Nat.le_refl _) _⟩
    · have b0 : decide (a0 < 1) = false := by simp; omega
      have b1 : decide (37 < a0) = true := by simp; omega
      go_enter Tryd.func8, Tryd.ntmps8
      go_wp2_with fail
      refine fn.mono ?_
      rintro e w1 ⟨rfl, rfl⟩
      go_wp2
      go_ret
      exact ⟨rfl, (Below.refl _ _).alloc (Nat.le_refl _) _⟩
end Go.Proofs.YtlmkhllippobaaaDoor.Tl
end
