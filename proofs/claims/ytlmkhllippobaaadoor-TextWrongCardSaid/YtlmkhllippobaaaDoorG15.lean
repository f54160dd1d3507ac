/- Parts of the proof, one behind the other: PlKindNo, PlNofunc, PlNoblock, PlNophi, Pline, TxSize. -/
import Derived.Test.YtlmkhllippobaaaDoorG11
import Derived.Test.YtlmkhllippobaaaDoorG12
import Derived.Test.YtlmkhllippobaaaDoorG13
import Derived.Test.YtlmkhllippobaaaDoorG14
import Derived.Test.YtlmkhllippobaaaDoorG04
section
/- text.parser.line, walked: KindNo. -/
set_option linter.unusedVariables false
set_option linter.unusedSimpArgs false
namespace Go.Proofs.YtlmkhllippobaaaDoor.Ps
open Go.RowKit Go.Proofs.YtlmkhllippobaaaDoorW.PrintWords Go.Proofs.YtlmkhllippobaaaDoorW.PrintWords.Kd Go.Proofs.YtlmkhllippobaaaDoorW.PrintMore Go.Proofs.YtlmkhllippobaaaDoorW.PrintMore.Kd Go.Proofs.YtlmkhllippobaaaDoor.Wl Go.Proofs.YtlmkhllippobaaaDoor.Tx Go.Proofs.YtlmkhllippobaaaDoor.Kd Go.Proofs.YtlmkhllippobaaaDoor.Kp Go.Proofs.YtlmkhllippobaaaDoor.Mp Go.Proofs.YtlmkhllippobaaaDoor.Wb
attribute [local go_sem ↓] Go.wp_at_zero Go.wp_at_succ

set_option maxHeartbeats 16000000 in
set_option maxRecDepth 1000000 in
theorem line_kindNo (B g : Nat) (A : Option Addr) (cap : Nat) (s : ByteArray) (t : List ByteArray) (st : St) (w : World) (HG : Aside0 (∀ w', Below B w w' → LaidP w')) (hps : PS B g st 0 w) (hr : RdS w A (s :: t)) (hc : t.length + 1 ≤ cap) (hl : t.length ≤ 1099511627776)
    (hw : Aside0 (∀ s' ∈ s :: t, s'.size < 4294967281)) (hs1 : s ≠ ⟨#[102, 117, 110, 99]⟩) (hs2 : s ≠ ⟨#[98, 108, 111, 99, 107]⟩) (hs3 : s ≠ ⟨#[112, 104, 105]⟩) (ho : opOf s = 0) (hk : 0 < kindOf s) (ha : st.at_ < 2) :
    Calls Tryd.prog 16 #[.pointer (some ⟨g, 0, none⟩), .slice A (t.length + 1) cap] w fun e w' => e = .returned (.tuple #[]) ∧ Stepped B g (.error 70) w w' := by
  have hq1 : (s.toList == [102, 117, 110, 99]) = false := lit_ne [102, 117, 110, 99] hs1
  have hq2 : (s.toList == [98, 108, 111, 99, 107]) = false := lit_ne [98, 108, 111, 99, 107] hs2
  have hq3 : (s.toList == [112, 104, 105]) = false := lit_ne [112, 104, 105] hs3
  have HOE := Lib.hid ho
  clear ho
  have HKE := Lib.hid hk
  clear hk
  have had : decide (2 ≤ st.at_) = false := decide_eq_false (by omega)
  obtain ⟨v, hb, hS⟩ := hps.ex
  have HB := Aside0.mk hb
  have hlt := blk_lt hb
  obtain ⟨A', hsl, hrd⟩ := cut1 A s t cap hc
  have HPS := Aside0.mk hps
  have HS := Aside0.mk hS
  have HR := Aside0.mk hr
  have HRD := Aside0.mk hrd
  obtain ⟨ad, rfl, hc0⟩ := at_string hr.now 0 (by omega) (by simp)
  have hc0 : w.cell? ad = some (.string s) := by
    have : w.cell? (ad.add 0) = some (.string s) := hc0
    rwa [show ad.add 0 = ad by simp [Addr.add]] at this
  clear hS hb hps hr hrd
  have hmf : ∀ (fn : Fn) (first cp : Array Value) (w : World), (Instr.makeFunc fn first cp).run Tryd.prog w = .ok (.func fn first cp) w := fun _ _ _ _ => rfl
  have hmm := fun (w : World) => run_makeMap (P := Tryd.prog) 87 w
  go_enter Tryd.func16, Tryd.ntmps16
  go_wp2
  obtain ⟨W1, hW1⟩ : ∃ W1, w.alloc (.cells #[Value.pointer (some ⟨g, 0, none⟩)] 55) = W1 := ⟨_, rfl⟩
  have hbel : Below w.heap.size w W1 := by rw [← hW1]; exact (Below.refl _ _).alloc (Nat.le_refl _) _
  obtain ⟨gp, hgp⟩ : ∃ gp, w.heap.size = gp := ⟨_, rfl⟩
  have hpb : W1.heap[gp]? = some (.cells #[.pointer (some ⟨g, 0, none⟩)] 55 (0, 0)) := by rw [← hW1, ← hgp]; exact heap_alloc_new w _
  have hc1 : W1.cell? ad = some (.string s) := pw_cell_below hbel hc0
  rw [hW1]
  go_region_held3 (fun w' => w'.cell? ad = some (.string s)) (go_keep) (fail)
  obtain ⟨W2, hW2⟩ : ∃ W2, (W1.alloc (.cells #[Value.slice A' t.length (cap - 1)] 63)).drew = W2 := ⟨_, rfl⟩
  obtain ⟨gr, hgr⟩ : ∃ gr, W1.heap.size = gr := ⟨_, rfl⟩
  have hb2 : Below w.heap.size w W2 := by rw [← hW2]; exact below_drew (hbel.alloc hbel.size _)
  have hrb : W2.heap[gr]? = some (.cells #[.slice A' t.length (cap - 1)] 63 (0, 0)) := by rw [← hW2, ← hgr]; exact heap_alloc_new W1 _
  have hpb2 : W2.heap[gp]? = some (.cells #[.pointer (some ⟨g, 0, none⟩)] 55 (0, 0)) := by rw [← hW2]; exact blk_alloc hpb _
  rw [hW2, hgr]
  have HPB2 := Aside0.mk hpb2
  have HRB2 := Aside0.mk hrb
  have HB2 := Aside0.mk hb2
  clear hW2 hgr hgp hW1 hbel hpb hc1 hc0 hb2 hrb hpb2
  go_wp2_with ((with_reducible refine at_insert ?_); refine wpList_insert_str rfl _ _ _ 87 rfl under_fm under_s _ _ _ _ rfl (by first | rfl | simp) rfl rfl ?_)
  obtain ⟨W3, hW3⟩ : ∃ W3, W2.alloc (.map #[⟨.string ⟨#[102, 117, 110, 99]⟩, (.func (.func 30) #[] #[.pointer (some ⟨gp, 0, none⟩), .pointer (some ⟨gr, 0, none⟩)]), 0⟩, ⟨.string ⟨#[98, 108, 111, 99, 107]⟩, (.func (.func 31) #[] #[.pointer (some ⟨gp, 0, none⟩), .pointer (some ⟨gr, 0, none⟩)]), 1⟩, ⟨.string ⟨#[112, 104, 105]⟩, (.func (.func 32) #[] #[.pointer (some ⟨gp, 0, none⟩)]), 2⟩] 3) = W3 := ⟨_, rfl⟩
  obtain ⟨gm, hgm⟩ : ∃ gm, W2.heap.size = gm := ⟨_, rfl⟩
  have hm3 : W3.heap[gm]? = some (.map #[⟨.string ⟨#[102, 117, 110, 99]⟩, (.func (.func 30) #[] #[.pointer (some ⟨gp, 0, none⟩), .pointer (some ⟨gr, 0, none⟩)]), 0⟩, ⟨.string ⟨#[98, 108, 111, 99, 107]⟩, (.func (.func 31) #[] #[.pointer (some ⟨gp, 0, none⟩), .pointer (some ⟨gr, 0, none⟩)]), 1⟩, ⟨.string ⟨#[112, 104, 105]⟩, (.func (.func 32) #[] #[.pointer (some ⟨gp, 0, none⟩)]), 2⟩] 3) := by rw [← hW3, ← hgm]; exact heap_alloc_new W2 _
  have hb23 : Below W2.heap.size W2 W3 := by rw [← hW3]; exact (Below.refl _ _).alloc (Nat.le_refl _) _
  rw [hW3, hgm]
  have HM3 := Aside0.mk hm3
  have HB23 := Aside0.mk hb23
  clear hW3 hgm hm3 hb23 hmm hmf
  have hb3 : Below w.heap.size w W3 := HB2.out.trans (HB23.out.mono HB2.out.size)
  have HB3 := Aside0.mk hb3
  clear hb3
  refine (fields_terms W3 ⟨(HG.out _ (HB3.out.mono HPS.out.size)).l⟩).mono ?_
  rintro e w4 ⟨rfl, rfl⟩
  go_wp2_with fail
  refine (Tryd.slices_Index_string W3.heap.size 0 5 5 termStrs s _ (by rw [termStrs_len]; exact Nat.le_refl _) (by omega) (terms_cells W3)).mono ?_
  rintro e w4 ⟨rfl, rfl⟩
  rw [List.take_of_length_le (by rw [termStrs_len]; exact Nat.le_refl _)]
  obtain ⟨kx, hkx⟩ : ∃ kx, Lib.idxOfS termStrs s = kx := ⟨_, rfl⟩
  have hkb := idx_bounds termStrs s
  rw [termStrs_len, hkx] at hkb
  obtain ⟨hk0, hk1⟩ := hkb
  rw [hkx]
  have HKX := Lib.hid hkx
  clear hkx
  have hb4 : Below W3.heap.size W3 (W3.alloc (.cells termVals.toArray 9)) := (Below.refl _ _).alloc (Nat.le_refl _) _
  have HB4 := Aside0.mk hb4
  clear hb4
  go_wp2_with fail
  refine (word_Number.calls s (opOf s) _ ⟨(HG.out _ ((HB3.out.trans (HB4.out.mono HB3.out.size)).mono HPS.out.size)).l⟩ rfl).mono ?_
  rintro e W5 ⟨rfl, hb5⟩
  obtain ⟨ox, hox⟩ : ∃ ox, opOf s = ox := ⟨_, rfl⟩
  have hob := op_bounds s
  rw [hox] at hob
  obtain ⟨ho0, ho1⟩ := hob
  rw [hox]
  have HOX := Lib.hid hox
  clear hox
  have hb35 : Below W3.heap.size W3 W5 := HB4.out.trans (hb5.mono HB4.out.size)
  have HB35 := Aside0.mk hb35
  have HB5 := Aside0.mk (HB3.out.trans (hb35.mono HB3.out.size))
  have HM5 := Aside0.mk (blk_below HM3.out hb35)
  have HPB5 := Aside0.mk (blk_below (blk_below HPB2.out HB23.out) hb35)
  have HRB5 := Aside0.mk (blk_below (blk_below HRB2.out HB23.out) hb35)
  have p5 : W5.cell? ⟨gp, 0, none⟩ = some (.pointer (some ⟨g, 0, none⟩)) := blk_cell HPB5.out 0
  have r5 : W5.cell? ⟨gr, 0, none⟩ = some (.slice A' t.length (cap - 1)) := blk_cell HRB5.out 0
  have HG5 := Aside0.mk (blk_below HB.out HB5.out)
  have at5 : W5.cell? ⟨g, 2, none⟩ = some (.int .i64 st.at_) := blk_cell HG5.out 2
  have HPS5 := Aside0.mk (HPS.out.below HB5.out)
  have HRT := Aside0.mk (HRD.out _ (HR.out.below HB5.out))
  clear hb5 hb35
  have hmiss : Instr.findNow .string (.string s) #[⟨.string ⟨#[102, 117, 110, 99]⟩, (.func (.func 30) #[] #[.pointer (some ⟨gp, 0, none⟩), .pointer (some ⟨gr, 0, none⟩)]), 0⟩, ⟨.string ⟨#[98, 108, 111, 99, 107]⟩, (.func (.func 31) #[] #[.pointer (some ⟨gp, 0, none⟩), .pointer (some ⟨gr, 0, none⟩)]), 1⟩, ⟨.string ⟨#[112, 104, 105]⟩, (.func (.func 32) #[] #[.pointer (some ⟨gp, 0, none⟩)]), 2⟩].toList 0 = some none := find_str_miss _ _ (by
    intro e he
    simp only [List.mem_cons, List.not_mem_nil, or_false] at he
    rcases he with rfl | rfl | rfl
    · exact ⟨_, rfl, hs1⟩
    · exact ⟨_, rfl, hs2⟩
    · exact ⟨_, rfl, hs3⟩)
  have HMISS := Lib.hid hmiss
  have HS1 := Lib.hid hs1
  have HS2 := Lib.hid hs2
  have HS3 := Lib.hid hs3
  clear hmiss hs1 hs2 hs3
  have hox : ¬ 0 < ox := by have := HOX.out; have h2 := HOE.out; omega
  have hoxd : decide (0 < ox) = false := decide_eq_false hox
  have hkx : 0 < 1 + kx := by have := HKX.out; have h2 := HKE.out; unfold kindOf at h2; omega
  go_wp2_with (((with_reducible refine at_lookup_ ?_); refine wpList_lookup_of rfl _ _ 87 true rfl (.string s) gm rfl rfl _ (look_str_miss under_fm under_s HM5.out s _ zero_fn HMISS.out) ?_))
  go_region
  obtain ⟨W6, hW6⟩ : ∃ W6, W5.drew = W6 := ⟨_, rfl⟩
  have hh6 : W6.heap = W5.heap := by rw [← hW6]; rfl
  have hbw6 : Below w.heap.size w W6 := by rw [← hW6]; first | exact below_drew HB5.out | exact pw_below_drewN HB5.out _
  rw [hW6]
  have HB6 := Aside0.mk hbw6
  have HPB6 := Aside0.mk ((show W6.heap[gp]? = W5.heap[gp]? by rw [hh6]).trans HPB5.out)
  have HRB6 := Aside0.mk ((show W6.heap[gr]? = W5.heap[gr]? by rw [hh6]).trans HRB5.out)
  have HG6 := Aside0.mk ((show W6.heap[g]? = W5.heap[g]? by rw [hh6]).trans HG5.out)
  have HPS6 := Aside0.mk (HPS.out.below HB6.out)
  have HRT6 := Aside0.mk (HRD.out _ (HR.out.below HB6.out))
  clear p5 r5 at5 hW6 hh6 hbw6
  have p6 : W6.cell? ⟨gp, 0, none⟩ = some (.pointer (some ⟨g, 0, none⟩)) := blk_cell HPB6.out 0
  have r6 : W6.cell? ⟨gr, 0, none⟩ = some (.slice A' t.length (cap - 1)) := blk_cell HRB6.out 0
  have at6 : W6.cell? ⟨g, 2, none⟩ = some (.int .i64 st.at_) := blk_cell HG6.out 2
  go_wp2_with (go_at_call 35; refine (must_yes g _ _ _ _ 72 W6 HG6.out).mono ?_; rintro e w7 ⟨rfl, rfl⟩)
  have hmust : Calls Tryd.prog 35 #[.pointer (some ⟨g, 0, none⟩), .bool false, .int .i64 70] W6.drew fun e w7 => e = .returned (.bool false) ∧ w7.cell? ⟨gp, 0, none⟩ = some (.pointer (some ⟨g, 0, none⟩)) ∧ w7.cell? ⟨g, 2, none⟩ = some (.int .i64 st.at_) ∧ Stepped B g (.error 70) w w7 := by
    refine (must_no g _ _ _ _ 70 (.inl rfl) W6.drew HG6.out).mono ?_
    rintro e w7 ⟨rfl, rfl⟩
    exact ⟨rfl, blk_cell (blk_far (w := W6.drew) HPB6.out (blk_ne HPB6.out HG6.out (by decide)) (p := ⟨g, 3, none⟩) _) 0, blk_cell (blk_put (w := W6.drew) HG6.out 3 _ rfl) 2,
      ((below_drew HB6.out).mono HPS.out.size).setCell (p := ⟨g, 3, none⟩) HPS.out.base _, (Oth.below (below_drew HB6.out)).trans (Oth.set_ (w := W6.drew) HG6.out (by decide) _ _), ⟨_, _, _, _, blk_put (w := W6.drew) HG6.out 3 _ rfl⟩, .inl rfl⟩
  have HMUST := Lib.hid hmust
  clear hmust
  go_wp2
  go_region_held3 (fun w' => w'.cell? ⟨gp, 0, none⟩ = some (.pointer (some ⟨g, 0, none⟩)) ∧ w'.cell? ⟨g, 2, none⟩ = some (.int .i64 st.at_)) (go_keep)
    ((go_at_call 35; refine HMUST.out.mono ?_; rintro e w7 ⟨rfl, p7, a7, hst7⟩; have HST7 := Aside0.mk hst7; clear hst7))
  go_wp2
  go_end0
  refine ⟨rfl, ?_⟩
  first | exact HST7.out | exact HST7.out.drew | exact HST7.out.drewN _

end Go.Proofs.YtlmkhllippobaaaDoor.Ps
end
section
/- text.parser.line, walked: Nofunc. -/
set_option linter.unusedVariables false
set_option linter.unusedSimpArgs false
namespace Go.Proofs.YtlmkhllippobaaaDoor.Ps
open Go.RowKit Go.Proofs.YtlmkhllippobaaaDoorW.PrintWords Go.Proofs.YtlmkhllippobaaaDoorW.PrintWords.Kd Go.Proofs.YtlmkhllippobaaaDoorW.PrintMore Go.Proofs.YtlmkhllippobaaaDoorW.PrintMore.Kd Go.Proofs.YtlmkhllippobaaaDoor.Wl Go.Proofs.YtlmkhllippobaaaDoor.Tx Go.Proofs.YtlmkhllippobaaaDoor.Kd Go.Proofs.YtlmkhllippobaaaDoor.Kp Go.Proofs.YtlmkhllippobaaaDoor.Mp Go.Proofs.YtlmkhllippobaaaDoor.Wb
attribute [local go_sem ↓] Go.wp_at_zero Go.wp_at_succ

set_option maxHeartbeats 16000000 in
set_option maxRecDepth 1000000 in
theorem line_funcNo (B g : Nat) (A : Option Addr) (cap : Nat) (t : List ByteArray) (st : St) (w : World) (HG : Aside0 (∀ w', Below B w w' → LaidP w')) (hps : PS B g st 0 w) (hr : RdS w A (⟨#[102, 117, 110, 99]⟩ :: t)) (hc : t.length + 1 ≤ cap) (hl : t.length ≤ 1099511627776)
    (hw : Aside0 (∀ s' ∈ ⟨#[102, 117, 110, 99]⟩ :: t, s'.size < 4294967281)) (hx : ¬ (st.at_ = 0 ∧ t.length = 1)) :
    Calls Tryd.prog 16 #[.pointer (some ⟨g, 0, none⟩), .slice A (t.length + 1) cap] w fun e w' => e = .returned (.tuple #[]) ∧ Stepped B g (.error 70) w w' := by
  have HX := Lib.hid hx
  clear hx
  obtain ⟨v, hb, hS⟩ := hps.ex
  have HB := Aside0.mk hb
  have hlt := blk_lt hb
  obtain ⟨A', hsl, hrd⟩ := cut1 A ⟨#[102, 117, 110, 99]⟩ t cap hc
  have HPS := Aside0.mk hps
  have HS := Aside0.mk hS
  have HR := Aside0.mk hr
  have HRD := Aside0.mk hrd
  obtain ⟨ad, rfl, hc0⟩ := at_string hr.now 0 (by omega) (by simp)
  have hc0 : w.cell? ad = some (.string ⟨#[102, 117, 110, 99]⟩) := by
    have : w.cell? (ad.add 0) = some (.string ⟨#[102, 117, 110, 99]⟩) := hc0
    rwa [show ad.add 0 = ad by simp [Addr.add]] at this
  clear hS hb hps hr hrd
  have hmf : ∀ (fn : Fn) (first cp : Array Value) (w : World), (Instr.makeFunc fn first cp).run Tryd.prog w = .ok (.func fn first cp) w := fun _ _ _ _ => rfl
  have hmm := fun (w : World) => run_makeMap (P := Tryd.prog) 87 w
  go_enter Tryd.func16, Tryd.ntmps16
  go_wp2
  obtain ⟨W1, hW1⟩ : ∃ W1, w.alloc (.cells #[Value.pointer (some ⟨g, 0, none⟩)] 55) = W1 := ⟨_, rfl⟩
  have hbel : Below w.heap.size w W1 := by rw [← hW1]; exact (Below.refl _ _).alloc (Nat.le_refl _) _
  obtain ⟨gp, hgp⟩ : ∃ gp, w.heap.size = gp := ⟨_, rfl⟩
  have hpb : W1.heap[gp]? = some (.cells #[.pointer (some ⟨g, 0, none⟩)] 55 (0, 0)) := by rw [← hW1, ← hgp]; exact heap_alloc_new w _
  have hc1 : W1.cell? ad = some (.string ⟨#[102, 117, 110, 99]⟩) := pw_cell_below hbel hc0
  rw [hW1]
  go_region_held3 (fun w' => w'.cell? ad = some (.string ⟨#[102, 117, 110, 99]⟩)) (go_keep) (fail)
  obtain ⟨W2, hW2⟩ : ∃ W2, (W1.alloc (.cells #[Value.slice A' t.length (cap - 1)] 63)).drew = W2 := ⟨_, rfl⟩
  obtain ⟨gr, hgr⟩ : ∃ gr, W1.heap.size = gr := ⟨_, rfl⟩
  have hb2 : Below w.heap.size w W2 := by rw [← hW2]; exact below_drew (hbel.alloc hbel.size _)
  have hrb : W2.heap[gr]? = some (.cells #[.slice A' t.length (cap - 1)] 63 (0, 0)) := by rw [← hW2, ← hgr]; exact heap_alloc_new W1 _
  have hpb2 : W2.heap[gp]? = some (.cells #[.pointer (some ⟨g, 0, none⟩)] 55 (0, 0)) := by rw [← hW2]; exact blk_alloc hpb _
  rw [hW2, hgr]
  have HPB2 := Aside0.mk hpb2
  have HRB2 := Aside0.mk hrb
  have HB2 := Aside0.mk hb2
  clear hW2 hgr hgp hW1 hbel hpb hc1 hc0 hb2 hrb hpb2
  go_wp2_with ((with_reducible refine at_insert ?_); refine wpList_insert_str rfl _ _ _ 87 rfl under_fm under_s _ _ _ _ rfl (by first | rfl | simp) rfl rfl ?_)
  obtain ⟨W3, hW3⟩ : ∃ W3, W2.alloc (.map #[⟨.string ⟨#[102, 117, 110, 99]⟩, (.func (.func 30) #[] #[.pointer (some ⟨gp, 0, none⟩), .pointer (some ⟨gr, 0, none⟩)]), 0⟩, ⟨.string ⟨#[98, 108, 111, 99, 107]⟩, (.func (.func 31) #[] #[.pointer (some ⟨gp, 0, none⟩), .pointer (some ⟨gr, 0, none⟩)]), 1⟩, ⟨.string ⟨#[112, 104, 105]⟩, (.func (.func 32) #[] #[.pointer (some ⟨gp, 0, none⟩)]), 2⟩] 3) = W3 := ⟨_, rfl⟩
  obtain ⟨gm, hgm⟩ : ∃ gm, W2.heap.size = gm := ⟨_, rfl⟩
  have hm3 : W3.heap[gm]? = some (.map #[⟨.string ⟨#[102, 117, 110, 99]⟩, (.func (.func 30) #[] #[.pointer (some ⟨gp, 0, none⟩), .pointer (some ⟨gr, 0, none⟩)]), 0⟩, ⟨.string ⟨#[98, 108, 111, 99, 107]⟩, (.func (.func 31) #[] #[.pointer (some ⟨gp, 0, none⟩), .pointer (some ⟨gr, 0, none⟩)]), 1⟩, ⟨.string ⟨#[112, 104, 105]⟩, (.func (.func 32) #[] #[.pointer (some ⟨gp, 0, none⟩)]), 2⟩] 3) := by rw [← hW3, ← hgm]; exact heap_alloc_new W2 _
  have hb23 : Below W2.heap.size W2 W3 := by rw [← hW3]; exact (Below.refl _ _).alloc (Nat.le_refl _) _
  rw [hW3, hgm]
  have HM3 := Aside0.mk hm3
  have HB23 := Aside0.mk hb23
  clear hW3 hgm hm3 hb23 hmm hmf
  have hb3 : Below w.heap.size w W3 := HB2.out.trans (HB23.out.mono HB2.out.size)
  have HB3 := Aside0.mk hb3
  clear hb3
  refine (fields_terms W3 ⟨(HG.out _ (HB3.out.mono HPS.out.size)).l⟩).mono ?_
  rintro e w4 ⟨rfl, rfl⟩
  go_wp2_with fail
  refine (Tryd.slices_Index_string W3.heap.size 0 5 5 termStrs ⟨#[102, 117, 110, 99]⟩ _ (by rw [termStrs_len]; exact Nat.le_refl _) (by omega) (terms_cells W3)).mono ?_
  rintro e w4 ⟨rfl, rfl⟩
  rw [List.take_of_length_le (by rw [termStrs_len]; exact Nat.le_refl _)]
  obtain ⟨kx, hkx⟩ : ∃ kx, Lib.idxOfS termStrs ⟨#[102, 117, 110, 99]⟩ = kx := ⟨_, rfl⟩
  have hkb := idx_bounds termStrs ⟨#[102, 117, 110, 99]⟩
  rw [termStrs_len, hkx] at hkb
  obtain ⟨hk0, hk1⟩ := hkb
  rw [hkx]
  have HKX := Lib.hid hkx
  clear hkx
  have hb4 : Below W3.heap.size W3 (W3.alloc (.cells termVals.toArray 9)) := (Below.refl _ _).alloc (Nat.le_refl _) _
  have HB4 := Aside0.mk hb4
  clear hb4
  go_wp2_with fail
  refine (word_Number.calls ⟨#[102, 117, 110, 99]⟩ (opOf ⟨#[102, 117, 110, 99]⟩) _ ⟨(HG.out _ ((HB3.out.trans (HB4.out.mono HB3.out.size)).mono HPS.out.size)).l⟩ rfl).mono ?_
  rintro e W5 ⟨rfl, hb5⟩
  obtain ⟨ox, hox⟩ : ∃ ox, opOf ⟨#[102, 117, 110, 99]⟩ = ox := ⟨_, rfl⟩
  have hob := op_bounds ⟨#[102, 117, 110, 99]⟩
  rw [hox] at hob
  obtain ⟨ho0, ho1⟩ := hob
  rw [hox]
  have HOX := Lib.hid hox
  clear hox
  have hb35 : Below W3.heap.size W3 W5 := HB4.out.trans (hb5.mono HB4.out.size)
  have HB35 := Aside0.mk hb35
  have HB5 := Aside0.mk (HB3.out.trans (hb35.mono HB3.out.size))
  have HM5 := Aside0.mk (blk_below HM3.out hb35)
  have HPB5 := Aside0.mk (blk_below (blk_below HPB2.out HB23.out) hb35)
  have HRB5 := Aside0.mk (blk_below (blk_below HRB2.out HB23.out) hb35)
  have p5 : W5.cell? ⟨gp, 0, none⟩ = some (.pointer (some ⟨g, 0, none⟩)) := blk_cell HPB5.out 0
  have r5 : W5.cell? ⟨gr, 0, none⟩ = some (.slice A' t.length (cap - 1)) := blk_cell HRB5.out 0
  have HG5 := Aside0.mk (blk_below HB.out HB5.out)
  have at5 : W5.cell? ⟨g, 2, none⟩ = some (.int .i64 st.at_) := blk_cell HG5.out 2
  have HPS5 := Aside0.mk (HPS.out.below HB5.out)
  have HRT := Aside0.mk (HRD.out _ (HR.out.below HB5.out))
  clear hb5 hb35
  go_wp2_with (((with_reducible refine at_lookup_ ?_); refine wpList_lookup_of rfl _ _ 87 true rfl (.string ⟨#[102, 117, 110, 99]⟩) gm rfl rfl _ (look_str_hit under_fm under_s HM5.out ⟨#[102, 117, 110, 99]⟩ 0 _ rfl) ?_))
  have hok : Aside0 (∀ W : World, W.heap = W5.heap → Calls Tryd.prog 30 #[.pointer (some ⟨gp, 0, none⟩), .pointer (some ⟨gr, 0, none⟩)] W fun e w' => e = .returned (.bool false) ∧ W = w') := ⟨fun W h => by
    have := ok_func g gp gr A' t.length (cap - 1) st.at_ W ((cell_heap h _).trans p5) ((cell_heap h _).trans r5) ((cell_heap h _).trans at5)
    rwa [decide_eq_false HX.out] at this⟩
  have hmust : Aside0 (∀ W : World, W.heap = W5.heap → Calls Tryd.prog 35 #[.pointer (some ⟨g, 0, none⟩), .bool false, .int .i64 70] W fun e w' => e = .returned (.bool false) ∧ W.setCell ⟨g, 3, none⟩ (.int .i64 70) = w') := ⟨fun W h => must_no g _ _ _ _ 70 (.inl rfl) W (by rw [h]; exact HG5.out)⟩
  go_region_law (first | (go_simp; go_at_call 30; refine (hok.out _ (by rfl)).mono ?_; rintro e w6 ⟨rfl, rfl⟩) | (go_simp; go_at_call 35; refine (hmust.out _ (by rfl)).mono ?_; rintro e w6 ⟨rfl, rfl⟩))
  all_goals
    go_wp2
    go_end0
    refine ⟨rfl, ?_⟩
    have hfin : Stepped B g (.error 70) w (W5.setCell ⟨g, 3, none⟩ (.int .i64 70)) := ⟨(HB5.out.mono HPS.out.size).setCell (p := ⟨g, 3, none⟩) HPS.out.base _, (Oth.below HB5.out).trans (Oth.set_ HG5.out (by decide) _ _), ⟨_, _, _, _, blk_put HG5.out 3 _ rfl⟩, .inl rfl⟩
    first | exact hfin | exact hfin.drew | exact hfin.drewN _

end Go.Proofs.YtlmkhllippobaaaDoor.Ps
end
section
/- text.parser.line, walked: Noblock. -/
set_option linter.unusedVariables false
set_option linter.unusedSimpArgs false
namespace Go.Proofs.YtlmkhllippobaaaDoor.Ps
open Go.RowKit Go.Proofs.YtlmkhllippobaaaDoorW.PrintWords Go.Proofs.YtlmkhllippobaaaDoorW.PrintWords.Kd Go.Proofs.YtlmkhllippobaaaDoorW.PrintMore Go.Proofs.YtlmkhllippobaaaDoorW.PrintMore.Kd Go.Proofs.YtlmkhllippobaaaDoor.Wl Go.Proofs.YtlmkhllippobaaaDoor.Tx Go.Proofs.YtlmkhllippobaaaDoor.Kd Go.Proofs.YtlmkhllippobaaaDoor.Kp Go.Proofs.YtlmkhllippobaaaDoor.Mp Go.Proofs.YtlmkhllippobaaaDoor.Wb
attribute [local go_sem ↓] Go.wp_at_zero Go.wp_at_succ

set_option maxHeartbeats 16000000 in
set_option maxRecDepth 1000000 in
theorem line_blockNo (B g : Nat) (A : Option Addr) (cap : Nat) (t : List ByteArray) (st : St) (w : World) (HG : Aside0 (∀ w', Below B w w' → LaidP w')) (hps : PS B g st 0 w) (hr : RdS w A (⟨#[98, 108, 111, 99, 107]⟩ :: t)) (hc : t.length + 1 ≤ cap) (hl : t.length ≤ 1099511627776)
    (hw : Aside0 (∀ s' ∈ ⟨#[98, 108, 111, 99, 107]⟩ :: t, s'.size < 4294967281)) (hx : ¬ (st.at_ = 1 ∧ t.length = 1)) :
    Calls Tryd.prog 16 #[.pointer (some ⟨g, 0, none⟩), .slice A (t.length + 1) cap] w fun e w' => e = .returned (.tuple #[]) ∧ Stepped B g (.error 70) w w' := by
  have HX := Lib.hid hx
  clear hx
  obtain ⟨v, hb, hS⟩ := hps.ex
  have HB := Aside0.mk hb
  have hlt := blk_lt hb
  obtain ⟨A', hsl, hrd⟩ := cut1 A ⟨#[98, 108, 111, 99, 107]⟩ t cap hc
  have HPS := Aside0.mk hps
  have HS := Aside0.mk hS
  have HR := Aside0.mk hr
  have HRD := Aside0.mk hrd
  obtain ⟨ad, rfl, hc0⟩ := at_string hr.now 0 (by omega) (by simp)
  have hc0 : w.cell? ad = some (.string ⟨#[98, 108, 111, 99, 107]⟩) := by
    have : w.cell? (ad.add 0) = some (.string ⟨#[98, 108, 111, 99, 107]⟩) := hc0
    rwa [show ad.add 0 = ad by simp [Addr.add]] at this
  clear hS hb hps hr hrd
  have hmf : ∀ (fn : Fn) (first cp : Array Value) (w : World), (Instr.makeFunc fn first cp).run Tryd.prog w = .ok (.func fn first cp) w := fun _ _ _ _ => rfl
  have hmm := fun (w : World) => run_makeMap (P := Tryd.prog) 87 w
  go_enter Tryd.func16, Tryd.ntmps16
  go_wp2
  obtain ⟨W1, hW1⟩ : ∃ W1, w.alloc (.cells #[Value.pointer (some ⟨g, 0, none⟩)] 55) = W1 := ⟨_, rfl⟩
  have hbel : Below w.heap.size w W1 := by rw [← hW1]; exact (Below.refl _ _).alloc (Nat.le_refl _) _
  obtain ⟨gp, hgp⟩ : ∃ gp, w.heap.size = gp := ⟨_, rfl⟩
  have hpb : W1.heap[gp]? = some (.cells #[.pointer (some ⟨g, 0, none⟩)] 55 (0, 0)) := by rw [← hW1, ← hgp]; exact heap_alloc_new w _
  have hc1 : W1.cell? ad = some (.string ⟨#[98, 108, 111, 99, 107]⟩) := pw_cell_below hbel hc0
  rw [hW1]
  go_region_held3 (fun w' => w'.cell? ad = some (.string ⟨#[98, 108, 111, 99, 107]⟩)) (go_keep) (fail)
  obtain ⟨W2, hW2⟩ : ∃ W2, (W1.alloc (.cells #[Value.slice A' t.length (cap - 1)] 63)).drew = W2 := ⟨_, rfl⟩
  obtain ⟨gr, hgr⟩ : ∃ gr, W1.heap.size = gr := ⟨_, rfl⟩
  have hb2 : Below w.heap.size w W2 := by rw [← hW2]; exact below_drew (hbel.alloc hbel.size _)
  have hrb : W2.heap[gr]? = some (.cells #[.slice A' t.length (cap - 1)] 63 (0, 0)) := by rw [← hW2, ← hgr]; exact heap_alloc_new W1 _
  have hpb2 : W2.heap[gp]? = some (.cells #[.pointer (some ⟨g, 0, none⟩)] 55 (0, 0)) := by rw [← hW2]; exact blk_alloc hpb _
  rw [hW2, hgr]
  have HPB2 := Aside0.mk hpb2
  have HRB2 := Aside0.mk hrb
  have HB2 := Aside0.mk hb2
  clear hW2 hgr hgp hW1 hbel hpb hc1 hc0 hb2 hrb hpb2
  go_wp2_with ((with_reducible refine at_insert ?_); refine wpList_insert_str rfl _ _ _ 87 rfl under_fm under_s _ _ _ _ rfl (by first | rfl | simp) rfl rfl ?_)
  obtain ⟨W3, hW3⟩ : ∃ W3, W2.alloc (.map #[⟨.string ⟨#[102, 117, 110, 99]⟩, (.func (.func 30) #[] #[.pointer (some ⟨gp, 0, none⟩), .pointer (some ⟨gr, 0, none⟩)]), 0⟩, ⟨.string ⟨#[98, 108, 111, 99, 107]⟩, (.func (.func 31) #[] #[.pointer (some ⟨gp, 0, none⟩), .pointer (some ⟨gr, 0, none⟩)]), 1⟩, ⟨.string ⟨#[112, 104, 105]⟩, (.func (.func 32) #[] #[.pointer (some ⟨gp, 0, none⟩)]), 2⟩] 3) = W3 := ⟨_, rfl⟩
  obtain ⟨gm, hgm⟩ : ∃ gm, W2.heap.size = gm := ⟨_, rfl⟩
  have hm3 : W3.heap[gm]? = some (.map #[⟨.string ⟨#[102, 117, 110, 99]⟩, (.func (.func 30) #[] #[.pointer (some ⟨gp, 0, none⟩), .pointer (some ⟨gr, 0, none⟩)]), 0⟩, ⟨.string ⟨#[98, 108, 111, 99, 107]⟩, (.func (.func 31) #[] #[.pointer (some ⟨gp, 0, none⟩), .pointer (some ⟨gr, 0, none⟩)]), 1⟩, ⟨.string ⟨#[112, 104, 105]⟩, (.func (.func 32) #[] #[.pointer (some ⟨gp, 0, none⟩)]), 2⟩] 3) := by rw [← hW3, ← hgm]; exact heap_alloc_new W2 _
  have hb23 : Below W2.heap.size W2 W3 := by rw [← hW3]; exact (Below.refl _ _).alloc (Nat.le_refl _) _
  rw [hW3, hgm]
  have HM3 := Aside0.mk hm3
  have HB23 := Aside0.mk hb23
  clear hW3 hgm hm3 hb23 hmm hmf
  have hb3 : Below w.heap.size w W3 := HB2.out.trans (HB23.out.mono HB2.out.size)
  have HB3 := Aside0.mk hb3
  clear hb3
  refine (fields_terms W3 ⟨(HG.out _ (HB3.out.mono HPS.out.size)).l⟩).mono ?_
  rintro e w4 ⟨rfl, rfl⟩
  go_wp2_with fail
  refine (Tryd.slices_Index_string W3.heap.size 0 5 5 termStrs ⟨#[98, 108, 111, 99, 107]⟩ _ (by rw [termStrs_len]; exact Nat.le_refl _) (by omega) (terms_cells W3)).mono ?_
  rintro e w4 ⟨rfl, rfl⟩
  rw [List.take_of_length_le (by rw [termStrs_len]; exact Nat.le_refl _)]
  obtain ⟨kx, hkx⟩ : ∃ kx, Lib.idxOfS termStrs ⟨#[98, 108, 111, 99, 107]⟩ = kx := ⟨_, rfl⟩
  have hkb := idx_bounds termStrs ⟨#[98, 108, 111, 99, 107]⟩
  rw [termStrs_len, hkx] at hkb
  obtain ⟨hk0, hk1⟩ := hkb
  rw [hkx]
  have HKX := Lib.hid hkx
  clear hkx
  have hb4 : Below W3.heap.size W3 (W3.alloc (.cells termVals.toArray 9)) := (Below.refl _ _).alloc (Nat.le_refl _) _
  have HB4 := Aside0.mk hb4
  clear hb4
  go_wp2_with fail
  refine (word_Number.calls ⟨#[98, 108, 111, 99, 107]⟩ (opOf ⟨#[98, 108, 111, 99, 107]⟩) _ ⟨(HG.out _ ((HB3.out.trans (HB4.out.mono HB3.out.size)).mono HPS.out.size)).l⟩ rfl).mono ?_
  rintro e W5 ⟨rfl, hb5⟩
  obtain ⟨ox, hox⟩ : ∃ ox, opOf ⟨#[98, 108, 111, 99, 107]⟩ = ox := ⟨_, rfl⟩
  have hob := op_bounds ⟨#[98, 108, 111, 99, 107]⟩
  rw [hox] at hob
  obtain ⟨ho0, ho1⟩ := hob
  rw [hox]
  have HOX := Lib.hid hox
  clear hox
  have hb35 : Below W3.heap.size W3 W5 := HB4.out.trans (hb5.mono HB4.out.size)
  have HB35 := Aside0.mk hb35
  have HB5 := Aside0.mk (HB3.out.trans (hb35.mono HB3.out.size))
  have HM5 := Aside0.mk (blk_below HM3.out hb35)
  have HPB5 := Aside0.mk (blk_below (blk_below HPB2.out HB23.out) hb35)
  have HRB5 := Aside0.mk (blk_below (blk_below HRB2.out HB23.out) hb35)
  have p5 : W5.cell? ⟨gp, 0, none⟩ = some (.pointer (some ⟨g, 0, none⟩)) := blk_cell HPB5.out 0
  have r5 : W5.cell? ⟨gr, 0, none⟩ = some (.slice A' t.length (cap - 1)) := blk_cell HRB5.out 0
  have HG5 := Aside0.mk (blk_below HB.out HB5.out)
  have at5 : W5.cell? ⟨g, 2, none⟩ = some (.int .i64 st.at_) := blk_cell HG5.out 2
  have HPS5 := Aside0.mk (HPS.out.below HB5.out)
  have HRT := Aside0.mk (HRD.out _ (HR.out.below HB5.out))
  clear hb5 hb35
  go_wp2_with (((with_reducible refine at_lookup_ ?_); refine wpList_lookup_of rfl _ _ 87 true rfl (.string ⟨#[98, 108, 111, 99, 107]⟩) gm rfl rfl _ (look_str_hit under_fm under_s HM5.out ⟨#[98, 108, 111, 99, 107]⟩ 1 _ rfl) ?_))
  have hok : Aside0 (∀ W : World, W.heap = W5.heap → Calls Tryd.prog 31 #[.pointer (some ⟨gp, 0, none⟩), .pointer (some ⟨gr, 0, none⟩)] W fun e w' => e = .returned (.bool false) ∧ W = w') := ⟨fun W h => by
    have := ok_block g gp gr A' t.length (cap - 1) st.at_ W ((cell_heap h _).trans p5) ((cell_heap h _).trans r5) ((cell_heap h _).trans at5)
    rwa [decide_eq_false HX.out] at this⟩
  have hmust : Aside0 (∀ W : World, W.heap = W5.heap → Calls Tryd.prog 35 #[.pointer (some ⟨g, 0, none⟩), .bool false, .int .i64 70] W fun e w' => e = .returned (.bool false) ∧ W.setCell ⟨g, 3, none⟩ (.int .i64 70) = w') := ⟨fun W h => must_no g _ _ _ _ 70 (.inl rfl) W (by rw [h]; exact HG5.out)⟩
  go_region_law (first | (go_simp; go_at_call 31; refine (hok.out _ (by rfl)).mono ?_; rintro e w6 ⟨rfl, rfl⟩) | (go_simp; go_at_call 35; refine (hmust.out _ (by rfl)).mono ?_; rintro e w6 ⟨rfl, rfl⟩))
  all_goals
    go_wp2
    go_end0
    refine ⟨rfl, ?_⟩
    have hfin : Stepped B g (.error 70) w (W5.setCell ⟨g, 3, none⟩ (.int .i64 70)) := ⟨(HB5.out.mono HPS.out.size).setCell (p := ⟨g, 3, none⟩) HPS.out.base _, (Oth.below HB5.out).trans (Oth.set_ HG5.out (by decide) _ _), ⟨_, _, _, _, blk_put HG5.out 3 _ rfl⟩, .inl rfl⟩
    first | exact hfin | exact hfin.drew | exact hfin.drewN _

end Go.Proofs.YtlmkhllippobaaaDoor.Ps
end
section
/- text.parser.line, walked: Nophi. -/
set_option linter.unusedVariables false
set_option linter.unusedSimpArgs false
namespace Go.Proofs.YtlmkhllippobaaaDoor.Ps
open Go.RowKit Go.Proofs.YtlmkhllippobaaaDoorW.PrintWords Go.Proofs.YtlmkhllippobaaaDoorW.PrintWords.Kd Go.Proofs.YtlmkhllippobaaaDoorW.PrintMore Go.Proofs.YtlmkhllippobaaaDoorW.PrintMore.Kd Go.Proofs.YtlmkhllippobaaaDoor.Wl Go.Proofs.YtlmkhllippobaaaDoor.Tx Go.Proofs.YtlmkhllippobaaaDoor.Kd Go.Proofs.YtlmkhllippobaaaDoor.Kp Go.Proofs.YtlmkhllippobaaaDoor.Mp Go.Proofs.YtlmkhllippobaaaDoor.Wb
attribute [local go_sem ↓] Go.wp_at_zero Go.wp_at_succ

set_option maxHeartbeats 16000000 in
set_option maxRecDepth 1000000 in
theorem line_phiNo (B g : Nat) (A : Option Addr) (cap : Nat) (t : List ByteArray) (st : St) (w : World) (HG : Aside0 (∀ w', Below B w w' → LaidP w')) (hps : PS B g st 0 w) (hr : RdS w A (⟨#[112, 104, 105]⟩ :: t)) (hc : t.length + 1 ≤ cap) (hl : t.length ≤ 1099511627776)
    (hw : Aside0 (∀ s' ∈ ⟨#[112, 104, 105]⟩ :: t, s'.size < 4294967281)) (hx : ¬ (st.at_ = 2)) :
    Calls Tryd.prog 16 #[.pointer (some ⟨g, 0, none⟩), .slice A (t.length + 1) cap] w fun e w' => e = .returned (.tuple #[]) ∧ Stepped B g (.error 70) w w' := by
  have HX := Lib.hid hx
  clear hx
  obtain ⟨v, hb, hS⟩ := hps.ex
  have HB := Aside0.mk hb
  have hlt := blk_lt hb
  obtain ⟨A', hsl, hrd⟩ := cut1 A ⟨#[112, 104, 105]⟩ t cap hc
  have HPS := Aside0.mk hps
  have HS := Aside0.mk hS
  have HR := Aside0.mk hr
  have HRD := Aside0.mk hrd
  obtain ⟨ad, rfl, hc0⟩ := at_string hr.now 0 (by omega) (by simp)
  have hc0 : w.cell? ad = some (.string ⟨#[112, 104, 105]⟩) := by
    have : w.cell? (ad.add 0) = some (.string ⟨#[112, 104, 105]⟩) := hc0
    rwa [show ad.add 0 = ad by simp [Addr.add]] at this
  clear hS hb hps hr hrd
  have hmf : ∀ (fn : Fn) (first cp : Array Value) (w : World), (Instr.makeFunc fn first cp).run Tryd.prog w = .ok (.func fn first cp) w := fun _ _ _ _ => rfl
  have hmm := fun (w : World) => run_makeMap (P := Tryd.prog) 87 w
  go_enter Tryd.func16, Tryd.ntmps16
  go_wp2
  obtain ⟨W1, hW1⟩ : ∃ W1, w.alloc (.cells #[Value.pointer (some ⟨g, 0, none⟩)] 55) = W1 := ⟨_, rfl⟩
  have hbel : Below w.heap.size w W1 := by rw [← hW1]; exact (Below.refl _ _).alloc (Nat.le_refl _) _
  obtain ⟨gp, hgp⟩ : ∃ gp, w.heap.size = gp := ⟨_, rfl⟩
  have hpb : W1.heap[gp]? = some (.cells #[.pointer (some ⟨g, 0, none⟩)] 55 (0, 0)) := by rw [← hW1, ← hgp]; exact heap_alloc_new w _
  have hc1 : W1.cell? ad = some (.string ⟨#[112, 104, 105]⟩) := pw_cell_below hbel hc0
  rw [hW1]
  go_region_held3 (fun w' => w'.cell? ad = some (.string ⟨#[112, 104, 105]⟩)) (go_keep) (fail)
  obtain ⟨W2, hW2⟩ : ∃ W2, (W1.alloc (.cells #[Value.slice A' t.length (cap - 1)] 63)).drew = W2 := ⟨_, rfl⟩
  obtain ⟨gr, hgr⟩ : ∃ gr, W1.heap.size = gr := ⟨_, rfl⟩
  have hb2 : Below w.heap.size w W2 := by rw [← hW2]; exact below_drew (hbel.alloc hbel.size _)
  have hrb : W2.heap[gr]? = some (.cells #[.slice A' t.length (cap - 1)] 63 (0, 0)) := by rw [← hW2, ← hgr]; exact heap_alloc_new W1 _
  have hpb2 : W2.heap[gp]? = some (.cells #[.pointer (some ⟨g, 0, none⟩)] 55 (0, 0)) := by rw [← hW2]; exact blk_alloc hpb _
  rw [hW2, hgr]
  have HPB2 := Aside0.mk hpb2
  have HRB2 := Aside0.mk hrb
  have HB2 := Aside0.mk hb2
  clear hW2 hgr hgp hW1 hbel hpb hc1 hc0 hb2 hrb hpb2
  go_wp2_with ((with_reducible refine at_insert ?_); refine wpList_insert_str rfl _ _ _ 87 rfl under_fm under_s _ _ _ _ rfl (by first | rfl | simp) rfl rfl ?_)
  obtain ⟨W3, hW3⟩ : ∃ W3, W2.alloc (.map #[⟨.string ⟨#[102, 117, 110, 99]⟩, (.func (.func 30) #[] #[.pointer (some ⟨gp, 0, none⟩), .pointer (some ⟨gr, 0, none⟩)]), 0⟩, ⟨.string ⟨#[98, 108, 111, 99, 107]⟩, (.func (.func 31) #[] #[.pointer (some ⟨gp, 0, none⟩), .pointer (some ⟨gr, 0, none⟩)]), 1⟩, ⟨.string ⟨#[112, 104, 105]⟩, (.func (.func 32) #[] #[.pointer (some ⟨gp, 0, none⟩)]), 2⟩] 3) = W3 := ⟨_, rfl⟩
  obtain ⟨gm, hgm⟩ : ∃ gm, W2.heap.size = gm := ⟨_, rfl⟩
  have hm3 : W3.heap[gm]? = some (.map #[⟨.string ⟨#[102, 117, 110, 99]⟩, (.func (.func 30) #[] #[.pointer (some ⟨gp, 0, none⟩), .pointer (some ⟨gr, 0, none⟩)]), 0⟩, ⟨.string ⟨#[98, 108, 111, 99, 107]⟩, (.func (.func 31) #[] #[.pointer (some ⟨gp, 0, none⟩), .pointer (some ⟨gr, 0, none⟩)]), 1⟩, ⟨.string ⟨#[112, 104, 105]⟩, (.func (.func 32) #[] #[.pointer (some ⟨gp, 0, none⟩)]), 2⟩] 3) := by rw [← hW3, ← hgm]; exact heap_alloc_new W2 _
  have hb23 : Below W2.heap.size W2 W3 := by rw [← hW3]; exact (Below.refl _ _).alloc (Nat.le_refl _) _
  rw [hW3, hgm]
  have HM3 := Aside0.mk hm3
  have HB23 := Aside0.mk hb23
  clear hW3 hgm hm3 hb23 hmm hmf
  have hb3 : Below w.heap.size w W3 := HB2.out.trans (HB23.out.mono HB2.out.size)
  have HB3 := Aside0.mk hb3
  clear hb3
  refine (fields_terms W3 ⟨(HG.out _ (HB3.out.mono HPS.out.size)).l⟩).mono ?_
  rintro e w4 ⟨rfl, rfl⟩
  go_wp2_with fail
  refine (Tryd.slices_Index_string W3.heap.size 0 5 5 termStrs ⟨#[112, 104, 105]⟩ _ (by rw [termStrs_len]; exact Nat.le_refl _) (by omega) (terms_cells W3)).mono ?_
  rintro e w4 ⟨rfl, rfl⟩
  rw [List.take_of_length_le (by rw [termStrs_len]; exact Nat.le_refl _)]
  obtain ⟨kx, hkx⟩ : ∃ kx, Lib.idxOfS termStrs ⟨#[112, 104, 105]⟩ = kx := ⟨_, rfl⟩
  have hkb := idx_bounds termStrs ⟨#[112, 104, 105]⟩
  rw [termStrs_len, hkx] at hkb
  obtain ⟨hk0, hk1⟩ := hkb
  rw [hkx]
  have HKX := Lib.hid hkx
  clear hkx
  have hb4 : Below W3.heap.size W3 (W3.alloc (.cells termVals.toArray 9)) := (Below.refl _ _).alloc (Nat.le_refl _) _
  have HB4 := Aside0.mk hb4
  clear hb4
  go_wp2_with fail
  refine (word_Number.calls ⟨#[112, 104, 105]⟩ (opOf ⟨#[112, 104, 105]⟩) _ ⟨(HG.out _ ((HB3.out.trans (HB4.out.mono HB3.out.size)).mono HPS.out.size)).l⟩ rfl).mono ?_
  rintro e W5 ⟨rfl, hb5⟩
  obtain ⟨ox, hox⟩ : ∃ ox, opOf ⟨#[112, 104, 105]⟩ = ox := ⟨_, rfl⟩
  have hob := op_bounds ⟨#[112, 104, 105]⟩
  rw [hox] at hob
  obtain ⟨ho0, ho1⟩ := hob
  rw [hox]
  have HOX := Lib.hid hox
  clear hox
  have hb35 : Below W3.heap.size W3 W5 := HB4.out.trans (hb5.mono HB4.out.size)
  have HB35 := Aside0.mk hb35
  have HB5 := Aside0.mk (HB3.out.trans (hb35.mono HB3.out.size))
  have HM5 := Aside0.mk (blk_below HM3.out hb35)
  have HPB5 := Aside0.mk (blk_below (blk_below HPB2.out HB23.out) hb35)
  have HRB5 := Aside0.mk (blk_below (blk_below HRB2.out HB23.out) hb35)
  have p5 : W5.cell? ⟨gp, 0, none⟩ = some (.pointer (some ⟨g, 0, none⟩)) := blk_cell HPB5.out 0
  have r5 : W5.cell? ⟨gr, 0, none⟩ = some (.slice A' t.length (cap - 1)) := blk_cell HRB5.out 0
  have HG5 := Aside0.mk (blk_below HB.out HB5.out)
  have at5 : W5.cell? ⟨g, 2, none⟩ = some (.int .i64 st.at_) := blk_cell HG5.out 2
  have HPS5 := Aside0.mk (HPS.out.below HB5.out)
  have HRT := Aside0.mk (HRD.out _ (HR.out.below HB5.out))
  clear hb5 hb35
  go_wp2_with (((with_reducible refine at_lookup_ ?_); refine wpList_lookup_of rfl _ _ 87 true rfl (.string ⟨#[112, 104, 105]⟩) gm rfl rfl _ (look_str_hit under_fm under_s HM5.out ⟨#[112, 104, 105]⟩ 2 _ rfl) ?_))
  have hok : Aside0 (∀ W : World, W.heap = W5.heap → Calls Tryd.prog 32 #[.pointer (some ⟨gp, 0, none⟩)] W fun e w' => e = .returned (.bool false) ∧ W = w') := ⟨fun W h => by
    have := ok_phi g gp st.at_ W ((cell_heap h _).trans p5) ((cell_heap h _).trans at5)
    rwa [decide_eq_false HX.out] at this⟩
  have hmust : Aside0 (∀ W : World, W.heap = W5.heap → Calls Tryd.prog 35 #[.pointer (some ⟨g, 0, none⟩), .bool false, .int .i64 70] W fun e w' => e = .returned (.bool false) ∧ W.setCell ⟨g, 3, none⟩ (.int .i64 70) = w') := ⟨fun W h => must_no g _ _ _ _ 70 (.inl rfl) W (by rw [h]; exact HG5.out)⟩
  go_region_law (first | (go_simp; go_at_call 32; refine (hok.out _ (by rfl)).mono ?_; rintro e w6 ⟨rfl, rfl⟩) | (go_simp; go_at_call 35; refine (hmust.out _ (by rfl)).mono ?_; rintro e w6 ⟨rfl, rfl⟩))
  all_goals
    go_wp2
    go_end0
    refine ⟨rfl, ?_⟩
    have hfin : Stepped B g (.error 70) w (W5.setCell ⟨g, 3, none⟩ (.int .i64 70)) := ⟨(HB5.out.mono HPS.out.size).setCell (p := ⟨g, 3, none⟩) HPS.out.base _, (Oth.below HB5.out).trans (Oth.set_ HG5.out (by decide) _ _), ⟨_, _, _, _, blk_put HG5.out 3 _ rfl⟩, .inl rfl⟩
    first | exact hfin | exact hfin.drew | exact hfin.drewN _

end Go.Proofs.YtlmkhllippobaaaDoor.Ps
end
section
/- text.parser.line: all ways in one. -/
set_option linter.unusedVariables false
set_option linter.unusedSimpArgs false
namespace Go.Proofs.YtlmkhllippobaaaDoor.Ps
open Go.RowKit Go.Proofs.YtlmkhllippobaaaDoorW.PrintWords Go.Proofs.YtlmkhllippobaaaDoorW.PrintWords.Kd Go.Proofs.YtlmkhllippobaaaDoorW.PrintMore Go.Proofs.YtlmkhllippobaaaDoorW.PrintMore.Kd Go.Proofs.YtlmkhllippobaaaDoor.Wl Go.Proofs.YtlmkhllippobaaaDoor.Tx Go.Proofs.YtlmkhllippobaaaDoor.Kd Go.Proofs.YtlmkhllippobaaaDoor.Kp Go.Proofs.YtlmkhllippobaaaDoor.Mp

theorem nums_ok {l : List ByteArray} (h : l.length = 1) : (match numsW l with | some n => Except.ok (n.getD 0 0) | none => Except.error (71 : Int)) = if errN 0 l = 0 then .ok (numV (l.getD 0 ByteArray.empty)) else .error 71 := by
  rw [numsW_eq, errN_zero]
  match l, h with
  | [x], _ =>
    by_cases h1 : [x].all okV = true <;> simp [h1]
theorem step_func (st : St) (t : List ByteArray) (h : st.at_ = 0 ∧ t.length = 1) : stepW st bFunc t = funcS st t := by
  unfold stepW funcS
  rw [if_pos rfl, if_pos h, numsW_eq, errN_zero]
  match t, h.2 with
  | [x], _ => by_cases h1 : [x].all okV = true <;> simp [h1]
theorem step_block (st : St) (t : List ByteArray) (h : st.at_ = 1 ∧ t.length = 1) : stepW st bBlock t = blockS st t := by
  unfold stepW blockS
  rw [if_neg (by decide), if_pos rfl, if_pos h, numsW_eq, errN_zero]
  match t, h.2 with
  | [x], _ => by_cases h1 : [x].all okV = true <;> simp [h1]
theorem step_phi (st : St) (t : List ByteArray) (h : st.at_ = 2) : stepW st bPhi t = phiS st t := by
  unfold stepW phiS
  rw [if_neg (by decide), if_neg (by decide), if_pos rfl, if_pos h]
  cases phiW t <;> simp [h]
theorem step_op (st : St) (s : ByteArray) (t : List ByteArray) (h1 : s ≠ bFunc) (h2 : s ≠ bBlock) (h3 : s ≠ bPhi) (ho : 0 < opOf s) (ha : 2 ≤ st.at_) : stepW st s t = atS (insS st (opOf s) t) 3 := by
  unfold stepW insS
  rw [if_neg h1, if_neg h2, if_neg h3, if_pos ho, if_pos ha]
  cases insW (opOf s) t <;> rfl
theorem step_kind (st : St) (s : ByteArray) (t : List ByteArray) (h1 : s ≠ bFunc) (h2 : s ≠ bBlock) (h3 : s ≠ bPhi) (ho : ¬ 0 < opOf s) (hk : 0 < kindOf s) (ha : 2 ≤ st.at_) : stepW st s t = atS (termS st (kindOf s) t) 1 := by
  unfold stepW termS
  rw [if_neg h1, if_neg h2, if_neg h3, if_neg ho, if_pos hk, if_pos ha]
  cases termW (kindOf s) t <;> rfl

theorem line_calls (B g : Nat) (A : Option Addr) (cap : Nat) (s : ByteArray) (t : List ByteArray) (st : St) (w : World) (HG : Aside0 (∀ w', Below B w w' → LaidP w')) (hps : PS B g st 0 w) (hr : RdS w A (s :: t)) (hc : t.length + 1 ≤ cap) (hl : t.length ≤ 1099511627776)
    (hw : Aside0 (∀ s' ∈ s :: t, s'.size < 4294967281)) (hn : 2 ≤ st.at_ → st.blocks ≠ []) (hbl : st.blocks.length ≤ 1099511627776) (hm : ∀ b ∈ st.blocks, b.f0.length ≤ 1099511627776 ∧ b.f1.length ≤ 1099511627776) :
    Calls Tryd.prog 16 #[.pointer (some ⟨g, 0, none⟩), .slice A (t.length + 1) cap] w fun e w' => e = .returned (.tuple #[]) ∧ Stepped B g (stepW st s t) w w' := by
  by_cases h1 : s = bFunc
  · subst h1
    by_cases h : st.at_ = 0 ∧ t.length = 1
    · rw [step_func st t h]; exact line_func B g A cap t st w HG hps hr hc hl hw h
    · have : stepW st bFunc t = .error 70 := by unfold stepW; rw [if_pos rfl, if_neg h]
      rw [this]; exact line_funcNo B g A cap t st w HG hps hr hc hl hw h
  by_cases h2 : s = bBlock
  · subst h2
    by_cases h : st.at_ = 1 ∧ t.length = 1
    · rw [step_block st t h]; exact line_block B g A cap t st w HG hps hr hc hl hw h hbl
    · have : stepW st bBlock t = .error 70 := by unfold stepW; rw [if_neg (by decide), if_pos rfl, if_neg h]
      rw [this]; exact line_blockNo B g A cap t st w HG hps hr hc hl hw h
  by_cases h3 : s = bPhi
  · subst h3
    by_cases h : st.at_ = 2
    · rw [step_phi st t h]; exact line_phi B g A cap t st w HG hps hr hc hl hw h (hn (by omega)) hm
    · have : stepW st bPhi t = .error 70 := by unfold stepW; rw [if_neg (by decide), if_neg (by decide), if_pos rfl, if_neg h]
      rw [this]; exact line_phiNo B g A cap t st w HG hps hr hc hl hw h
  by_cases ho : 0 < opOf s
  · by_cases ha : 2 ≤ st.at_
    · rw [step_op st s t h1 h2 h3 ho ha]; exact line_op B g A cap s t st w HG hps hr hc hl hw h1 h2 h3 ho ha (hn ha) hm
    · have : stepW st s t = .error 70 := by unfold stepW; rw [if_neg h1, if_neg h2, if_neg h3, if_pos ho, if_neg ha]
      rw [this]; exact line_opNo B g A cap s t st w HG hps hr hc hl hw h1 h2 h3 ho (by omega)
  have hob := op_bounds s
  by_cases hk : 0 < kindOf s
  · by_cases ha : 2 ≤ st.at_
    · rw [step_kind st s t h1 h2 h3 ho hk ha]; exact line_kind B g A cap s t st w HG hps hr hc hl hw h1 h2 h3 (by omega) hk ha (hn ha)
    · have : stepW st s t = .error 70 := by unfold stepW; rw [if_neg h1, if_neg h2, if_neg h3, if_neg ho, if_pos hk, if_neg ha]
      rw [this]; exact line_kindNo B g A cap s t st w HG hps hr hc hl hw h1 h2 h3 (by omega) hk (by omega)
  · have : stepW st s t = .error 72 := by unfold stepW; rw [if_neg h1, if_neg h2, if_neg h3, if_neg ho, if_neg hk]
    have hkb : kindOf s = 0 := by
      have := idx_bounds termStrs s
      unfold kindOf at hk ⊢
      omega
    rw [this]; exact line_name B g A cap s t st w HG hps hr hc hl hw h1 h2 h3 (by omega) hkb

/-! ### what a line keeps of a state's shape -/
/-- Counts are at most m; a block stands where one must. -/
structure Fit (m : Nat) (st : St) : Prop where
  has : 2 ≤ st.at_ → st.blocks ≠ []
  num : st.blocks.length ≤ m
  each : ∀ b ∈ st.blocks, b.f0.length ≤ m ∧ b.f1.length ≤ m
theorem Fit.mono {m m' : Nat} {st : St} (h : Fit m st) (hm : m ≤ m') : Fit m' st := ⟨h.has, Nat.le_trans h.num hm, fun b hb => ⟨Nat.le_trans (h.each b hb).1 hm, Nat.le_trans (h.each b hb).2 hm⟩⟩
theorem onLast_len (f : TBlock → TBlock) (l : List TBlock) : (onLast f l).length = l.length := by unfold onLast; rw [List.length_set]
theorem onLast_mem {f : TBlock → TBlock} {l : List TBlock} {b : TBlock} (h : b ∈ onLast f l) : b ∈ l ∨ ∃ c ∈ l, b = f c := by
  unfold onLast at h
  rcases List.mem_or_eq_of_mem_set h with h1 | h1
  · exact .inl h1
  · by_cases hl : l = []
    · subst hl; simp at h
    · refine .inr ⟨_, ?_, h1⟩
      have : l.length - 1 < l.length := by have := List.length_pos_iff.2 hl; omega
      rw [List.getD_eq_getElem?_getD, List.getElem?_eq_getElem this]
      exact List.getElem_mem _
theorem Fit.onLast {m : Nat} {st : St} (h : Fit m st) (f : TBlock → TBlock) (hf : ∀ b, b.f0.length ≤ m ∧ b.f1.length ≤ m → (f b).f0.length ≤ m + 1 ∧ (f b).f1.length ≤ m + 1) (k : Int) (hk : st.blocks ≠ []) : Fit (m + 1) ⟨st.params, Tx.onLast f st.blocks, k⟩ := by
  refine ⟨fun _ e => hk ?_, ?_, fun b hb => ?_⟩
  · have := congrArg List.length e
    rw [show (St.mk st.params (Tx.onLast f st.blocks) k).blocks = Tx.onLast f st.blocks from rfl, onLast_len] at this
    exact List.eq_nil_of_length_eq_zero this
  · show (Tx.onLast f st.blocks).length ≤ _
    rw [onLast_len]; have := h.num; omega
  · rcases onLast_mem hb with h1 | ⟨c, h1, rfl⟩
    · have := h.each b h1; omega
    · exact hf c (h.each c h1)
theorem Fit.step {m : Nat} {st st' : St} {s : ByteArray} {t : List ByteArray} (h : Fit m st) (hs : stepW st s t = .ok st') : Fit (m + 1) st' := by
  unfold stepW at hs
  by_cases h1 : s = bFunc
  · rw [if_pos h1] at hs
    split at hs
    · split at hs
      · injection hs with hs; subst hs
        exact ⟨fun h => by simp at h, Nat.le_succ_of_le h.num, fun b hb => ⟨Nat.le_succ_of_le (h.each b hb).1, Nat.le_succ_of_le (h.each b hb).2⟩⟩
      · cases hs
    · cases hs
  rw [if_neg h1] at hs
  by_cases h2 : s = bBlock
  · rw [if_pos h2] at hs
    split at hs
    · split at hs
      · split at hs
        · injection hs with hs; subst hs
          refine ⟨fun _ => by simp, by simp; exact h.num, fun b hb => ?_⟩
          rcases List.mem_append.1 hb with hb | hb
          · exact ⟨Nat.le_succ_of_le (h.each b hb).1, Nat.le_succ_of_le (h.each b hb).2⟩
          · rw [List.mem_singleton.1 hb]; simp [zBlock]
        · cases hs
      · cases hs
    · cases hs
  rw [if_neg h2] at hs
  by_cases h3 : s = bPhi
  · rw [if_pos h3] at hs
    split at hs
    · rename_i ha
      split at hs
      · injection hs with hs; subst hs
        exact h.onLast _ (fun b hb => by simp; omega) _ (h.has (by omega))
      · cases hs
    · cases hs
  rw [if_neg h3] at hs
  by_cases ho : 0 < opOf s
  · rw [if_pos ho] at hs
    split at hs
    · rename_i ha
      split at hs
      · injection hs with hs; subst hs
        exact h.onLast _ (fun b hb => by simp; omega) _ (h.has ha)
      · cases hs
    · cases hs
  rw [if_neg ho] at hs
  split at hs
  · split at hs
    · rename_i ha
      split at hs
      · injection hs with hs; subst hs
        exact h.onLast _ (fun b hb => by simp; omega) _ (h.has ha)
      · cases hs
    · cases hs
  · cases hs
theorem Fit.zero : Fit 0 st0 := ⟨fun h => by simp [st0] at h, by simp [st0], fun b hb => by simp [st0] at hb⟩
end Go.Proofs.YtlmkhllippobaaaDoor.Ps
end
section
/- Lines and words are no longer than their text. -/
set_option linter.unusedVariables false
namespace Go.Proofs.YtlmkhllippobaaaDoor.TxW
open Go.Lib Go Go.Proofs.YtlmkhllippobaaaDoor.Tx

theorem wordsGo_size : ∀ (l cur x : List UInt8), x ∈ wordsGo cur l → x.length ≤ cur.length + l.length
  | [], cur, x, h => by
    unfold wordsGo fin at h
    split at h
    · simp at h
    · rw [List.mem_singleton.1 h]; simp
  | b :: t, cur, x, h => by
    unfold wordsGo at h
    split at h
    · rcases List.mem_append.1 h with h | h
      · unfold fin at h
        split at h
        · simp at h
        · rw [List.mem_singleton.1 h]; omega
      · have := wordsGo_size t [] x h
        simp at this ⊢
        omega
    · have := wordsGo_size t (cur ++ [b]) x h
      simp at this ⊢
      omega
theorem fin_len (cur : List UInt8) : (fin cur).length ≤ 1 := by unfold fin; split <;> simp
theorem wordsGo_len : ∀ (l cur : List UInt8), (wordsGo cur l).length ≤ l.length + 1
  | [], cur => by unfold wordsGo; have := fin_len cur; simpa using this
  | b :: t, cur => by
    unfold wordsGo
    split
    · rw [List.length_append, List.length_cons]
      have := fin_len cur
      have := wordsGo_len t []
      omega
    · have := wordsGo_len t (cur ++ [b])
      rw [List.length_cons]
      omega
theorem linesGo_size : ∀ (l cur x : List UInt8), x ∈ linesGo cur l → x.length ≤ cur.length + l.length
  | [], cur, x, h => by
    unfold linesGo at h
    rw [List.mem_singleton.1 h]; simp
  | b :: t, cur, x, h => by
    unfold linesGo at h
    split at h
    · rcases List.mem_cons.1 h with h | h
      · rw [h]; omega
      · have := linesGo_size t [] x h
        simp at this ⊢
        omega
    · have := linesGo_size t (cur ++ [b]) x h
      simp at this ⊢
      omega
theorem lines_size {l x : List UInt8} (h : x ∈ linesB l) : x.length ≤ l.length := by have := linesGo_size l [] x h; simpa using this
theorem lines_len (l : List UInt8) : (linesB l).length ≤ l.length + 1 := by
  unfold linesB
  rw [linesGo_count]
  have := List.count_le_length (a := (10 : UInt8)) (l := l)
  omega
theorem words_size {l x : List UInt8} (h : x ∈ wordsB l) : x.length ≤ l.length := by have := wordsGo_size l [] x h; simpa using this
theorem words_len (l : List UInt8) : (wordsB l).length ≤ l.length + 1 := wordsGo_len l []
theorem head_len (l : List UInt8) : (headOf l).length ≤ l.length := by
  unfold headOf
  exact (List.takeWhile_prefix (· != (35 : UInt8))).length_le
/-- The lines of a text as its split gives them. -/
def linesS (s : ByteArray) : List ByteArray := splitB ⟨#[10]⟩ 0 (countB s ⟨#[10]⟩) s
theorem linesS_data (s : ByteArray) : (linesS s).map (·.data.toList) = linesB s.data.toList := split_lines s
theorem linesS_len (s : ByteArray) : (linesS s).length = (linesB s.data.toList).length := by rw [← linesS_data, List.length_map]
theorem linesS_at {s l : ByteArray} {k : Nat} (h : (linesS s)[k]? = some l) : (linesB s.data.toList)[k]? = some l.data.toList := by
  rw [← linesS_data, List.getElem?_map, h]
  rfl
/-- The words of a line as the program has them. -/
def wordsS (l : ByteArray) : List ByteArray := goFieldsP blankR l
theorem mk_data (l : List ByteArray) : (l.map (·.data.toList)).map (fun x => (⟨x.toArray⟩ : ByteArray)) = l := by
  rw [List.map_map]
  conv => rhs; rw [← List.map_id l]
  rfl
theorem wordsS_eq (l : ByteArray) : wordsS l = (wordsB l.data.toList).map (fun x => ⟨x.toArray⟩) := by
  rw [← goFieldsP_words, mk_data]
  rfl
theorem wordsOf_eq (l : List UInt8) : wordsOf l = wordsS ⟨(headOf l).toArray⟩ := by
  rw [wordsS_eq]
  rfl
theorem scan_skip {σ : Type} (f : σ → ByteArray → List ByteArray → Except Int σ) (i : Nat) (s : σ) (l : List UInt8) (t : List (List UInt8)) (h : wordsOf l = []) : scan f i s (l :: t) = scan f (i + 1) s t := by
  rw [scan, h]
theorem scan_ok {σ : Type} {f : σ → ByteArray → List ByteArray → Except Int σ} {i : Nat} {s s' : σ} {l : List UInt8} {t : List (List UInt8)} {w : ByteArray} {ws : List ByteArray} (h : wordsOf l = w :: ws) (hf : f s w ws = .ok s') : scan f i s (l :: t) = scan f (i + 1) s' t := by
  rw [scan, h]
  show (match f s w ws with | .ok s' => _ | .error e => _) = _
  rw [hf]
theorem scan_err {σ : Type} {f : σ → ByteArray → List ByteArray → Except Int σ} {i : Nat} {s : σ} {e : Int} {l : List UInt8} {t : List (List UInt8)} {w : ByteArray} {ws : List ByteArray} (h : wordsOf l = w :: ws) (hf : f s w ws = .error e) : scan f i s (l :: t) = .error (i, e) := by
  rw [scan, h]
  show (match f s w ws with | .ok s' => _ | .error e => _) = _
  rw [hf]
theorem drop_cons {α : Type} {l : List α} {k : Nat} {x : α} (h : l[k]? = some x) : l.drop k = x :: l.drop (k + 1) := by
  obtain ⟨hl, rfl⟩ := List.getElem?_eq_some_iff.1 h
  exact List.drop_eq_getElem_cons hl
end Go.Proofs.YtlmkhllippobaaaDoor.TxW
end
