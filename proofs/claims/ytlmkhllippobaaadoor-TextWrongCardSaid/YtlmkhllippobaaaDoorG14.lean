/- Parts of the proof, one behind the other: PlPhi, PlOp, PlKind, PlName, PlOpNo. -/
import Derived.Test.YtlmkhllippobaaaDoorG11
section
/- text.parser.line, walked: Phi. -/
set_option linter.unusedVariables false
set_option linter.unusedSimpArgs false
namespace Go.Proofs.YtlmkhllippobaaaDoor.Ps
open Go.RowKit Go.Proofs.YtlmkhllippobaaaDoorW.PrintWords Go.Proofs.YtlmkhllippobaaaDoorW.PrintWords.Kd Go.Proofs.YtlmkhllippobaaaDoorW.PrintMore Go.Proofs.YtlmkhllippobaaaDoorW.PrintMore.Kd Go.Proofs.YtlmkhllippobaaaDoor.Wl Go.Proofs.YtlmkhllippobaaaDoor.Tx Go.Proofs.YtlmkhllippobaaaDoor.Kd Go.Proofs.YtlmkhllippobaaaDoor.Kp Go.Proofs.YtlmkhllippobaaaDoor.Mp Go.Proofs.YtlmkhllippobaaaDoor.Wb
attribute [local go_sem ↓] Go.wp_at_zero Go.wp_at_succ

set_option maxHeartbeats 16000000 in
set_option maxRecDepth 1000000 in
theorem line_phi (B g : Nat) (A : Option Addr) (cap : Nat) (t : List ByteArray) (st : St) (w : World) (HG : Aside0 (∀ w', Below B w w' → LaidP w')) (hps : PS B g st 0 w) (hr : RdS w A (⟨#[112, 104, 105]⟩ :: t)) (hc : t.length + 1 ≤ cap) (hl : t.length ≤ 1099511627776)
    (hw : Aside0 (∀ s' ∈ ⟨#[112, 104, 105]⟩ :: t, s'.size < 4294967281)) (hx : st.at_ = 2) (hn : st.blocks ≠ []) (hm : ∀ b ∈ st.blocks, b.f0.length ≤ 1099511627776 ∧ b.f1.length ≤ 1099511627776) :
    Calls Tryd.prog 16 #[.pointer (some ⟨g, 0, none⟩), .slice A (t.length + 1) cap] w fun e w' => e = .returned (.tuple #[]) ∧ Stepped B g (phiS st t) w w' := by
  have HX := Lib.hid hx
  have HN := Aside0.mk hn
  have HM := Aside0.mk hm
  clear hx hn hm
  obtain ⟨v, hb, hS⟩ := hps.ex
  have HB := Aside0.mk hb
  have hlt := blk_lt hb
  obtain ⟨A', hsl, hrd⟩ := cut1 A ⟨#[112, 104, 105]⟩ t cap hc
  have HPS := Aside0.mk hps
  have HS := Aside0.mk hS
  have HR := Aside0.mk hr
  have HRD := Aside0.mk hrd
  obtain ⟨ad, rfl, hc0⟩ := at_string hr.now 0 (by omega) (by simp)
  have hc0 : w.cell? ad = some (.string ⟨#[112, 104, 105]⟩) := by
    have : w.cell? (ad.add 0) = some (.string ⟨#[112, 104, 105]⟩) := hc0
    rwa [show ad.add 0 = ad by simp [Addr.add]] at this
  clear hS hb hps hr hrd
  have hmf : ∀ (fn : Fn) (first cp : Array Value) (w : World), (Instr.makeFunc fn first cp).run Tryd.prog w = .ok (.func fn first cp) w := fun _ _ _ _ => rfl
  have hmm := fun (w : World) => run_makeMap (P := Tryd.prog) 87 w
  go_enter Tryd.func16, Tryd.ntmps16
  go_wp2
  obtain ⟨W1, hW1⟩ : ∃ W1, w.alloc (.cells #[Value.pointer (some ⟨g, 0, none⟩)] 55) = W1 := ⟨_, rfl⟩
  have hbel : Below w.heap.size w W1 := by rw [← hW1]; exact (Below.refl _ _).alloc (Nat.le_refl _) _
  obtain ⟨gp, hgp⟩ : ∃ gp, w.heap.size = gp := ⟨_, rfl⟩
  have hpb : W1.heap[gp]? = some (.cells #[.pointer (some ⟨g, 0, none⟩)] 55 (0, 0)) := by rw [← hW1, ← hgp]; exact heap_alloc_new w _
  have hc1 : W1.cell? ad = some (.string ⟨#[112, 104, 105]⟩) := pw_cell_below hbel hc0
  rw [hW1]
  go_region_held3 (fun w' => w'.cell? ad = some (.string ⟨#[112, 104, 105]⟩)) (go_keep) (fail)
  obtain ⟨W2, hW2⟩ : ∃ W2, (W1.alloc (.cells #[Value.slice A' t.length (cap - 1)] 63)).drew = W2 := ⟨_, rfl⟩
  obtain ⟨gr, hgr⟩ : ∃ gr, W1.heap.size = gr := ⟨_, rfl⟩
  have hb2 : Below w.heap.size w W2 := by rw [← hW2]; exact below_drew (hbel.alloc hbel.size _)
  have hrb : W2.heap[gr]? = some (.cells #[.slice A' t.length (cap - 1)] 63 (0, 0)) := by rw [← hW2, ← hgr]; exact heap_alloc_new W1 _
  have hpb2 : W2.heap[gp]? = some (.cells #[.pointer (some ⟨g, 0, none⟩)] 55 (0, 0)) := by rw [← hW2]; exact blk_alloc hpb _
  rw [hW2, hgr]
  have HPB2 := Aside0.mk hpb2
  have HRB2 := Aside0.mk hrb
  have HB2 := Aside0.mk hb2
  clear hW2 hgr hgp hW1 hbel hpb hc1 hc0 hb2 hrb hpb2
  go_wp2_with ((with_reducible refine at_insert ?_); refine wpList_insert_str rfl _ _ _ 87 rfl under_fm under_s _ _ _ _ rfl (by first | rfl | simp) rfl rfl ?_)
  obtain ⟨W3, hW3⟩ : ∃ W3, W2.alloc (.map #[⟨.string ⟨#[102, 117, 110, 99]⟩, (.func (.func 30) #[] #[.pointer (some ⟨gp, 0, none⟩), .pointer (some ⟨gr, 0, none⟩)]), 0⟩, ⟨.string ⟨#[98, 108, 111, 99, 107]⟩, (.func (.func 31) #[] #[.pointer (some ⟨gp, 0, none⟩), .pointer (some ⟨gr, 0, none⟩)]), 1⟩, ⟨.string ⟨#[112, 104, 105]⟩, (.func (.func 32) #[] #[.pointer (some ⟨gp, 0, none⟩)]), 2⟩] 3) = W3 := ⟨_, rfl⟩
  obtain ⟨gm, hgm⟩ : ∃ gm, W2.heap.size = gm := ⟨_, rfl⟩
  have hm3 : W3.heap[gm]? = some (.map #[⟨.string ⟨#[102, 117, 110, 99]⟩, (.func (.func 30) #[] #[.pointer (some ⟨gp, 0, none⟩), .pointer (some ⟨gr, 0, none⟩)]), 0⟩, ⟨.string ⟨#[98, 108, 111, 99, 107]⟩, (.func (.func 31) #[] #[.pointer (some ⟨gp, 0, none⟩), .pointer (some ⟨gr, 0, none⟩)]), 1⟩, ⟨.string ⟨#[112, 104, 105]⟩, (.func (.func 32) #[] #[.pointer (some ⟨gp, 0, none⟩)]), 2⟩] 3) := by rw [← hW3, ← hgm]; exact heap_alloc_new W2 _
  have hb23 : Below W2.heap.size W2 W3 := by rw [← hW3]; exact (Below.refl _ _).alloc (Nat.le_refl _) _
  rw [hW3, hgm]
  have HM3 := Aside0.mk hm3
  have HB23 := Aside0.mk hb23
  clear hW3 hgm hm3 hb23 hmm hmf
  have hb3 : Below w.heap.size w W3 := HB2.out.trans (HB23.out.mono HB2.out.size)
  have HB3 := Aside0.mk hb3
  clear hb3
  refine (fields_terms W3 ⟨(HG.out _ (HB3.out.mono HPS.out.size)).l⟩).mono ?_
  rintro e w4 ⟨rfl, rfl⟩
  go_wp2_with fail
  refine (Tryd.slices_Index_string W3.heap.size 0 5 5 termStrs ⟨#[112, 104, 105]⟩ _ (by rw [termStrs_len]; exact Nat.le_refl _) (by omega) (terms_cells W3)).mono ?_
  rintro e w4 ⟨rfl, rfl⟩
  rw [List.take_of_length_le (by rw [termStrs_len]; exact Nat.le_refl _)]
  obtain ⟨kx, hkx⟩ : ∃ kx, Lib.idxOfS termStrs ⟨#[112, 104, 105]⟩ = kx := ⟨_, rfl⟩
  have hkb := idx_bounds termStrs ⟨#[112, 104, 105]⟩
  rw [termStrs_len, hkx] at hkb
  obtain ⟨hk0, hk1⟩ := hkb
  rw [hkx]
  have HKX := Lib.hid hkx
  clear hkx
  have hb4 : Below W3.heap.size W3 (W3.alloc (.cells termVals.toArray 9)) := (Below.refl _ _).alloc (Nat.le_refl _) _
  have HB4 := Aside0.mk hb4
  clear hb4
  go_wp2_with fail
  refine (word_Number.calls ⟨#[112, 104, 105]⟩ (opOf ⟨#[112, 104, 105]⟩) _ ⟨(HG.out _ ((HB3.out.trans (HB4.out.mono HB3.out.size)).mono HPS.out.size)).l⟩ rfl).mono ?_
  rintro e W5 ⟨rfl, hb5⟩
  obtain ⟨ox, hox⟩ : ∃ ox, opOf ⟨#[112, 104, 105]⟩ = ox := ⟨_, rfl⟩
  have hob := op_bounds ⟨#[112, 104, 105]⟩
  rw [hox] at hob
  obtain ⟨ho0, ho1⟩ := hob
  rw [hox]
  have HOX := Lib.hid hox
  clear hox
  have hb35 : Below W3.heap.size W3 W5 := HB4.out.trans (hb5.mono HB4.out.size)
  have HB35 := Aside0.mk hb35
  have HB5 := Aside0.mk (HB3.out.trans (hb35.mono HB3.out.size))
  have HM5 := Aside0.mk (blk_below HM3.out hb35)
  have HPB5 := Aside0.mk (blk_below (blk_below HPB2.out HB23.out) hb35)
  have HRB5 := Aside0.mk (blk_below (blk_below HRB2.out HB23.out) hb35)
  have p5 : W5.cell? ⟨gp, 0, none⟩ = some (.pointer (some ⟨g, 0, none⟩)) := blk_cell HPB5.out 0
  have r5 : W5.cell? ⟨gr, 0, none⟩ = some (.slice A' t.length (cap - 1)) := blk_cell HRB5.out 0
  have HG5 := Aside0.mk (blk_below HB.out HB5.out)
  have at5 : W5.cell? ⟨g, 2, none⟩ = some (.int .i64 st.at_) := blk_cell HG5.out 2
  have HPS5 := Aside0.mk (HPS.out.below HB5.out)
  have HRT := Aside0.mk (HRD.out _ (HR.out.below HB5.out))
  clear hb5 hb35
  go_wp2_with (((with_reducible refine at_lookup_ ?_); refine wpList_lookup_of rfl _ _ 87 true rfl (.string ⟨#[112, 104, 105]⟩) gm rfl rfl _ (look_str_hit under_fm under_s HM5.out ⟨#[112, 104, 105]⟩ 2 _ rfl) ?_))
  have hok : Aside0 (∀ W : World, W.heap = W5.heap → Calls Tryd.prog 32 #[.pointer (some ⟨gp, 0, none⟩)] W fun e w' => e = .returned (.bool true) ∧ W = w') := ⟨fun W h => by
    have := ok_phi g gp st.at_ W ((cell_heap h _).trans p5) ((cell_heap h _).trans at5)
    rwa [decide_eq_true HX.out] at this⟩
  have hmust : Aside0 (∀ W : World, W.heap = W5.heap → Calls Tryd.prog 35 #[.pointer (some ⟨g, 0, none⟩), .bool true, .int .i64 70] W fun e w' => e = .returned (.bool true) ∧ W = w') := ⟨fun W h => must_yes g _ _ _ _ 70 W (by rw [h]; exact HG5.out)⟩
  go_region_held3 (fun w' => w'.cell? ⟨gp, 0, none⟩ = some (.pointer (some ⟨g, 0, none⟩))) (go_keep)
    (first | (go_at_call 32; refine (hok.out _ (by first | rfl | assumption)).mono ?_; rintro e w6 ⟨rfl, rfl⟩) | (go_at_call 35; refine (hmust.out _ (by first | rfl | assumption)).mono ?_; rintro e w6 ⟨rfl, rfl⟩))
  obtain ⟨W6, hW6⟩ : ∃ W6, W5.drew = W6 := ⟨_, rfl⟩
  have hh6 : W6.heap = W5.heap := by rw [← hW6]; rfl
  have hbw6 : Below w.heap.size w W6 := by rw [← hW6]; first | exact below_drew HB5.out | exact pw_below_drewN HB5.out _
  rw [hW6]
  have HB6 := Aside0.mk hbw6
  have HPB6 := Aside0.mk ((show W6.heap[gp]? = W5.heap[gp]? by rw [hh6]).trans HPB5.out)
  have HRB6 := Aside0.mk ((show W6.heap[gr]? = W5.heap[gr]? by rw [hh6]).trans HRB5.out)
  have HG6 := Aside0.mk ((show W6.heap[g]? = W5.heap[g]? by rw [hh6]).trans HG5.out)
  have HPS6 := Aside0.mk (HPS.out.below HB6.out)
  have HRT6 := Aside0.mk (HRD.out _ (HR.out.below HB6.out))
  clear p5 r5 at5 hW6 hh6 hbw6
  have p6 : W6.cell? ⟨gp, 0, none⟩ = some (.pointer (some ⟨g, 0, none⟩)) := blk_cell HPB6.out 0
  have r6 : W6.cell? ⟨gr, 0, none⟩ = some (.slice A' t.length (cap - 1)) := blk_cell HRB6.out 0
  have at6 : W6.cell? ⟨g, 2, none⟩ = some (.int .i64 st.at_) := blk_cell HG6.out 2
  go_wp2
  go_region
  obtain ⟨W7, hW7⟩ : ∃ W7, W6.drew = W7 := ⟨_, rfl⟩
  have hh7 : W7.heap = W6.heap := by rw [← hW7]; rfl
  have hbw7 : Below w.heap.size w W7 := by rw [← hW7]; first | exact below_drew HB6.out | exact pw_below_drewN HB6.out _
  rw [hW7]
  have HB7 := Aside0.mk hbw7
  have HPB7 := Aside0.mk ((show W7.heap[gp]? = W6.heap[gp]? by rw [hh7]).trans HPB6.out)
  have HRB7 := Aside0.mk ((show W7.heap[gr]? = W6.heap[gr]? by rw [hh7]).trans HRB6.out)
  have HG7 := Aside0.mk ((show W7.heap[g]? = W6.heap[g]? by rw [hh7]).trans HG6.out)
  have HPS7 := Aside0.mk (HPS.out.below HB7.out)
  have HRT7 := Aside0.mk (HRD.out _ (HR.out.below HB7.out))
  clear p6 r6 at6 hW7 hh7 hbw7
  have p7 : W7.cell? ⟨gp, 0, none⟩ = some (.pointer (some ⟨g, 0, none⟩)) := blk_cell HPB7.out 0
  have r7 : W7.cell? ⟨gr, 0, none⟩ = some (.slice A' t.length (cap - 1)) := blk_cell HRB7.out 0
  have at7 : W7.cell? ⟨g, 2, none⟩ = some (.int .i64 st.at_) := blk_cell HG7.out 2
  go_wp2_with fail
  refine (phi_calls B g A' (cap - 1) t st W7 ⟨fun w' h => HG.out w' ((HB7.out.mono HPS.out.size).trans h)⟩ HPS7.out HRT7.out (by omega) hl ⟨fun s' h => hw.out s' (List.mem_cons_of_mem _ h)⟩ HN.out HM.out).mono ?_
  rintro e w8 ⟨rfl, hst⟩
  go_wp2
  go_end0
  exact ⟨rfl, Stepped.later HB7.out HPS.out.size hst⟩

end Go.Proofs.YtlmkhllippobaaaDoor.Ps
end
section
/- text.parser.line, walked: Op. -/
set_option linter.unusedVariables false
set_option linter.unusedSimpArgs false
namespace Go.Proofs.YtlmkhllippobaaaDoor.Ps
open Go.RowKit Go.Proofs.YtlmkhllippobaaaDoorW.PrintWords Go.Proofs.YtlmkhllippobaaaDoorW.PrintWords.Kd Go.Proofs.YtlmkhllippobaaaDoorW.PrintMore Go.Proofs.YtlmkhllippobaaaDoorW.PrintMore.Kd Go.Proofs.YtlmkhllippobaaaDoor.Wl Go.Proofs.YtlmkhllippobaaaDoor.Tx Go.Proofs.YtlmkhllippobaaaDoor.Kd Go.Proofs.YtlmkhllippobaaaDoor.Kp Go.Proofs.YtlmkhllippobaaaDoor.Mp Go.Proofs.YtlmkhllippobaaaDoor.Wb
attribute [local go_sem ↓] Go.wp_at_zero Go.wp_at_succ

set_option maxHeartbeats 16000000 in
set_option maxRecDepth 1000000 in
theorem line_op (B g : Nat) (A : Option Addr) (cap : Nat) (s : ByteArray) (t : List ByteArray) (st : St) (w : World) (HG : Aside0 (∀ w', Below B w w' → LaidP w')) (hps : PS B g st 0 w) (hr : RdS w A (s :: t)) (hc : t.length + 1 ≤ cap) (hl : t.length ≤ 1099511627776)
    (hw : Aside0 (∀ s' ∈ s :: t, s'.size < 4294967281)) (hs1 : s ≠ ⟨#[102, 117, 110, 99]⟩) (hs2 : s ≠ ⟨#[98, 108, 111, 99, 107]⟩) (hs3 : s ≠ ⟨#[112, 104, 105]⟩) (ho : 0 < opOf s) (ha : 2 ≤ st.at_) (hn : st.blocks ≠ []) (hm : ∀ b ∈ st.blocks, b.f0.length ≤ 1099511627776 ∧ b.f1.length ≤ 1099511627776) :
    Calls Tryd.prog 16 #[.pointer (some ⟨g, 0, none⟩), .slice A (t.length + 1) cap] w fun e w' => e = .returned (.tuple #[]) ∧ Stepped B g (atS (insS st (opOf s) t) 3) w w' := by
  have hq1 : (s.toList == [102, 117, 110, 99]) = false := lit_ne [102, 117, 110, 99] hs1
  have hq2 : (s.toList == [98, 108, 111, 99, 107]) = false := lit_ne [98, 108, 111, 99, 107] hs2
  have hq3 : (s.toList == [112, 104, 105]) = false := lit_ne [112, 104, 105] hs3
  have HOE := Lib.hid ho
  clear ho
  have HN := Aside0.mk hn
  have HM := Aside0.mk hm
  clear hn hm
  obtain ⟨v, hb, hS⟩ := hps.ex
  have HB := Aside0.mk hb
  have hlt := blk_lt hb
  obtain ⟨A', hsl, hrd⟩ := cut1 A s t cap hc
  have HPS := Aside0.mk hps
  have HS := Aside0.mk hS
  have HR := Aside0.mk hr
  have HRD := Aside0.mk hrd
  obtain ⟨ad, rfl, hc0⟩ := at_string hr.now 0 (by omega) (by simp)
  have hc0 : w.cell? ad = some (.string s) := by
    have : w.cell? (ad.add 0) = some (.string s) := hc0
    rwa [show ad.add 0 = ad by simp [Addr.add]] at this
  clear hS hb hps hr hrd
  have hmf : ∀ (fn : Fn) (first cp : Array Value) (w : World), (Instr.makeFunc fn first cp).run Tryd.prog w = .ok (.func fn first cp) w := fun _ _ _ _ => rfl
  have hmm := fun (w : World) => run_makeMap (P := Tryd.prog) 87 w
  go_enter Tryd.func16, Tryd.ntmps16
  go_wp2
  obtain ⟨W1, hW1⟩ : ∃ W1, w.alloc (.cells #[Value.pointer (some ⟨g, 0, none⟩)] 55) = W1 := ⟨_, rfl⟩
  have hbel : Below w.heap.size w W1 := by rw [← hW1]; exact (Below.refl _ _).alloc (Nat.le_refl _) _
  obtain ⟨gp, hgp⟩ : ∃ gp, w.heap.size = gp := ⟨_, rfl⟩
  have hpb : W1.heap[gp]? = some (.cells #[.pointer (some ⟨g, 0, none⟩)] 55 (0, 0)) := by rw [← hW1, ← hgp]; exact heap_alloc_new w _
  have hc1 : W1.cell? ad = some (.string s) := pw_cell_below hbel hc0
  rw [hW1]
  go_region_held3 (fun w' => w'.cell? ad = some (.string s)) (go_keep) (fail)
  obtain ⟨W2, hW2⟩ : ∃ W2, (W1.alloc (.cells #[Value.slice A' t.length (cap - 1)] 63)).drew = W2 := ⟨_, rfl⟩
  obtain ⟨gr, hgr⟩ : ∃ gr, W1.heap.size = gr := ⟨_, rfl⟩
  have hb2 : Below w.heap.size w W2 := by rw [← hW2]; exact below_drew (hbel.alloc hbel.size _)
  have hrb : W2.heap[gr]? = some (.cells #[.slice A' t.length (cap - 1)] 63 (0, 0)) := by rw [← hW2, ← hgr]; exact heap_alloc_new W1 _
  have hpb2 : W2.heap[gp]? = some (.cells #[.pointer (some ⟨g, 0, none⟩)] 55 (0, 0)) := by rw [← hW2]; exact blk_alloc hpb _
  rw [hW2, hgr]
  have HPB2 := Aside0.mk hpb2
  have HRB2 := Aside0.mk hrb
  have HB2 := Aside0.mk hb2
  clear hW2 hgr hgp hW1 hbel hpb hc1 hc0 hb2 hrb hpb2
  go_wp2_with ((with_reducible refine at_insert ?_); refine wpList_insert_str rfl _ _ _ 87 rfl under_fm under_s _ _ _ _ rfl (by first | rfl | simp) rfl rfl ?_)
  obtain ⟨W3, hW3⟩ : ∃ W3, W2.alloc (.map #[⟨.string ⟨#[102, 117, 110, 99]⟩, (.func (.func 30) #[] #[.pointer (some ⟨gp, 0, none⟩), .pointer (some ⟨gr, 0, none⟩)]), 0⟩, ⟨.string ⟨#[98, 108, 111, 99, 107]⟩, (.func (.func 31) #[] #[.pointer (some ⟨gp, 0, none⟩), .pointer (some ⟨gr, 0, none⟩)]), 1⟩, ⟨.string ⟨#[112, 104, 105]⟩, (.func (.func 32) #[] #[.pointer (some ⟨gp, 0, none⟩)]), 2⟩] 3) = W3 := ⟨_, rfl⟩
  obtain ⟨gm, hgm⟩ : ∃ gm, W2.heap.size = gm := ⟨_, rfl⟩
  have hm3 : W3.heap[gm]? = some (.map #[⟨.string ⟨#[102, 117, 110, 99]⟩, (.func (.func 30) #[] #[.pointer (some ⟨gp, 0, none⟩), .pointer (some ⟨gr, 0, none⟩)]), 0⟩, ⟨.string ⟨#[98, 108, 111, 99, 107]⟩, (.func (.func 31) #[] #[.pointer (some ⟨gp, 0, none⟩), .pointer (some ⟨gr, 0, none⟩)]), 1⟩, ⟨.string ⟨#[112, 104, 105]⟩, (.func (.func 32) #[] #[.pointer (some ⟨gp, 0, none⟩)]), 2⟩] 3) := by rw [← hW3, ← hgm]; exact heap_alloc_new W2 _
  have hb23 : Below W2.heap.size W2 W3 := by rw [← hW3]; exact (Below.refl _ _).alloc (Nat.le_refl _) _
  rw [hW3, hgm]
  have HM3 := Aside0.mk hm3
  have HB23 := Aside0.mk hb23
  clear hW3 hgm hm3 hb23 hmm hmf
  have hb3 : Below w.heap.size w W3 := HB2.out.trans (HB23.out.mono HB2.out.size)
  have HB3 := Aside0.mk hb3
  clear hb3
  refine (fields_terms W3 ⟨(HG.out _ (HB3.out.mono HPS.out.size)).l⟩).mono ?_
  rintro e w4 ⟨rfl, rfl⟩
  go_wp2_with fail
  refine (Tryd.slices_Index_string W3.heap.size 0 5 5 termStrs s _ (by rw [termStrs_len]; exact Nat.le_refl _) (by omega) (terms_cells W3)).mono ?_
  rintro e w4 ⟨rfl, rfl⟩
  rw [List.take_of_length_le (by rw [termStrs_len]; exact Nat.le_refl _)]
  obtain ⟨kx, hkx⟩ : ∃ kx, Lib.idxOfS termStrs s = kx := ⟨_, rfl⟩
  have hkb := idx_bounds termStrs s
  rw [termStrs_len, hkx] at hkb
  obtain ⟨hk0, hk1⟩ := hkb
  rw [hkx]
  have HKX := Lib.hid hkx
  clear hkx
  have hb4 : Below W3.heap.size W3 (W3.alloc (.cells termVals.toArray 9)) := (Below.refl _ _).alloc (Nat.le_refl _) _
  have HB4 := Aside0.mk hb4
  clear hb4
  go_wp2_with fail
  refine (word_Number.calls s (opOf s) _ ⟨(HG.out _ ((HB3.out.trans (HB4.out.mono HB3.out.size)).mono HPS.out.size)).l⟩ rfl).mono ?_
  rintro e W5 ⟨rfl, hb5⟩
  obtain ⟨ox, hox⟩ : ∃ ox, opOf s = ox := ⟨_, rfl⟩
  have hob := op_bounds s
  rw [hox] at hob
  obtain ⟨ho0, ho1⟩ := hob
  rw [hox]
  have HOX := Lib.hid hox
  clear hox
  have hb35 : Below W3.heap.size W3 W5 := HB4.out.trans (hb5.mono HB4.out.size)
  have HB35 := Aside0.mk hb35
  have HB5 := Aside0.mk (HB3.out.trans (hb35.mono HB3.out.size))
  have HM5 := Aside0.mk (blk_below HM3.out hb35)
  have HPB5 := Aside0.mk (blk_below (blk_below HPB2.out HB23.out) hb35)
  have HRB5 := Aside0.mk (blk_below (blk_below HRB2.out HB23.out) hb35)
  have p5 : W5.cell? ⟨gp, 0, none⟩ = some (.pointer (some ⟨g, 0, none⟩)) := blk_cell HPB5.out 0
  have r5 : W5.cell? ⟨gr, 0, none⟩ = some (.slice A' t.length (cap - 1)) := blk_cell HRB5.out 0
  have HG5 := Aside0.mk (blk_below HB.out HB5.out)
  have at5 : W5.cell? ⟨g, 2, none⟩ = some (.int .i64 st.at_) := blk_cell HG5.out 2
  have HPS5 := Aside0.mk (HPS.out.below HB5.out)
  have HRT := Aside0.mk (HRD.out _ (HR.out.below HB5.out))
  clear hb5 hb35
  have hmiss : Instr.findNow .string (.string s) #[⟨.string ⟨#[102, 117, 110, 99]⟩, (.func (.func 30) #[] #[.pointer (some ⟨gp, 0, none⟩), .pointer (some ⟨gr, 0, none⟩)]), 0⟩, ⟨.string ⟨#[98, 108, 111, 99, 107]⟩, (.func (.func 31) #[] #[.pointer (some ⟨gp, 0, none⟩), .pointer (some ⟨gr, 0, none⟩)]), 1⟩, ⟨.string ⟨#[112, 104, 105]⟩, (.func (.func 32) #[] #[.pointer (some ⟨gp, 0, none⟩)]), 2⟩].toList 0 = some none := find_str_miss _ _ (by
    intro e he
    simp only [List.mem_cons, List.not_mem_nil, or_false] at he
    rcases he with rfl | rfl | rfl
    · exact ⟨_, rfl, hs1⟩
    · exact ⟨_, rfl, hs2⟩
    · exact ⟨_, rfl, hs3⟩)
  have HMISS := Lib.hid hmiss
  have HS1 := Lib.hid hs1
  have HS2 := Lib.hid hs2
  have HS3 := Lib.hid hs3
  clear hmiss hs1 hs2 hs3
  have hox : 0 < ox := by have := HOX.out; have h2 := HOE.out; omega
  go_wp2_with (((with_reducible refine at_lookup_ ?_); refine wpList_lookup_of rfl _ _ 87 true rfl (.string s) gm rfl rfl _ (look_str_miss under_fm under_s HM5.out s _ zero_fn HMISS.out) ?_))
  go_region
  obtain ⟨W6, hW6⟩ : ∃ W6, W5.drew = W6 := ⟨_, rfl⟩
  have hh6 : W6.heap = W5.heap := by rw [← hW6]; rfl
  have hbw6 : Below w.heap.size w W6 := by rw [← hW6]; first | exact below_drew HB5.out | exact pw_below_drewN HB5.out _
  rw [hW6]
  have HB6 := Aside0.mk hbw6
  have HPB6 := Aside0.mk ((show W6.heap[gp]? = W5.heap[gp]? by rw [hh6]).trans HPB5.out)
  have HRB6 := Aside0.mk ((show W6.heap[gr]? = W5.heap[gr]? by rw [hh6]).trans HRB5.out)
  have HG6 := Aside0.mk ((show W6.heap[g]? = W5.heap[g]? by rw [hh6]).trans HG5.out)
  have HPS6 := Aside0.mk (HPS.out.below HB6.out)
  have HRT6 := Aside0.mk (HRD.out _ (HR.out.below HB6.out))
  clear p5 r5 at5 hW6 hh6 hbw6
  have p6 : W6.cell? ⟨gp, 0, none⟩ = some (.pointer (some ⟨g, 0, none⟩)) := blk_cell HPB6.out 0
  have r6 : W6.cell? ⟨gr, 0, none⟩ = some (.slice A' t.length (cap - 1)) := blk_cell HRB6.out 0
  have at6 : W6.cell? ⟨g, 2, none⟩ = some (.int .i64 st.at_) := blk_cell HG6.out 2
  go_wp2_with (go_at_call 35; refine (must_yes g _ _ _ _ 72 W6 HG6.out).mono ?_; rintro e w7 ⟨rfl, rfl⟩)
  have hne : gp ≠ g := blk_ne HPB6.out HG6.out (by decide)
  have hmust := must_yes g _ _ _ _ 70 W6.drew HG6.out
  have HMUST := Lib.hid hmust
  clear hmust
  go_wp2
  go_region_held3 (fun w' => w'.cell? ⟨gp, 0, none⟩ = some (.pointer (some ⟨g, 0, none⟩)) ∧ w'.cell? ⟨g, 2, none⟩ = some (.int .i64 st.at_)) (go_keep)
    ((go_at_call 35; refine HMUST.out.mono ?_; rintro e w7 ⟨rfl, rfl⟩))
  obtain ⟨W7, hW7⟩ : ∃ W7, W6.drew = W7 := ⟨_, rfl⟩
  have hh7 : W7.heap = W6.heap := by rw [← hW7]; rfl
  have hbw7 : Below w.heap.size w W7 := by rw [← hW7]; first | exact below_drew HB6.out | exact pw_below_drewN HB6.out _
  rw [hW7]
  have HB7 := Aside0.mk hbw7
  have HPB7 := Aside0.mk ((show W7.heap[gp]? = W6.heap[gp]? by rw [hh7]).trans HPB6.out)
  have HRB7 := Aside0.mk ((show W7.heap[gr]? = W6.heap[gr]? by rw [hh7]).trans HRB6.out)
  have HG7 := Aside0.mk ((show W7.heap[g]? = W6.heap[g]? by rw [hh7]).trans HG6.out)
  have HPS7 := Aside0.mk (HPS.out.below HB7.out)
  have HRT7 := Aside0.mk (HRD.out _ (HR.out.below HB7.out))
  clear p6 r6 at6 hW7 hh7 hbw7
  have p7 : W7.cell? ⟨gp, 0, none⟩ = some (.pointer (some ⟨g, 0, none⟩)) := blk_cell HPB7.out 0
  have r7 : W7.cell? ⟨gr, 0, none⟩ = some (.slice A' t.length (cap - 1)) := blk_cell HRB7.out 0
  have at7 : W7.cell? ⟨g, 2, none⟩ = some (.int .i64 st.at_) := blk_cell HG7.out 2
  go_wp2_with fail
  refine (ins_calls B g A' (cap - 1) ox t st W7 ⟨fun w' h => HG.out w' ((HB7.out.mono HPS.out.size).trans h)⟩ HPS7.out HRT7.out hl ⟨fun s' h => hw.out s' (List.mem_cons_of_mem _ h)⟩ HN.out HM.out (by omega) (by omega)).mono ?_
  rintro e w8 ⟨rfl, hst⟩
  have hstq := hst
  rw [← HOX.out] at hst
  have hst := Stepped.later HB7.out HPS.out.size hst
  obtain ⟨ca, cb, cc, ce, cd, hcb⟩ := hst.out.cells
  have p8 : w8.cell? ⟨gp, 0, none⟩ = some (.pointer (some ⟨g, 0, none⟩)) := blk_cell ((hstq.oth).blk HPB7.out (by decide)) 0
  have c8 : w8.cell? ⟨g, 2, none⟩ = some cc := blk_cell hcb 2
  have f8 : w8.frozen? ⟨g, 2, none⟩ = false := blk_frozen hcb 2
  have HST := Aside0.mk hst
  clear hst hstq hcb
  go_wp2
  go_end0
  refine ⟨rfl, ?_⟩
  have hfin := HST.out.at HPS.out.base 3
  first | exact hfin | exact hfin.drew | exact hfin.drewN _

end Go.Proofs.YtlmkhllippobaaaDoor.Ps
end
section
/- text.parser.line, walked: Kind. -/
set_option linter.unusedVariables false
set_option linter.unusedSimpArgs false
namespace Go.Proofs.YtlmkhllippobaaaDoor.Ps
open Go.RowKit Go.Proofs.YtlmkhllippobaaaDoorW.PrintWords Go.Proofs.YtlmkhllippobaaaDoorW.PrintWords.Kd Go.Proofs.YtlmkhllippobaaaDoorW.PrintMore Go.Proofs.YtlmkhllippobaaaDoorW.PrintMore.Kd Go.Proofs.YtlmkhllippobaaaDoor.Wl Go.Proofs.YtlmkhllippobaaaDoor.Tx Go.Proofs.YtlmkhllippobaaaDoor.Kd Go.Proofs.YtlmkhllippobaaaDoor.Kp Go.Proofs.YtlmkhllippobaaaDoor.Mp Go.Proofs.YtlmkhllippobaaaDoor.Wb
attribute [local go_sem ↓] Go.wp_at_zero Go.wp_at_succ

set_option maxHeartbeats 16000000 in
set_option maxRecDepth 1000000 in
theorem line_kind (B g : Nat) (A : Option Addr) (cap : Nat) (s : ByteArray) (t : List ByteArray) (st : St) (w : World) (HG : Aside0 (∀ w', Below B w w' → LaidP w')) (hps : PS B g st 0 w) (hr : RdS w A (s :: t)) (hc : t.length + 1 ≤ cap) (hl : t.length ≤ 1099511627776)
    (hw : Aside0 (∀ s' ∈ s :: t, s'.size < 4294967281)) (hs1 : s ≠ ⟨#[102, 117, 110, 99]⟩) (hs2 : s ≠ ⟨#[98, 108, 111, 99, 107]⟩) (hs3 : s ≠ ⟨#[112, 104, 105]⟩) (ho : opOf s = 0) (hk : 0 < kindOf s) (ha : 2 ≤ st.at_) (hn : st.blocks ≠ []) :
    Calls Tryd.prog 16 #[.pointer (some ⟨g, 0, none⟩), .slice A (t.length + 1) cap] w fun e w' => e = .returned (.tuple #[]) ∧ Stepped B g (atS (termS st (kindOf s) t) 1) w w' := by
  have hq1 : (s.toList == [102, 117, 110, 99]) = false := lit_ne [102, 117, 110, 99] hs1
  have hq2 : (s.toList == [98, 108, 111, 99, 107]) = false := lit_ne [98, 108, 111, 99, 107] hs2
  have hq3 : (s.toList == [112, 104, 105]) = false := lit_ne [112, 104, 105] hs3
  have HOE := Lib.hid ho
  clear ho
  have HKE := Lib.hid hk
  clear hk
  have HN := Aside0.mk hn
  clear hn
  obtain ⟨v, hb, hS⟩ := hps.ex
  have HB := Aside0.mk hb
  have hlt := blk_lt hb
  obtain ⟨A', hsl, hrd⟩ := cut1 A s t cap hc
  have HPS := Aside0.mk hps
  have HS := Aside0.mk hS
  have HR := Aside0.mk hr
  have HRD := Aside0.mk hrd
  obtain ⟨ad, rfl, hc0⟩ := at_string hr.now 0 (by omega) (by simp)
  have hc0 : w.cell? ad = some (.string s) := by
    have : w.cell? (ad.add 0) = some (.string s) := hc0
    rwa [show ad.add 0 = ad by simp [Addr.add]] at this
  clear hS hb hps hr hrd
  have hmf : ∀ (fn : Fn) (first cp : Array Value) (w : World), (Instr.makeFunc fn first cp).run Tryd.prog w = .ok (.func fn first cp) w := fun _ _ _ _ => rfl
  have hmm := fun (w : World) => run_makeMap (P := Tryd.prog) 87 w
  go_enter Tryd.func16, Tryd.ntmps16
  go_wp2
  obtain ⟨W1, hW1⟩ : ∃ W1, w.alloc (.cells #[Value.pointer (some ⟨g, 0, none⟩)] 55) = W1 := ⟨_, rfl⟩
  have hbel : Below w.heap.size w W1 := by rw [← hW1]; exact (Below.refl _ _).alloc (Nat.le_refl _) _
  obtain ⟨gp, hgp⟩ : ∃ gp, w.heap.size = gp := ⟨_, rfl⟩
  have hpb : W1.heap[gp]? = some (.cells #[.pointer (some ⟨g, 0, none⟩)] 55 (0, 0)) := by rw [← hW1, ← hgp]; exact heap_alloc_new w _
  have hc1 : W1.cell? ad = some (.string s) := pw_cell_below hbel hc0
  rw [hW1]
  go_region_held3 (fun w' => w'.cell? ad = some (.string s)) (go_keep) (fail)
  obtain ⟨W2, hW2⟩ : ∃ W2, (W1.alloc (.cells #[Value.slice A' t.length (cap - 1)] 63)).drew = W2 := ⟨_, rfl⟩
  obtain ⟨gr, hgr⟩ : ∃ gr, W1.heap.size = gr := ⟨_, rfl⟩
  have hb2 : Below w.heap.size w W2 := by rw [← hW2]; exact below_drew (hbel.alloc hbel.size _)
  have hrb : W2.heap[gr]? = some (.cells #[.slice A' t.length (cap - 1)] 63 (0, 0)) := by rw [← hW2, ← hgr]; exact heap_alloc_new W1 _
  have hpb2 : W2.heap[gp]? = some (.cells #[.pointer (some ⟨g, 0, none⟩)] 55 (0, 0)) := by rw [← hW2]; exact blk_alloc hpb _
  rw [hW2, hgr]
  have HPB2 := Aside0.mk hpb2
  have HRB2 := Aside0.mk hrb
  have HB2 := Aside0.mk hb2
  clear hW2 hgr hgp hW1 hbel hpb hc1 hc0 hb2 hrb hpb2
  go_wp2_with ((with_reducible refine at_insert ?_); refine wpList_insert_str rfl _ _ _ 87 rfl under_fm under_s _ _ _ _ rfl (by first | rfl | simp) rfl rfl ?_)
  obtain ⟨W3, hW3⟩ : ∃ W3, W2.alloc (.map #[⟨.string ⟨#[102, 117, 110, 99]⟩, (.func (.func 30) #[] #[.pointer (some ⟨gp, 0, none⟩), .pointer (some ⟨gr, 0, none⟩)]), 0⟩, ⟨.string ⟨#[98, 108, 111, 99, 107]⟩, (.func (.func 31) #[] #[.pointer (some ⟨gp, 0, none⟩), .pointer (some ⟨gr, 0, none⟩)]), 1⟩, ⟨.string ⟨#[112, 104, 105]⟩, (.func (.func 32) #[] #[.pointer (some ⟨gp, 0, none⟩)]), 2⟩] 3) = W3 := ⟨_, rfl⟩
  obtain ⟨gm, hgm⟩ : ∃ gm, W2.heap.size = gm := ⟨_, rfl⟩
  have hm3 : W3.heap[gm]? = some (.map #[⟨.string ⟨#[102, 117, 110, 99]⟩, (.func (.func 30) #[] #[.pointer (some ⟨gp, 0, none⟩), .pointer (some ⟨gr, 0, none⟩)]), 0⟩, ⟨.string ⟨#[98, 108, 111, 99, 107]⟩, (.func (.func 31) #[] #[.pointer (some ⟨gp, 0, none⟩), .pointer (some ⟨gr, 0, none⟩)]), 1⟩, ⟨.string ⟨#[112, 104, 105]⟩, (.func (.func 32) #[] #[.pointer (some ⟨gp, 0, none⟩)]), 2⟩] 3) := by rw [← hW3, ← hgm]; exact heap_alloc_new W2 _
  have hb23 : Below W2.heap.size W2 W3 := by rw [← hW3]; exact (Below.refl _ _).alloc (Nat.le_refl _) _
  rw [hW3, hgm]
  have HM3 := Aside0.mk hm3
  have HB23 := Aside0.mk hb23
  clear hW3 hgm hm3 hb23 hmm hmf
  have hb3 : Below w.heap.size w W3 := HB2.out.trans (HB23.out.mono HB2.out.size)
  have HB3 := Aside0.mk hb3
  clear hb3
  refine (fields_terms W3 ⟨(HG.out _ (HB3.out.mono HPS.out.size)).l⟩).mono ?_
  rintro e w4 ⟨rfl, rfl⟩
  go_wp2_with fail
  refine (Tryd.slices_Index_string W3.heap.size 0 5 5 termStrs s _ (by rw [termStrs_len]; exact Nat.le_refl _) (by omega) (terms_cells W3)).mono ?_
  rintro e w4 ⟨rfl, rfl⟩
  rw [List.take_of_length_le (by rw [termStrs_len]; exact Nat.le_refl _)]
  obtain ⟨kx, hkx⟩ : ∃ kx, Lib.idxOfS termStrs s = kx := ⟨_, rfl⟩
  have hkb := idx_bounds termStrs s
  rw [termStrs_len, hkx] at hkb
  obtain ⟨hk0, hk1⟩ := hkb
  rw [hkx]
  have HKX := Lib.hid hkx
  clear hkx
  have hb4 : Below W3.heap.size W3 (W3.alloc (.cells termVals.toArray 9)) := (Below.refl _ _).alloc (Nat.le_refl _) _
  have HB4 := Aside0.mk hb4
  clear hb4
  go_wp2_with fail
  refine (word_Number.calls s (opOf s) _ ⟨(HG.out _ ((HB3.out.trans (HB4.out.mono HB3.out.size)).mono HPS.out.size)).l⟩ rfl).mono ?_
  rintro e W5 ⟨rfl, hb5⟩
  obtain ⟨ox, hox⟩ : ∃ ox, opOf s = ox := ⟨_, rfl⟩
  have hob := op_bounds s
  rw [hox] at hob
  obtain ⟨ho0, ho1⟩ := hob
  rw [hox]
  have HOX := Lib.hid hox
  clear hox
  have hb35 : Below W3.heap.size W3 W5 := HB4.out.trans (hb5.mono HB4.out.size)
  have HB35 := Aside0.mk hb35
  have HB5 := Aside0.mk (HB3.out.trans (hb35.mono HB3.out.size))
  have HM5 := Aside0.mk (blk_below HM3.out hb35)
  have HPB5 := Aside0.mk (blk_below (blk_below HPB2.out HB23.out) hb35)
  have HRB5 := Aside0.mk (blk_below (blk_below HRB2.out HB23.out) hb35)
  have p5 : W5.cell? ⟨gp, 0, none⟩ = some (.pointer (some ⟨g, 0, none⟩)) := blk_cell HPB5.out 0
  have r5 : W5.cell? ⟨gr, 0, none⟩ = some (.slice A' t.length (cap - 1)) := blk_cell HRB5.out 0
  have HG5 := Aside0.mk (blk_below HB.out HB5.out)
  have at5 : W5.cell? ⟨g, 2, none⟩ = some (.int .i64 st.at_) := blk_cell HG5.out 2
  have HPS5 := Aside0.mk (HPS.out.below HB5.out)
  have HRT := Aside0.mk (HRD.out _ (HR.out.below HB5.out))
  clear hb5 hb35
  have hmiss : Instr.findNow .string (.string s) #[⟨.string ⟨#[102, 117, 110, 99]⟩, (.func (.func 30) #[] #[.pointer (some ⟨gp, 0, none⟩), .pointer (some ⟨gr, 0, none⟩)]), 0⟩, ⟨.string ⟨#[98, 108, 111, 99, 107]⟩, (.func (.func 31) #[] #[.pointer (some ⟨gp, 0, none⟩), .pointer (some ⟨gr, 0, none⟩)]), 1⟩, ⟨.string ⟨#[112, 104, 105]⟩, (.func (.func 32) #[] #[.pointer (some ⟨gp, 0, none⟩)]), 2⟩].toList 0 = some none := find_str_miss _ _ (by
    intro e he
    simp only [List.mem_cons, List.not_mem_nil, or_false] at he
    rcases he with rfl | rfl | rfl
    · exact ⟨_, rfl, hs1⟩
    · exact ⟨_, rfl, hs2⟩
    · exact ⟨_, rfl, hs3⟩)
  have HMISS := Lib.hid hmiss
  have HS1 := Lib.hid hs1
  have HS2 := Lib.hid hs2
  have HS3 := Lib.hid hs3
  clear hmiss hs1 hs2 hs3
  have hox : ¬ 0 < ox := by have := HOX.out; have h2 := HOE.out; omega
  have hoxd : decide (0 < ox) = false := decide_eq_false hox
  have hkx : 0 < 1 + kx := by have := HKX.out; have h2 := HKE.out; unfold kindOf at h2; omega
  go_wp2_with (((with_reducible refine at_lookup_ ?_); refine wpList_lookup_of rfl _ _ 87 true rfl (.string s) gm rfl rfl _ (look_str_miss under_fm under_s HM5.out s _ zero_fn HMISS.out) ?_))
  go_region
  obtain ⟨W6, hW6⟩ : ∃ W6, W5.drew = W6 := ⟨_, rfl⟩
  have hh6 : W6.heap = W5.heap := by rw [← hW6]; rfl
  have hbw6 : Below w.heap.size w W6 := by rw [← hW6]; first | exact below_drew HB5.out | exact pw_below_drewN HB5.out _
  rw [hW6]
  have HB6 := Aside0.mk hbw6
  have HPB6 := Aside0.mk ((show W6.heap[gp]? = W5.heap[gp]? by rw [hh6]).trans HPB5.out)
  have HRB6 := Aside0.mk ((show W6.heap[gr]? = W5.heap[gr]? by rw [hh6]).trans HRB5.out)
  have HG6 := Aside0.mk ((show W6.heap[g]? = W5.heap[g]? by rw [hh6]).trans HG5.out)
  have HPS6 := Aside0.mk (HPS.out.below HB6.out)
  have HRT6 := Aside0.mk (HRD.out _ (HR.out.below HB6.out))
  clear p5 r5 at5 hW6 hh6 hbw6
  have p6 : W6.cell? ⟨gp, 0, none⟩ = some (.pointer (some ⟨g, 0, none⟩)) := blk_cell HPB6.out 0
  have r6 : W6.cell? ⟨gr, 0, none⟩ = some (.slice A' t.length (cap - 1)) := blk_cell HRB6.out 0
  have at6 : W6.cell? ⟨g, 2, none⟩ = some (.int .i64 st.at_) := blk_cell HG6.out 2
  go_wp2_with (go_at_call 35; refine (must_yes g _ _ _ _ 72 W6 HG6.out).mono ?_; rintro e w7 ⟨rfl, rfl⟩)
  have hne : gp ≠ g := blk_ne HPB6.out HG6.out (by decide)
  have hmust := must_yes g _ _ _ _ 70 W6.drew HG6.out
  have HMUST := Lib.hid hmust
  clear hmust
  go_wp2
  go_region_held3 (fun w' => w'.cell? ⟨gp, 0, none⟩ = some (.pointer (some ⟨g, 0, none⟩)) ∧ w'.cell? ⟨g, 2, none⟩ = some (.int .i64 st.at_)) (go_keep)
    ((go_at_call 35; refine HMUST.out.mono ?_; rintro e w7 ⟨rfl, rfl⟩))
  obtain ⟨W7, hW7⟩ : ∃ W7, W6.drew = W7 := ⟨_, rfl⟩
  have hh7 : W7.heap = W6.heap := by rw [← hW7]; rfl
  have hbw7 : Below w.heap.size w W7 := by rw [← hW7]; first | exact below_drew HB6.out | exact pw_below_drewN HB6.out _
  rw [hW7]
  have HB7 := Aside0.mk hbw7
  have HPB7 := Aside0.mk ((show W7.heap[gp]? = W6.heap[gp]? by rw [hh7]).trans HPB6.out)
  have HRB7 := Aside0.mk ((show W7.heap[gr]? = W6.heap[gr]? by rw [hh7]).trans HRB6.out)
  have HG7 := Aside0.mk ((show W7.heap[g]? = W6.heap[g]? by rw [hh7]).trans HG6.out)
  have HPS7 := Aside0.mk (HPS.out.below HB7.out)
  have HRT7 := Aside0.mk (HRD.out _ (HR.out.below HB7.out))
  clear p6 r6 at6 hW7 hh7 hbw7
  have p7 : W7.cell? ⟨gp, 0, none⟩ = some (.pointer (some ⟨g, 0, none⟩)) := blk_cell HPB7.out 0
  have r7 : W7.cell? ⟨gr, 0, none⟩ = some (.slice A' t.length (cap - 1)) := blk_cell HRB7.out 0
  have at7 : W7.cell? ⟨g, 2, none⟩ = some (.int .i64 st.at_) := blk_cell HG7.out 2
  go_wp2_with fail
  refine (term_calls B g A' (cap - 1) (1 + kx) t st W7 ⟨fun w' h => HG.out w' ((HB7.out.mono HPS.out.size).trans h)⟩ HPS7.out HRT7.out hl ⟨fun s' h => hw.out s' (List.mem_cons_of_mem _ h)⟩ HN.out (by omega) (by omega)).mono ?_
  rintro e w8 ⟨rfl, hst⟩
  have hstq := hst
  rw [← HKX.out] at hst
  have hst := Stepped.later HB7.out HPS.out.size hst
  obtain ⟨ca, cb, cc, ce, cd, hcb⟩ := hst.out.cells
  have p8 : w8.cell? ⟨gp, 0, none⟩ = some (.pointer (some ⟨g, 0, none⟩)) := blk_cell ((hstq.oth).blk HPB7.out (by decide)) 0
  have c8 : w8.cell? ⟨g, 2, none⟩ = some cc := blk_cell hcb 2
  have f8 : w8.frozen? ⟨g, 2, none⟩ = false := blk_frozen hcb 2
  have HST := Aside0.mk hst
  clear hst hstq hcb
  go_wp2
  go_end0
  refine ⟨rfl, ?_⟩
  have hfin := HST.out.at HPS.out.base 1
  first | exact hfin | exact hfin.drew | exact hfin.drewN _

end Go.Proofs.YtlmkhllippobaaaDoor.Ps
end
section
/- text.parser.line, walked: Name. -/
set_option linter.unusedVariables false
set_option linter.unusedSimpArgs false
namespace Go.Proofs.YtlmkhllippobaaaDoor.Ps
open Go.RowKit Go.Proofs.YtlmkhllippobaaaDoorW.PrintWords Go.Proofs.YtlmkhllippobaaaDoorW.PrintWords.Kd Go.Proofs.YtlmkhllippobaaaDoorW.PrintMore Go.Proofs.YtlmkhllippobaaaDoorW.PrintMore.Kd Go.Proofs.YtlmkhllippobaaaDoor.Wl Go.Proofs.YtlmkhllippobaaaDoor.Tx Go.Proofs.YtlmkhllippobaaaDoor.Kd Go.Proofs.YtlmkhllippobaaaDoor.Kp Go.Proofs.YtlmkhllippobaaaDoor.Mp Go.Proofs.YtlmkhllippobaaaDoor.Wb
attribute [local go_sem ↓] Go.wp_at_zero Go.wp_at_succ

set_option maxHeartbeats 16000000 in
set_option maxRecDepth 1000000 in
theorem line_name (B g : Nat) (A : Option Addr) (cap : Nat) (s : ByteArray) (t : List ByteArray) (st : St) (w : World) (HG : Aside0 (∀ w', Below B w w' → LaidP w')) (hps : PS B g st 0 w) (hr : RdS w A (s :: t)) (hc : t.length + 1 ≤ cap) (hl : t.length ≤ 1099511627776)
    (hw : Aside0 (∀ s' ∈ s :: t, s'.size < 4294967281)) (hs1 : s ≠ ⟨#[102, 117, 110, 99]⟩) (hs2 : s ≠ ⟨#[98, 108, 111, 99, 107]⟩) (hs3 : s ≠ ⟨#[112, 104, 105]⟩) (ho : opOf s = 0) (hk : kindOf s = 0) :
    Calls Tryd.prog 16 #[.pointer (some ⟨g, 0, none⟩), .slice A (t.length + 1) cap] w fun e w' => e = .returned (.tuple #[]) ∧ Stepped B g (.error 72) w w' := by
  have hq1 : (s.toList == [102, 117, 110, 99]) = false := lit_ne [102, 117, 110, 99] hs1
  have hq2 : (s.toList == [98, 108, 111, 99, 107]) = false := lit_ne [98, 108, 111, 99, 107] hs2
  have hq3 : (s.toList == [112, 104, 105]) = false := lit_ne [112, 104, 105] hs3
  have HOE := Lib.hid ho
  clear ho
  have HKE := Lib.hid hk
  clear hk
  obtain ⟨v, hb, hS⟩ := hps.ex
  have HB := Aside0.mk hb
  have hlt := blk_lt hb
  obtain ⟨A', hsl, hrd⟩ := cut1 A s t cap hc
  have HPS := Aside0.mk hps
  have HS := Aside0.mk hS
  have HR := Aside0.mk hr
  have HRD := Aside0.mk hrd
  obtain ⟨ad, rfl, hc0⟩ := at_string hr.now 0 (by omega) (by simp)
  have hc0 : w.cell? ad = some (.string s) := by
    have : w.cell? (ad.add 0) = some (.string s) := hc0
    rwa [show ad.add 0 = ad by simp [Addr.add]] at this
  clear hS hb hps hr hrd
  have hmf : ∀ (fn : Fn) (first cp : Array Value) (w : World), (Instr.makeFunc fn first cp).run Tryd.prog w = .ok (.func fn first cp) w := fun _ _ _ _ => rfl
  have hmm := fun (w : World) => run_makeMap (P := Tryd.prog) 87 w
  go_enter Tryd.func16, Tryd.ntmps16
  go_wp2
  obtain ⟨W1, hW1⟩ : ∃ W1, w.alloc (.cells #[Value.pointer (some ⟨g, 0, none⟩)] 55) = W1 := ⟨_, rfl⟩
  have hbel : Below w.heap.size w W1 := by rw [← hW1]; exact (Below.refl _ _).alloc (Nat.le_refl _) _
  obtain ⟨gp, hgp⟩ : ∃ gp, w.heap.size = gp := ⟨_, rfl⟩
  have hpb : W1.heap[gp]? = some (.cells #[.pointer (some ⟨g, 0, none⟩)] 55 (0, 0)) := by rw [← hW1, ← hgp]; exact heap_alloc_new w _
  have hc1 : W1.cell? ad = some (.string s) := pw_cell_below hbel hc0
  rw [hW1]
  go_region_held3 (fun w' => w'.cell? ad = some (.string s)) (go_keep) (fail)
  obtain ⟨W2, hW2⟩ : ∃ W2, (W1.alloc (.cells #[Value.slice A' t.length (cap - 1)] 63)).drew = W2 := ⟨_, rfl⟩
  obtain ⟨gr, hgr⟩ : ∃ gr, W1.heap.size = gr := ⟨_, rfl⟩
  have hb2 : Below w.heap.size w W2 := by rw [← hW2]; exact below_drew (hbel.alloc hbel.size _)
  have hrb : W2.heap[gr]? = some (.cells #[.slice A' t.length (cap - 1)] 63 (0, 0)) := by rw [← hW2, ← hgr]; exact heap_alloc_new W1 _
  have hpb2 : W2.heap[gp]? = some (.cells #[.pointer (some ⟨g, 0, none⟩)] 55 (0, 0)) := by rw [← hW2]; exact blk_alloc hpb _
  rw [hW2, hgr]
  have HPB2 := Aside0.mk hpb2
  have HRB2 := Aside0.mk hrb
  have HB2 := Aside0.mk hb2
  clear hW2 hgr hgp hW1 hbel hpb hc1 hc0 hb2 hrb hpb2
  go_wp2_with ((with_reducible refine at_insert ?_); refine wpList_insert_str rfl _ _ _ 87 rfl under_fm under_s _ _ _ _ rfl (by first | rfl | simp) rfl rfl ?_)
  obtain ⟨W3, hW3⟩ : ∃ W3, W2.alloc (.map #[⟨.string ⟨#[102, 117, 110, 99]⟩, (.func (.func 30) #[] #[.pointer (some ⟨gp, 0, none⟩), .pointer (some ⟨gr, 0, none⟩)]), 0⟩, ⟨.string ⟨#[98, 108, 111, 99, 107]⟩, (.func (.func 31) #[] #[.pointer (some ⟨gp, 0, none⟩), .pointer (some ⟨gr, 0, none⟩)]), 1⟩, ⟨.string ⟨#[112, 104, 105]⟩, (.func (.func 32) #[] #[.pointer (some ⟨gp, 0, none⟩)]), 2⟩] 3) = W3 := ⟨_, rfl⟩
  obtain ⟨gm, hgm⟩ : ∃ gm, W2.heap.size = gm := ⟨_, rfl⟩
  have hm3 : W3.heap[gm]? = some (.map #[⟨.string ⟨#[102, 117, 110, 99]⟩, (.func (.func 30) #[] #[.pointer (some ⟨gp, 0, none⟩), .pointer (some ⟨gr, 0, none⟩)]), 0⟩, ⟨.string ⟨#[98, 108, 111, 99, 107]⟩, (.func (.func 31) #[] #[.pointer (some ⟨gp, 0, none⟩), .pointer (some ⟨gr, 0, none⟩)]), 1⟩, ⟨.string ⟨#[112, 104, 105]⟩, (.func (.func 32) #[] #[.pointer (some ⟨gp, 0, none⟩)]), 2⟩] 3) := by rw [← hW3, ← hgm]; exact heap_alloc_new W2 _
  have hb23 : Below W2.heap.size W2 W3 := by rw [← hW3]; exact (Below.refl _ _).alloc (Nat.le_refl _) _
  rw [hW3, hgm]
  have HM3 := Aside0.mk hm3
  have HB23 := Aside0.mk hb23
  clear hW3 hgm hm3 hb23 hmm hmf
  have hb3 : Below w.heap.size w W3 := HB2.out.trans (HB23.out.mono HB2.out.size)
  have HB3 := Aside0.mk hb3
  clear hb3
  refine (fields_terms W3 ⟨(HG.out _ (HB3.out.mono HPS.out.size)).l⟩).mono ?_
  rintro e w4 ⟨rfl, rfl⟩
  go_wp2_with fail
  refine (Tryd.slices_Index_string W3.heap.size 0 5 5 termStrs s _ (by rw [termStrs_len]; exact Nat.le_refl _) (by omega) (terms_cells W3)).mono ?_
  rintro e w4 ⟨rfl, rfl⟩
  rw [List.take_of_length_le (by rw [termStrs_len]; exact Nat.le_refl _)]
  obtain ⟨kx, hkx⟩ : ∃ kx, Lib.idxOfS termStrs s = kx := ⟨_, rfl⟩
  have hkb := idx_bounds termStrs s
  rw [termStrs_len, hkx] at hkb
  obtain ⟨hk0, hk1⟩ := hkb
  rw [hkx]
  have HKX := Lib.hid hkx
  clear hkx
  have hb4 : Below W3.heap.size W3 (W3.alloc (.cells termVals.toArray 9)) := (Below.refl _ _).alloc (Nat.le_refl _) _
  have HB4 := Aside0.mk hb4
  clear hb4
  go_wp2_with fail
  refine (word_Number.calls s (opOf s) _ ⟨(HG.out _ ((HB3.out.trans (HB4.out.mono HB3.out.size)).mono HPS.out.size)).l⟩ rfl).mono ?_
  rintro e W5 ⟨rfl, hb5⟩
  obtain ⟨ox, hox⟩ : ∃ ox, opOf s = ox := ⟨_, rfl⟩
  have hob := op_bounds s
  rw [hox] at hob
  obtain ⟨ho0, ho1⟩ := hob
  rw [hox]
  have HOX := Lib.hid hox
  clear hox
  have hb35 : Below W3.heap.size W3 W5 := HB4.out.trans (hb5.mono HB4.out.size)
  have HB35 := Aside0.mk hb35
  have HB5 := Aside0.mk (HB3.out.trans (hb35.mono HB3.out.size))
  have HM5 := Aside0.mk (blk_below HM3.out hb35)
  have HPB5 := Aside0.mk (blk_below (blk_below HPB2.out HB23.out) hb35)
  have HRB5 := Aside0.mk (blk_below (blk_below HRB2.out HB23.out) hb35)
  have p5 : W5.cell? ⟨gp, 0, none⟩ = some (.pointer (some ⟨g, 0, none⟩)) := blk_cell HPB5.out 0
  have r5 : W5.cell? ⟨gr, 0, none⟩ = some (.slice A' t.length (cap - 1)) := blk_cell HRB5.out 0
  have HG5 := Aside0.mk (blk_below HB.out HB5.out)
  have at5 : W5.cell? ⟨g, 2, none⟩ = some (.int .i64 st.at_) := blk_cell HG5.out 2
  have HPS5 := Aside0.mk (HPS.out.below HB5.out)
  have HRT := Aside0.mk (HRD.out _ (HR.out.below HB5.out))
  clear hb5 hb35
  have hmiss : Instr.findNow .string (.string s) #[⟨.string ⟨#[102, 117, 110, 99]⟩, (.func (.func 30) #[] #[.pointer (some ⟨gp, 0, none⟩), .pointer (some ⟨gr, 0, none⟩)]), 0⟩, ⟨.string ⟨#[98, 108, 111, 99, 107]⟩, (.func (.func 31) #[] #[.pointer (some ⟨gp, 0, none⟩), .pointer (some ⟨gr, 0, none⟩)]), 1⟩, ⟨.string ⟨#[112, 104, 105]⟩, (.func (.func 32) #[] #[.pointer (some ⟨gp, 0, none⟩)]), 2⟩].toList 0 = some none := find_str_miss _ _ (by
    intro e he
    simp only [List.mem_cons, List.not_mem_nil, or_false] at he
    rcases he with rfl | rfl | rfl
    · exact ⟨_, rfl, hs1⟩
    · exact ⟨_, rfl, hs2⟩
    · exact ⟨_, rfl, hs3⟩)
  have HMISS := Lib.hid hmiss
  have HS1 := Lib.hid hs1
  have HS2 := Lib.hid hs2
  have HS3 := Lib.hid hs3
  clear hmiss hs1 hs2 hs3
  have hox : ¬ 0 < ox := by have := HOX.out; have h2 := HOE.out; omega
  have hoxd : decide (0 < ox) = false := decide_eq_false hox
  have hkx : ¬ 0 < 1 + kx := by have := HKX.out; have h2 := HKE.out; unfold kindOf at h2; omega
  have hkxd : decide (0 < 1 + kx) = false := decide_eq_false hkx
  go_wp2_with (((with_reducible refine at_lookup_ ?_); refine wpList_lookup_of rfl _ _ 87 true rfl (.string s) gm rfl rfl _ (look_str_miss under_fm under_s HM5.out s _ zero_fn HMISS.out) ?_))
  go_region
  obtain ⟨W6, hW6⟩ : ∃ W6, W5.drew = W6 := ⟨_, rfl⟩
  have hh6 : W6.heap = W5.heap := by rw [← hW6]; rfl
  have hbw6 : Below w.heap.size w W6 := by rw [← hW6]; first | exact below_drew HB5.out | exact pw_below_drewN HB5.out _
  rw [hW6]
  have HB6 := Aside0.mk hbw6
  have HPB6 := Aside0.mk ((show W6.heap[gp]? = W5.heap[gp]? by rw [hh6]).trans HPB5.out)
  have HRB6 := Aside0.mk ((show W6.heap[gr]? = W5.heap[gr]? by rw [hh6]).trans HRB5.out)
  have HG6 := Aside0.mk ((show W6.heap[g]? = W5.heap[g]? by rw [hh6]).trans HG5.out)
  have HPS6 := Aside0.mk (HPS.out.below HB6.out)
  have HRT6 := Aside0.mk (HRD.out _ (HR.out.below HB6.out))
  clear p5 r5 at5 hW6 hh6 hbw6
  have p6 : W6.cell? ⟨gp, 0, none⟩ = some (.pointer (some ⟨g, 0, none⟩)) := blk_cell HPB6.out 0
  have r6 : W6.cell? ⟨gr, 0, none⟩ = some (.slice A' t.length (cap - 1)) := blk_cell HRB6.out 0
  have at6 : W6.cell? ⟨g, 2, none⟩ = some (.int .i64 st.at_) := blk_cell HG6.out 2
  go_wp2_with (go_at_call 35; refine (must_no g _ _ _ _ 72 (.inr (.inr rfl)) W6 HG6.out).mono ?_; rintro e w7 ⟨rfl, rfl⟩)
  go_end0
  refine ⟨rfl, ?_⟩
  have hfin : Stepped B g (.error 72) w (W6.setCell ⟨g, 3, none⟩ (.int .i64 72)) := ⟨(HB6.out.mono HPS.out.size).setCell (p := ⟨g, 3, none⟩) HPS.out.base _, (Oth.below HB6.out).trans (Oth.set_ HG6.out (by decide) _ _), ⟨_, _, _, _, blk_put HG6.out 3 _ rfl⟩, by simp⟩
  first | exact hfin | exact hfin.drew | exact hfin.drewN _

end Go.Proofs.YtlmkhllippobaaaDoor.Ps
end
section
/- text.parser.line, walked: OpNo. -/
set_option linter.unusedVariables false
set_option linter.unusedSimpArgs false
namespace Go.Proofs.YtlmkhllippobaaaDoor.Ps
open Go.RowKit Go.Proofs.YtlmkhllippobaaaDoorW.PrintWords Go.Proofs.YtlmkhllippobaaaDoorW.PrintWords.Kd Go.Proofs.YtlmkhllippobaaaDoorW.PrintMore Go.Proofs.YtlmkhllippobaaaDoorW.PrintMore.Kd Go.Proofs.YtlmkhllippobaaaDoor.Wl Go.Proofs.YtlmkhllippobaaaDoor.Tx Go.Proofs.YtlmkhllippobaaaDoor.Kd Go.Proofs.YtlmkhllippobaaaDoor.Kp Go.Proofs.YtlmkhllippobaaaDoor.Mp Go.Proofs.YtlmkhllippobaaaDoor.Wb
attribute [local go_sem ↓] Go.wp_at_zero Go.wp_at_succ

set_option maxHeartbeats 16000000 in
set_option maxRecDepth 1000000 in
theorem line_opNo (B g : Nat) (A : Option Addr) (cap : Nat) (s : ByteArray) (t : List ByteArray) (st : St) (w : World) (HG : Aside0 (∀ w', Below B w w' → LaidP w')) (hps : PS B g st 0 w) (hr : RdS w A (s :: t)) (hc : t.length + 1 ≤ cap) (hl : t.length ≤ 1099511627776)
    (hw : Aside0 (∀ s' ∈ s :: t, s'.size < 4294967281)) (hs1 : s ≠ ⟨#[102, 117, 110, 99]⟩) (hs2 : s ≠ ⟨#[98, 108, 111, 99, 107]⟩) (hs3 : s ≠ ⟨#[112, 104, 105]⟩) (ho : 0 < opOf s) (ha : st.at_ < 2) :
    Calls Tryd.prog 16 #[.pointer (some ⟨g, 0, none⟩), .slice A (t.length + 1) cap] w fun e w' => e = .returned (.tuple #[]) ∧ Stepped B g (.error 70) w w' := by
  have hq1 : (s.toList == [102, 117, 110, 99]) = false := lit_ne [102, 117, 110, 99] hs1
  have hq2 : (s.toList == [98, 108, 111, 99, 107]) = false := lit_ne [98, 108, 111, 99, 107] hs2
  have hq3 : (s.toList == [112, 104, 105]) = false := lit_ne [112, 104, 105] hs3
  have HOE := Lib.hid ho
  clear ho
  have had : decide (2 ≤ st.at_) = false := decide_eq_false (by omega)
  obtain ⟨v, hb, hS⟩ := hps.ex
  have HB := Aside0.mk hb
  have hlt := blk_lt hb
  obtain ⟨A', hsl, hrd⟩ := cut1 A s t cap hc
  have HPS := Aside0.mk hps
  have HS := Aside0.mk hS
  have HR := Aside0.mk hr
  have HRD := Aside0.mk hrd
  obtain ⟨ad, rfl, hc0⟩ := at_string hr.now 0 (by omega) (by simp)
  have hc0 : w.cell? ad = some (.string s) := by
    have : w.cell? (ad.add 0) = some (.string s) := hc0
    rwa [show ad.add 0 = ad by simp [Addr.add]] at this
  clear hS hb hps hr hrd
  have hmf : ∀ (fn : Fn) (first cp : Array Value) (w : World), (Instr.makeFunc fn first cp).run Tryd.prog w = .ok (.func fn first cp) w := fun _ _ _ _ => rfl
  have hmm := fun (w : World) => run_makeMap (P := Tryd.prog) 87 w
  go_enter Tryd.func16, Tryd.ntmps16
  go_wp2
  obtain ⟨W1, hW1⟩ : ∃ W1, w.alloc (.cells #[Value.pointer (some ⟨g, 0, none⟩)] 55) = W1 := ⟨_, rfl⟩
  have hbel : Below w.heap.size w W1 := by rw [← hW1]; exact (Below.refl _ _).alloc (Nat.le_refl _) _
  obtain ⟨gp, hgp⟩ : ∃ gp, w.heap.size = gp := ⟨_, rfl⟩
  have hpb : W1.heap[gp]? = some (.cells #[.pointer (some ⟨g, 0, none⟩)] 55 (0, 0)) := by rw [← hW1, ← hgp]; exact heap_alloc_new w _
  have hc1 : W1.cell? ad = some (.string s) := pw_cell_below hbel hc0
  rw [hW1]
  go_region_held3 (fun w' => w'.cell? ad = some (.string s)) (go_keep) (fail)
  obtain ⟨W2, hW2⟩ : ∃ W2, (W1.alloc (.cells #[Value.slice A' t.length (cap - 1)] 63)).drew = W2 := ⟨_, rfl⟩
  obtain ⟨gr, hgr⟩ : ∃ gr, W1.heap.size = gr := ⟨_, rfl⟩
  have hb2 : Below w.heap.size w W2 := by rw [← hW2]; exact below_drew (hbel.alloc hbel.size _)
  have hrb : W2.heap[gr]? = some (.cells #[.slice A' t.length (cap - 1)] 63 (0, 0)) := by rw [← hW2, ← hgr]; exact heap_alloc_new W1 _
  have hpb2 : W2.heap[gp]? = some (.cells #[.pointer (some ⟨g, 0, none⟩)] 55 (0, 0)) := by rw [← hW2]; exact blk_alloc hpb _
  rw [hW2, hgr]
  have HPB2 := Aside0.mk hpb2
  have HRB2 := Aside0.mk hrb
  have HB2 := Aside0.mk hb2
  clear hW2 hgr hgp hW1 hbel hpb hc1 hc0 hb2 hrb hpb2
  go_wp2_with ((with_reducible refine at_insert ?_); refine wpList_insert_str rfl _ _ _ 87 rfl under_fm under_s _ _ _ _ rfl (by first | rfl | simp) rfl rfl ?_)
  obtain ⟨W3, hW3⟩ : ∃ W3, W2.alloc (.map #[⟨.string ⟨#[102, 117, 110, 99]⟩, (.func (.func 30) #[] #[.pointer (some ⟨gp, 0, none⟩), .pointer (some ⟨gr, 0, none⟩)]), 0⟩, ⟨.string ⟨#[98, 108, 111, 99, 107]⟩, (.func (.func 31) #[] #[.pointer (some ⟨gp, 0, none⟩), .pointer (some ⟨gr, 0, none⟩)]), 1⟩, ⟨.string ⟨#[112, 104, 105]⟩, (.func (.func 32) #[] #[.pointer (some ⟨gp, 0, none⟩)]), 2⟩] 3) = W3 := ⟨_, rfl⟩
  obtain ⟨gm, hgm⟩ : ∃ gm, W2.heap.size = gm := ⟨_, rfl⟩
  have hm3 : W3.heap[gm]? = some (.map #[⟨.string ⟨#[102, 117, 110, 99]⟩, (.func (.func 30) #[] #[.pointer (some ⟨gp, 0, none⟩), .pointer (some ⟨gr, 0, none⟩)]), 0⟩, ⟨.string ⟨#[98, 108, 111, 99, 107]⟩, (.func (.func 31) #[] #[.pointer (some ⟨gp, 0, none⟩), .pointer (some ⟨gr, 0, none⟩)]), 1⟩, ⟨.string ⟨#[112, 104, 105]⟩, (.func (.func 32) #[] #[.pointer (some ⟨gp, 0, none⟩)]), 2⟩] 3) := by rw [← hW3, ← hgm]; exact heap_alloc_new W2 _
  have hb23 : Below W2.heap.size W2 W3 := by rw [← hW3]; exact (Below.refl _ _).alloc (Nat.le_refl _) _
  rw [hW3, hgm]
  have HM3 := Aside0.mk hm3
  have HB23 := Aside0.mk hb23
  clear hW3 hgm hm3 hb23 hmm hmf
  have hb3 : Below w.heap.size w W3 := HB2.out.trans (HB23.out.mono HB2.out.size)
  have HB3 := Aside0.mk hb3
  clear hb3
  refine (fields_terms W3 ⟨(HG.out _ (HB3.out.mono HPS.out.size)).l⟩).mono ?_
  rintro e w4 ⟨rfl, rfl⟩
  go_wp2_with fail
  refine (Tryd.slices_Index_string W3.heap.size 0 5 5 termStrs s _ (by rw [termStrs_len]; exact Nat.le_refl _) (by omega) (terms_cells W3)).mono ?_
  rintro e w4 ⟨rfl, rfl⟩
  rw [List.take_of_length_le (by rw [termStrs_len]; exact Nat.le_refl _)]
  obtain ⟨kx, hkx⟩ : ∃ kx, Lib.idxOfS termStrs s = kx := ⟨_, rfl⟩
  have hkb := idx_bounds termStrs s
  rw [termStrs_len, hkx] at hkb
  obtain ⟨hk0, hk1⟩ := hkb
  rw [hkx]
  have HKX := Lib.hid hkx
  clear hkx
  have hb4 : Below W3.heap.size W3 (W3.alloc (.cells termVals.toArray 9)) := (Below.refl _ _).alloc (Nat.le_refl _) _
  have HB4 := Aside0.mk hb4
  clear hb4
  go_wp2_with fail
  refine (word_Number.calls s (opOf s) _ ⟨(HG.out _ ((HB3.out.trans (HB4.out.mono HB3.out.size)).mono HPS.out.size)).l⟩ rfl).mono ?_
  rintro e W5 ⟨rfl, hb5⟩
  obtain ⟨ox, hox⟩ : ∃ ox, opOf s = ox := ⟨_, rfl⟩
  have hob := op_bounds s
  rw [hox] at hob
  obtain ⟨ho0, ho1⟩ := hob
  rw [hox]
  have HOX := Lib.hid hox
  clear hox
  have hb35 : Below W3.heap.size W3 W5 := HB4.out.trans (hb5.mono HB4.out.size)
  have HB35 := Aside0.mk hb35
  have HB5 := Aside0.mk (HB3.out.trans (hb35.mono HB3.out.size))
  have HM5 := Aside0.mk (blk_below HM3.out hb35)
  have HPB5 := Aside0.mk (blk_below (blk_below HPB2.out HB23.out) hb35)
  have HRB5 := Aside0.mk (blk_below (blk_below HRB2.out HB23.out) hb35)
  have p5 : W5.cell? ⟨gp, 0, none⟩ = some (.pointer (some ⟨g, 0, none⟩)) := blk_cell HPB5.out 0
  have r5 : W5.cell? ⟨gr, 0, none⟩ = some (.slice A' t.length (cap - 1)) := blk_cell HRB5.out 0
  have HG5 := Aside0.mk (blk_below HB.out HB5.out)
  have at5 : W5.cell? ⟨g, 2, none⟩ = some (.int .i64 st.at_) := blk_cell HG5.out 2
  have HPS5 := Aside0.mk (HPS.out.below HB5.out)
  have HRT := Aside0.mk (HRD.out _ (HR.out.below HB5.out))
  clear hb5 hb35
  have hmiss : Instr.findNow .string (.string s) #[⟨.string ⟨#[102, 117, 110, 99]⟩, (.func (.func 30) #[] #[.pointer (some ⟨gp, 0, none⟩), .pointer (some ⟨gr, 0, none⟩)]), 0⟩, ⟨.string ⟨#[98, 108, 111, 99, 107]⟩, (.func (.func 31) #[] #[.pointer (some ⟨gp, 0, none⟩), .pointer (some ⟨gr, 0, none⟩)]), 1⟩, ⟨.string ⟨#[112, 104, 105]⟩, (.func (.func 32) #[] #[.pointer (some ⟨gp, 0, none⟩)]), 2⟩].toList 0 = some none := find_str_miss _ _ (by
    intro e he
    simp only [List.mem_cons, List.not_mem_nil, or_false] at he
    rcases he with rfl | rfl | rfl
    · exact ⟨_, rfl, hs1⟩
    · exact ⟨_, rfl, hs2⟩
    · exact ⟨_, rfl, hs3⟩)
  have HMISS := Lib.hid hmiss
  have HS1 := Lib.hid hs1
  have HS2 := Lib.hid hs2
  have HS3 := Lib.hid hs3
  clear hmiss hs1 hs2 hs3
  have hox : 0 < ox := by have := HOX.out; have h2 := HOE.out; omega
  go_wp2_with (((with_reducible refine at_lookup_ ?_); refine wpList_lookup_of rfl _ _ 87 true rfl (.string s) gm rfl rfl _ (look_str_miss under_fm under_s HM5.out s _ zero_fn HMISS.out) ?_))
  go_region
  obtain ⟨W6, hW6⟩ : ∃ W6, W5.drew = W6 := ⟨_, rfl⟩
  have hh6 : W6.heap = W5.heap := by rw [← hW6]; rfl
  have hbw6 : Below w.heap.size w W6 := by rw [← hW6]; first | exact below_drew HB5.out | exact pw_below_drewN HB5.out _
  rw [hW6]
  have HB6 := Aside0.mk hbw6
  have HPB6 := Aside0.mk ((show W6.heap[gp]? = W5.heap[gp]? by rw [hh6]).trans HPB5.out)
  have HRB6 := Aside0.mk ((show W6.heap[gr]? = W5.heap[gr]? by rw [hh6]).trans HRB5.out)
  have HG6 := Aside0.mk ((show W6.heap[g]? = W5.heap[g]? by rw [hh6]).trans HG5.out)
  have HPS6 := Aside0.mk (HPS.out.below HB6.out)
  have HRT6 := Aside0.mk (HRD.out _ (HR.out.below HB6.out))
  clear p5 r5 at5 hW6 hh6 hbw6
  have p6 : W6.cell? ⟨gp, 0, none⟩ = some (.pointer (some ⟨g, 0, none⟩)) := blk_cell HPB6.out 0
  have r6 : W6.cell? ⟨gr, 0, none⟩ = some (.slice A' t.length (cap - 1)) := blk_cell HRB6.out 0
  have at6 : W6.cell? ⟨g, 2, none⟩ = some (.int .i64 st.at_) := blk_cell HG6.out 2
  go_wp2_with (go_at_call 35; refine (must_yes g _ _ _ _ 72 W6 HG6.out).mono ?_; rintro e w7 ⟨rfl, rfl⟩)
  have hmust : Calls Tryd.prog 35 #[.pointer (some ⟨g, 0, none⟩), .bool false, .int .i64 70] W6.drew fun e w7 => e = .returned (.bool false) ∧ w7.cell? ⟨gp, 0, none⟩ = some (.pointer (some ⟨g, 0, none⟩)) ∧ w7.cell? ⟨g, 2, none⟩ = some (.int .i64 st.at_) ∧ Stepped B g (.error 70) w w7 := by
    refine (must_no g _ _ _ _ 70 (.inl rfl) W6.drew HG6.out).mono ?_
    rintro e w7 ⟨rfl, rfl⟩
    exact ⟨rfl, blk_cell (blk_far (w := W6.drew) HPB6.out (blk_ne HPB6.out HG6.out (by decide)) (p := ⟨g, 3, none⟩) _) 0, blk_cell (blk_put (w := W6.drew) HG6.out 3 _ rfl) 2,
      ((below_drew HB6.out).mono HPS.out.size).setCell (p := ⟨g, 3, none⟩) HPS.out.base _, (Oth.below (below_drew HB6.out)).trans (Oth.set_ (w := W6.drew) HG6.out (by decide) _ _), ⟨_, _, _, _, blk_put (w := W6.drew) HG6.out 3 _ rfl⟩, .inl rfl⟩
  have HMUST := Lib.hid hmust
  clear hmust
  go_wp2
  go_region_held3 (fun w' => w'.cell? ⟨gp, 0, none⟩ = some (.pointer (some ⟨g, 0, none⟩)) ∧ w'.cell? ⟨g, 2, none⟩ = some (.int .i64 st.at_)) (go_keep)
    ((go_at_call 35; refine HMUST.out.mono ?_; rintro e w7 ⟨rfl, p7, a7, hst7⟩; have HST7 := Aside0.mk hst7; clear hst7))
  go_wp2
  go_end0
  refine ⟨rfl, ?_⟩
  first | exact HST7.out | exact HST7.out.drew | exact HST7.out.drewN _

end Go.Proofs.YtlmkhllippobaaaDoor.Ps
end
