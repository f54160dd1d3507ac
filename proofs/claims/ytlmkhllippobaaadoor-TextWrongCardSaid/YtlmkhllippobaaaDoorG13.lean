/- text.parser.line, walked: Block. -/
import Derived.Test.YtlmkhllippobaaaDoorG11
set_option linter.unusedVariables false
set_option linter.unusedSimpArgs false
namespace Go.Proofs.YtlmkhllippobaaaDoor.Ps
open Go.RowKit Go.Proofs.YtlmkhllippobaaaDoorW.PrintWords Go.Proofs.YtlmkhllippobaaaDoorW.PrintWords.Kd Go.Proofs.YtlmkhllippobaaaDoorW.PrintMore Go.Proofs.YtlmkhllippobaaaDoorW.PrintMore.Kd Go.Proofs.YtlmkhllippobaaaDoor.Wl Go.Proofs.YtlmkhllippobaaaDoor.Tx Go.Proofs.YtlmkhllippobaaaDoor.Kd Go.Proofs.YtlmkhllippobaaaDoor.Kp Go.Proofs.YtlmkhllippobaaaDoor.Mp Go.Proofs.YtlmkhllippobaaaDoor.Wb
attribute [local go_sem ↓] Go.wp_at_zero Go.wp_at_succ

set_option maxHeartbeats 16000000 in
set_option maxRecDepth 1000000 in
theorem line_block (B g : Nat) (A : Option Addr) (cap : Nat) (t : List ByteArray) (st : St) (w : World) (HG : Aside0 (∀ w', Below B w w' → LaidP w')) (hps : PS B g st 0 w) (hr : RdS w A (⟨#[98, 108, 111, 99, 107]⟩ :: t)) (hc : t.length + 1 ≤ cap) (hl : t.length ≤ 1099511627776)
    (hw : Aside0 (∀ s' ∈ ⟨#[98, 108, 111, 99, 107]⟩ :: t, s'.size < 4294967281)) (hx : (st.at_ = 1 ∧ t.length = 1)) (hbl : st.blocks.length ≤ 1099511627776) :
    Calls Tryd.prog 16 #[.pointer (some ⟨g, 0, none⟩), .slice A (t.length + 1) cap] w fun e w' => e = .returned (.tuple #[]) ∧ Stepped B g (blockS st t) w w' := by
  have HX := Lib.hid hx
  clear hx
  obtain ⟨v, hb, hS⟩ := hps.ex
  obtain ⟨Av, cv, rfl⟩ := S_slice hS
  have HB := Aside0.mk hb
  have hlt := blk_lt hb
  obtain ⟨A', hsl, hrd⟩ := cut1 A ⟨#[98, 108, 111, 99, 107]⟩ t cap hc
  have HPS := Aside0.mk hps
  have HS := Aside0.mk hS
  have HR := Aside0.mk hr
  have HRD := Aside0.mk hrd
  obtain ⟨ad, rfl, hc0⟩ := at_string hr.now 0 (by omega) (by simp)
  have hc0 : w.cell? ad = some (.string ⟨#[98, 108, 111, 99, 107]⟩) := by
    have : w.cell? (ad.add 0) = some (.string ⟨#[98, 108, 111, 99, 107]⟩) := hc0
    rwa [show ad.add 0 = ad by simp [Addr.add]] at this
  clear hS hb hps hr hrd
  have hmf : ∀ (fn : Fn) (first cp : Array Value) (w : World), (Instr.makeFunc fn first cp).run Tryd.prog w = .ok (.func fn first cp) w := fun _ _ _ _ => rfl
  have hmm := fun (w : World) => run_makeMap (P := Tryd.prog) 87 w
  go_enter Tryd.func16, Tryd.ntmps16
  go_wp2
  obtain ⟨W1, hW1⟩ : ∃ W1, w.alloc (.cells #[Value.pointer (some ⟨g, 0, none⟩)] 55) = W1 := ⟨_, rfl⟩
  have hbel : Below w.heap.size w W1 := by rw [← hW1]; exact (Below.refl _ _).alloc (Nat.le_refl _) _
  obtain ⟨gp, hgp⟩ : ∃ gp, w.heap.size = gp := ⟨_, rfl⟩
  have hpb : W1.heap[gp]? = some (.cells #[.pointer (some ⟨g, 0, none⟩)] 55 (0, 0)) := by rw [← hW1, ← hgp]; exact heap_alloc_new w _
  have hc1 : W1.cell? ad = some (.string ⟨#[98, 108, 111, 99, 107]⟩) := pw_cell_below hbel hc0
  rw [hW1]
  go_region_held3 (fun w' => w'.cell? ad = some (.string ⟨#[98, 108, 111, 99, 107]⟩)) (go_keep) (fail)
  obtain ⟨W2, hW2⟩ : ∃ W2, (W1.alloc (.cells #[Value.slice A' t.length (cap - 1)] 63)).drew = W2 := ⟨_, rfl⟩
  obtain ⟨gr, hgr⟩ : ∃ gr, W1.heap.size = gr := ⟨_, rfl⟩
  have hb2 : Below w.heap.size w W2 := by rw [← hW2]; exact below_drew (hbel.alloc hbel.size _)
  have hrb : W2.heap[gr]? = some (.cells #[.slice A' t.length (cap - 1)] 63 (0, 0)) := by rw [← hW2, ← hgr]; exact heap_alloc_new W1 _
  have hpb2 : W2.heap[gp]? = some (.cells #[.pointer (some ⟨g, 0, none⟩)] 55 (0, 0)) := by rw [← hW2]; exact blk_alloc hpb _
  rw [hW2, hgr]
  have HPB2 := Aside0.mk hpb2
  have HRB2 := Aside0.mk hrb
  have HB2 := Aside0.mk hb2
  clear hW2 hgr hgp hW1 hbel hpb hc1 hc0 hb2 hrb hpb2
  go_wp2_with ((with_reducible refine at_insert ?_); refine wpList_insert_str rfl _ _ _ 87 rfl under_fm under_s _ _ _ _ rfl (by first | rfl | simp) rfl rfl ?_)
  obtain ⟨W3, hW3⟩ : ∃ W3, W2.alloc (.map #[⟨.string ⟨#[102, 117, 110, 99]⟩, (.func (.func 30) #[] #[.pointer (some ⟨gp, 0, none⟩), .pointer (some ⟨gr, 0, none⟩)]), 0⟩, ⟨.string ⟨#[98, 108, 111, 99, 107]⟩, (.func (.func 31) #[] #[.pointer (some ⟨gp, 0, none⟩), .pointer (some ⟨gr, 0, none⟩)]), 1⟩, ⟨.string ⟨#[112, 104, 105]⟩, (.func (.func 32) #[] #[.pointer (some ⟨gp, 0, none⟩)]), 2⟩] 3) = W3 := ⟨_, rfl⟩
  obtain ⟨gm, hgm⟩ : ∃ gm, W2.heap.size = gm := ⟨_, rfl⟩
  have hm3 : W3.heap[gm]? = some (.map #[⟨.string ⟨#[102, 117, 110, 99]⟩, (.func (.func 30) #[] #[.pointer (some ⟨gp, 0, none⟩), .pointer (some ⟨gr, 0, none⟩)]), 0⟩, ⟨.string ⟨#[98, 108, 111, 99, 107]⟩, (.func (.func 31) #[] #[.pointer (some ⟨gp, 0, none⟩), .pointer (some ⟨gr, 0, none⟩)]), 1⟩, ⟨.string ⟨#[112, 104, 105]⟩, (.func (.func 32) #[] #[.pointer (some ⟨gp, 0, none⟩)]), 2⟩] 3) := by rw [← hW3, ← hgm]; exact heap_alloc_new W2 _
  have hb23 : Below W2.heap.size W2 W3 := by rw [← hW3]; exact (Below.refl _ _).alloc (Nat.le_refl _) _
  rw [hW3, hgm]
  have HM3 := Aside0.mk hm3
  have HB23 := Aside0.mk hb23
  clear hW3 hgm hm3 hb23 hmm hmf
  have hb3 : Below w.heap.size w W3 := HB2.out.trans (HB23.out.mono HB2.out.size)
  have HB3 := Aside0.mk hb3
  clear hb3
  refine (fields_terms W3 ⟨(HG.out _ (HB3.out.mono HPS.out.size)).l⟩).mono ?_
  rintro e w4 ⟨rfl, rfl⟩
  go_wp2_with fail
  refine (Tryd.slices_Index_string W3.heap.size 0 5 5 termStrs ⟨#[98, 108, 111, 99, 107]⟩ _ (by rw [termStrs_len]; exact Nat.le_refl _) (by omega) (terms_cells W3)).mono ?_
  rintro e w4 ⟨rfl, rfl⟩
  rw [List.take_of_length_le (by rw [termStrs_len]; exact Nat.le_refl _)]
  obtain ⟨kx, hkx⟩ : ∃ kx, Lib.idxOfS termStrs ⟨#[98, 108, 111, 99, 107]⟩ = kx := ⟨_, rfl⟩
  have hkb := idx_bounds termStrs ⟨#[98, 108, 111, 99, 107]⟩
  rw [termStrs_len, hkx] at hkb
  obtain ⟨hk0, hk1⟩ := hkb
  rw [hkx]
  have HKX := Lib.hid hkx
  clear hkx
  have hb4 : Below W3.heap.size W3 (W3.alloc (.cells termVals.toArray 9)) := (Below.refl _ _).alloc (Nat.le_refl _) _
  have HB4 := Aside0.mk hb4
  clear hb4
  go_wp2_with fail
  refine (word_Number.calls ⟨#[98, 108, 111, 99, 107]⟩ (opOf ⟨#[98, 108, 111, 99, 107]⟩) _ ⟨(HG.out _ ((HB3.out.trans (HB4.out.mono HB3.out.size)).mono HPS.out.size)).l⟩ rfl).mono ?_
  rintro e W5 ⟨rfl, hb5⟩
  obtain ⟨ox, hox⟩ : ∃ ox, opOf ⟨#[98, 108, 111, 99, 107]⟩ = ox := ⟨_, rfl⟩
  have hob := op_bounds ⟨#[98, 108, 111, 99, 107]⟩
  rw [hox] at hob
  obtain ⟨ho0, ho1⟩ := hob
  rw [hox]
  have HOX := Lib.hid hox
  clear hox
  have hb35 : Below W3.heap.size W3 W5 := HB4.out.trans (hb5.mono HB4.out.size)
  have HB35 := Aside0.mk hb35
  have HB5 := Aside0.mk (HB3.out.trans (hb35.mono HB3.out.size))
  have HM5 := Aside0.mk (blk_below HM3.out hb35)
  have HPB5 := Aside0.mk (blk_below (blk_below HPB2.out HB23.out) hb35)
  have HRB5 := Aside0.mk (blk_below (blk_below HRB2.out HB23.out) hb35)
  have p5 : W5.cell? ⟨gp, 0, none⟩ = some (.pointer (some ⟨g, 0, none⟩)) := blk_cell HPB5.out 0
  have r5 : W5.cell? ⟨gr, 0, none⟩ = some (.slice A' t.length (cap - 1)) := blk_cell HRB5.out 0
  have HG5 := Aside0.mk (blk_below HB.out HB5.out)
  have at5 : W5.cell? ⟨g, 2, none⟩ = some (.int .i64 st.at_) := blk_cell HG5.out 2
  have HPS5 := Aside0.mk (HPS.out.below HB5.out)
  have HRT := Aside0.mk (HRD.out _ (HR.out.below HB5.out))
  clear hb5 hb35
  go_wp2_with (((with_reducible refine at_lookup_ ?_); refine wpList_lookup_of rfl _ _ 87 true rfl (.string ⟨#[98, 108, 111, 99, 107]⟩) gm rfl rfl _ (look_str_hit under_fm under_s HM5.out ⟨#[98, 108, 111, 99, 107]⟩ 1 _ rfl) ?_))
  have hok : Aside0 (∀ W : World, W.heap = W5.heap → Calls Tryd.prog 31 #[.pointer (some ⟨gp, 0, none⟩), .pointer (some ⟨gr, 0, none⟩)] W fun e w' => e = .returned (.bool true) ∧ W = w') := ⟨fun W h => by
    have := ok_block g gp gr A' t.length (cap - 1) st.at_ W ((cell_heap h _).trans p5) ((cell_heap h _).trans r5) ((cell_heap h _).trans at5)
    rwa [decide_eq_true HX.out] at this⟩
  have hmust : Aside0 (∀ W : World, W.heap = W5.heap → Calls Tryd.prog 35 #[.pointer (some ⟨g, 0, none⟩), .bool true, .int .i64 70] W fun e w' => e = .returned (.bool true) ∧ W = w') := ⟨fun W h => must_yes g _ _ _ _ 70 W (by rw [h]; exact HG5.out)⟩
  go_region_held3 (fun w' => w'.cell? ⟨gp, 0, none⟩ = some (.pointer (some ⟨g, 0, none⟩))) (go_keep)
    (first | (go_at_call 31; refine (hok.out _ (by first | rfl | assumption)).mono ?_; rintro e w6 ⟨rfl, rfl⟩) | (go_at_call 35; refine (hmust.out _ (by first | rfl | assumption)).mono ?_; rintro e w6 ⟨rfl, rfl⟩))
  obtain ⟨W6, hW6⟩ : ∃ W6, W5.drew = W6 := ⟨_, rfl⟩
  have hh6 : W6.heap = W5.heap := by rw [← hW6]; rfl
  have hbw6 : Below w.heap.size w W6 := by rw [← hW6]; first | exact below_drew HB5.out | exact pw_below_drewN HB5.out _
  rw [hW6]
  have HB6 := Aside0.mk hbw6
  have HPB6 := Aside0.mk ((show W6.heap[gp]? = W5.heap[gp]? by rw [hh6]).trans HPB5.out)
  have HRB6 := Aside0.mk ((show W6.heap[gr]? = W5.heap[gr]? by rw [hh6]).trans HRB5.out)
  have HG6 := Aside0.mk ((show W6.heap[g]? = W5.heap[g]? by rw [hh6]).trans HG5.out)
  have HPS6 := Aside0.mk (HPS.out.below HB6.out)
  have HRT6 := Aside0.mk (HRD.out _ (HR.out.below HB6.out))
  clear p5 r5 at5 hW6 hh6 hbw6
  have p6 : W6.cell? ⟨gp, 0, none⟩ = some (.pointer (some ⟨g, 0, none⟩)) := blk_cell HPB6.out 0
  have r6 : W6.cell? ⟨gr, 0, none⟩ = some (.slice A' t.length (cap - 1)) := blk_cell HRB6.out 0
  have at6 : W6.cell? ⟨g, 2, none⟩ = some (.int .i64 st.at_) := blk_cell HG6.out 2
  go_wp2
  go_region
  obtain ⟨W7, hW7⟩ : ∃ W7, W6.drew = W7 := ⟨_, rfl⟩
  have hh7 : W7.heap = W6.heap := by rw [← hW7]; rfl
  have hbw7 : Below w.heap.size w W7 := by rw [← hW7]; first | exact below_drew HB6.out | exact pw_below_drewN HB6.out _
  rw [hW7]
  have HB7 := Aside0.mk hbw7
  have HPB7 := Aside0.mk ((show W7.heap[gp]? = W6.heap[gp]? by rw [hh7]).trans HPB6.out)
  have HRB7 := Aside0.mk ((show W7.heap[gr]? = W6.heap[gr]? by rw [hh7]).trans HRB6.out)
  have HG7 := Aside0.mk ((show W7.heap[g]? = W6.heap[g]? by rw [hh7]).trans HG6.out)
  have HPS7 := Aside0.mk (HPS.out.below HB7.out)
  have HRT7 := Aside0.mk (HRD.out _ (HR.out.below HB7.out))
  clear p6 r6 at6 hW7 hh7 hbw7
  have p7 : W7.cell? ⟨gp, 0, none⟩ = some (.pointer (some ⟨g, 0, none⟩)) := blk_cell HPB7.out 0
  have r7 : W7.cell? ⟨gr, 0, none⟩ = some (.slice A' t.length (cap - 1)) := blk_cell HRB7.out 0
  have at7 : W7.cell? ⟨g, 2, none⟩ = some (.int .i64 st.at_) := blk_cell HG7.out 2
  have HS7 := Aside0.mk (S_below HS.out HB7.out)
  have hnum := nums_line B g gp gr A' (cap - 1) t st (.slice Av st.blocks.length cv) w W7 HG HPS.out.base HPS.out.size (by first | exact below_drew HB7.out | exact HB7.out) HG7.out HS7.out HPB7.out HRB7.out HRT7.out (fun s' h => hw.out s' (List.mem_cons_of_mem _ h)) HX.out.2
  have HNUM := Lib.hid hnum
  clear hnum
  go_wp2_with (go_at_call 36; refine HNUM.out.mono ?_; rintro e w8 ⟨gn, cn, n0, rfl, q0, hn0, hp8, hr8, hc8, hf8, AN⟩; have g1 : w8.cell? ⟨g, 1, none⟩ = some (.slice Av st.blocks.length cv) := hc8 1 _ rfl; have HN0 := Lib.hid hn0; have HAN := Aside0.mk AN; clear hn0 hc8 hf8 AN)
  have hmust8 : Aside0 (∀ is : Bool, Calls Tryd.prog 35 #[.pointer (some ⟨g, 0, none⟩), .bool is, .int .i64 70] w8.drew fun e w9 => (∃ r, e = .returned (.bool r)) ∧ w9.cell? ⟨gp, 0, none⟩ = some (.pointer (some ⟨g, 0, none⟩)) ∧ w9.cell? ⟨g, 1, none⟩ = some (.slice Av st.blocks.length cv) ∧ AfterNums B g gp gr st (.slice Av st.blocks.length cv) (mustE is (errN 0 t) 70) A' t.length (cap - 1) w w9) := ⟨fun is => by
    refine (must_any g _ _ _ _ 70 (errN 0 t) is (errN_is (.inl rfl) t) (.inl rfl) w8.drew HAN.out.blk).mono ?_
    rintro e w9 ⟨hr, hb9, hk9⟩
    have AN9 := HAN.out.must HPS.out.base HPS.out.size ((KeepG.of_below (below_drew (Below.refl _ _))).trans hk9) hb9
    exact ⟨hr, blk_cell AN9.p 0, blk_cell hb9 1, AN9⟩⟩
  go_wp2
  go_region_held3 (fun w' => w'.cell? ⟨gp, 0, none⟩ = some (.pointer (some ⟨g, 0, none⟩)) ∧ w'.cell? ⟨g, 1, none⟩ = some (.slice Av st.blocks.length cv)) (go_keep)
    ((go_at_call 35; refine (hmust8.out _).mono ?_; rintro e w9 ⟨⟨r9, rfl⟩, p9, g19, AN9⟩; have HIS : Aside0 (∃ is : Bool, is = decide (n0 = (st.blocks.length : Int)) ∧ AfterNums B g gp gr st (.slice Av st.blocks.length cv) (mustE is (errN 0 t) 70) A' t.length (cap - 1) w w9) := ⟨⟨_, by first | rfl | simp, AN9⟩⟩; clear AN9))
  obtain ⟨is, his, AN9⟩ := HIS.out
  have HRES := Lib.hid (blockS_eq st t is (by rw [his, HN0.out]))
  obtain ⟨e2, he2⟩ : ∃ e2, mustE is (errN 0 t) 70 = e2 := ⟨_, rfl⟩
  have he2b := mustE_is (is := is) (errN_or t)
  rw [he2] at AN9 he2b
  have HE2 := Lib.hid he2
  have HE2B := Aside0.mk he2b
  have HAN9 := Aside0.mk AN9
  have HAZ1 : Aside0 (∀ m, Below w9.heap.size w9 ((w9.drewN m).alloc (.cells #[.slice none 0 0, .slice none 0 0, .int .i64 0, .slice none 0 0, .slice none 0 0, .int .i32 0] 52))) := ⟨fun m => (pw_below_drewN (Below.refl _ _) m).alloc (Nat.le_refl _) _⟩
  have HAZ2 : Aside0 (∀ m, ((w9.drewN m).alloc (.cells #[.slice none 0 0, .slice none 0 0, .int .i64 0, .slice none 0 0, .slice none 0 0, .int .i32 0] 52)).heap[w9.heap.size]? = some (.cells #[.slice none 0 0, .slice none 0 0, .int .i64 0, .slice none 0 0, .slice none 0 0, .int .i32 0] 52 (0, 0))) := ⟨fun m => heap_alloc_new (w9.drewN m) _⟩
  have p9a : (w9.alloc (.cells #[.slice none 0 0, .slice none 0 0, .int .i64 0, .slice none 0 0, .slice none 0 0, .int .i32 0] 52)).cell? ⟨gp, 0, none⟩ = some (.pointer (some ⟨g, 0, none⟩)) := pw_cell_below ((Below.refl _ _).alloc (Nat.le_refl _) _) p9
  have g19a : (w9.alloc (.cells #[.slice none 0 0, .slice none 0 0, .int .i64 0, .slice none 0 0, .slice none 0 0, .int .i32 0] 52)).cell? ⟨g, 1, none⟩ = some (.slice Av st.blocks.length cv) := pw_cell_below ((Below.refl _ _).alloc (Nat.le_refl _) _) g19
  have HF10 : Aside0 (∀ w10, w9.grownBy w10 (Value.slice Av st.blocks.length cv).ownBlock → w10.cell? ⟨gp, 0, none⟩ = some (.pointer (some ⟨g, 0, none⟩)) ∧ w10.cell? ⟨g, 1, none⟩ = some (.slice Av st.blocks.length cv) ∧ w10.frozen? ⟨g, 1, none⟩ = false ∧ (∀ u, (w10.setCell ⟨g, 1, none⟩ u).cell? ⟨gp, 0, none⟩ = some (.pointer (some ⟨g, 0, none⟩))) ∧ (∀ u, (w10.setCell ⟨g, 1, none⟩ u).cell? ⟨g, 2, none⟩ = some (.int .i64 st.at_)) ∧ (∀ u, (w10.setCell ⟨g, 1, none⟩ u).frozen? ⟨g, 2, none⟩ = false)) := ⟨fun w10 hg => by
    have b0 := blk_grown HAN9.out.blk hg (S_ne HAN9.out.row HAN9.out.blk (by decide))
    have pb := blk_grown HAN9.out.p hg (S_ne HAN9.out.row HAN9.out.p (by decide))
    exact ⟨blk_cell pb 0, blk_cell b0 1, blk_frozen b0 1, fun u => blk_cell (blk_far pb (blk_ne HAN9.out.p HAN9.out.blk (by decide)) (p := ⟨g, 1, none⟩) u) 0, fun u => blk_cell (blk_put b0 1 u rfl) 2, fun u => blk_frozen (blk_put b0 1 u rfl) 2⟩⟩
  have HO9 : Aside0 (S kB 52 w9 B (fun k => k ≠ g ∧ ¬ False) (.slice Av st.blocks.length cv) st.blocks) := ⟨S_mono AN9.row (fun k hk => ⟨hk, fun h => h⟩)⟩
  have hgl := blk_lt AN9.blk
  have HFR : Aside0 (∀ k, w9.heap.size ≤ k → k ≠ g) := ⟨fun k hk => by omega⟩
  have hsz9 : B ≤ w9.heap.size := Nat.le_trans HPS.out.size AN9.bel.size
  have HSZ9 := Lib.hid hsz9
  have hcap9 : (st.blocks.length + 1) * 112 ≤ 140737488355328 := by omega
  have HCAP9 := Lib.hid hcap9
  have h639 : st.blocks.length + 1 ≤ 9223372036854775807 := by omega
  have H639 := Lib.hid h639
  clear his AN9 he2 he2b hcap9 h639 hsz9 hgl
  go_wp2
  go_region_law (refine S_append_far kB (w := w9) B ?_ (.tmp 115) (.tmp 117) 26 52 (.agg #[.slice none 0 0, .slice none 0 0, .int .i64 0, .slice none 0 0, .slice none 0 0, .int .i32 0]) 112 ?_ (by kernel_rfl) (by kernel_rfl) rfl (by decide) (.slice Av st.blocks.length cv) st.blocks zBlock [.slice none 0 0, .slice none 0 0, .int .i64 0, .slice none 0 0, .slice none 0 0, .int .i32 0] (fun k => k ≠ g) (fun _ => False) ?_ ?_ (zBlock_M _ _ _) (fun _ h => h.elim) HFR.out HO9.out ?_ ?_ HSZ9.out HCAP9.out H639.out ?_; rfl; rfl; rfl; rfl; (first | exact HAZ1.out _ | exact pw_below_drewN (HAZ1.out _) _ | exact below_drew (HAZ1.out _)); (first | exact HAZ2.out _ | exact blk_drewN (HAZ2.out _) _); intro A1 n1 c1 w10 hS10 hg10; obtain ⟨p10, g110, f110, p11, g211, f211⟩ := HF10.out _ hg10; have HS10 := Aside0.mk hS10; have HG10 := Aside0.mk hg10; clear hS10 hg10)
  all_goals
    go_wp2
    go_end0
    refine ⟨rfl, ?_⟩
    have hfin := HAN9.out.block HPS.out.base HPS.out.size HE2B.out HG10.out HS10.out
    rw [HRES.out, HE2.out]
    first | exact hfin | exact hfin.drew | exact hfin.drewN _

end Go.Proofs.YtlmkhllippobaaaDoor.Ps
