/- Parts of the proof, one behind the other: PinLoad, PinStore, PinCall. -/
import Derived.Test.YtlmkhllippobaaaDoorG07
section
/- text.parser.ins, walked: Load. -/
set_option linter.unusedVariables false
set_option linter.unusedSimpArgs false
namespace Go.Proofs.YtlmkhllippobaaaDoor.Ps
open Go.RowKit Go.Proofs.YtlmkhllippobaaaDoorW.PrintWords Go.Proofs.YtlmkhllippobaaaDoorW.PrintWords.Kd Go.Proofs.YtlmkhllippobaaaDoorW.PrintMore Go.Proofs.YtlmkhllippobaaaDoorW.PrintMore.Kd Go.Proofs.YtlmkhllippobaaaDoor.Wl Go.Proofs.YtlmkhllippobaaaDoor.Tx Go.Proofs.YtlmkhllippobaaaDoor.Kd Go.Proofs.YtlmkhllippobaaaDoor.Kp Go.Proofs.YtlmkhllippobaaaDoor.Mp
attribute [local go_sem ↓] Go.wp_at_zero Go.wp_at_succ

set_option maxHeartbeats 8000000 in
set_option maxRecDepth 1000000 in
theorem insLoadFew (B g : Nat) (A : Option Addr) (cap n : Nat) (st : St) (w : World) (hps : PS B g st 0 w) (hn : n ≤ 1099511627776) (h : n < 3) :
    Calls Tryd.prog 38 #[.pointer (some ⟨g, 0, none⟩), .int .i64 15, .slice A n cap] w fun e w' => e = .returned (.tuple #[]) ∧ Stepped B g (.error 70) w w' := by
  obtain ⟨v, hb, _⟩ := hps.ex
  have HB := Aside0.mk hb
  have HPS := Aside0.mk hps
  have h1 : ¬ (3 : Int) ≤ (n : Int) := by omega
  have h1b : (n : Int) < 3 := by omega
  have hmiss : ∀ e ∈ ([⟨.int .i64 1, .agg #[.int .i64 2, .int .i64 2], 0⟩, ⟨.int .i64 17, .agg #[.int .i64 2, .int .i64 6], 1⟩, ⟨.int .i64 18, .agg #[.int .i64 4, .int .i64 4], 2⟩] : List MapEntry), ∃ m, e.key = .int .i64 m ∧ (15 : Int) ≠ m := by
    intro e he
    simp only [List.mem_cons, List.not_mem_nil, or_false] at he
    rcases he with rfl | rfl | rfl
    · exact ⟨1, rfl, by omega⟩
    · exact ⟨17, rfl, by omega⟩
    · exact ⟨18, rfl, by omega⟩
  have HMISS := Aside0.mk hmiss
  clear hmiss
  clear hps hb h
  have hmm := fun (w : World) => run_makeMap (P := Tryd.prog) 115 w
  go_enter Tryd.func38, Tryd.ntmps38
  go_wp2_with (first
    | ((with_reducible refine at_insert ?_); refine wpList_insert_int rfl _ _ _ 115 rfl under_cm under_i _ _ _ _ rfl (by rfl) rfl rfl ?_)
    | ((with_reducible refine at_lookup_ ?_); refine wpList_lookup_of rfl _ _ 115 true rfl (.int .i64 15) w.heap.size rfl rfl _ (look_int_miss under_cm under_i (heap_alloc_new w _) 15 _ zero_ii (find_int_miss _ _ HMISS.out)) ?_))
  obtain ⟨W1, hW1⟩ : ∃ W1, (w.alloc (.map #[⟨.int .i64 1, .agg #[.int .i64 2, .int .i64 2], 0⟩, ⟨.int .i64 17, .agg #[.int .i64 2, .int .i64 6], 1⟩, ⟨.int .i64 18, .agg #[.int .i64 4, .int .i64 4], 2⟩] 3)).alloc (.cells #[.int .i64 3, .int .i64 3] 114) = W1 := ⟨_, rfl⟩
  have hbel : Below w.heap.size w W1 := by rw [← hW1]; exact ((Below.refl _ _).alloc (Nat.le_refl _) _).alloc (by simp) _
  rw [hW1]
  clear hW1
  have HBEL := Aside0.mk hbel
  have HB1 := Aside0.mk (blk_below HB.out hbel)
  clear hbel
  refine (must_no g _ _ _ _ 70 (.inl rfl) W1 HB1.out).mono ?_
  rintro e w' ⟨rfl, rfl⟩
  go_wp2
  refine bodyPost_ret (results_none rfl _ _ _) rfl ?_
  exact ⟨rfl, (HBEL.out.mono HPS.out.size).setCell (p := ⟨g, 3, none⟩) HPS.out.base _, (Oth.below HBEL.out).trans (Oth.set_ HB1.out (by decide) _ _), ⟨_, _, _, _, blk_put HB1.out 3 _ rfl⟩, .inl rfl⟩

set_option maxHeartbeats 8000000 in
set_option maxRecDepth 1000000 in
theorem insLoadMany (B g : Nat) (A : Option Addr) (cap n : Nat) (st : St) (w : World) (hps : PS B g st 0 w) (hn : n ≤ 1099511627776) (h : 3 < n) :
    Calls Tryd.prog 38 #[.pointer (some ⟨g, 0, none⟩), .int .i64 15, .slice A n cap] w fun e w' => e = .returned (.tuple #[]) ∧ Stepped B g (.error 70) w w' := by
  obtain ⟨v, hb, _⟩ := hps.ex
  have HB := Aside0.mk hb
  have HPS := Aside0.mk hps
  have h1 : (3 : Int) ≤ (n : Int) := by omega
  have h2 : ¬ (n : Int) ≤ 3 := by omega
  have h2b : (3 : Int) < (n : Int) := by omega
  have hmiss : ∀ e ∈ ([⟨.int .i64 1, .agg #[.int .i64 2, .int .i64 2], 0⟩, ⟨.int .i64 17, .agg #[.int .i64 2, .int .i64 6], 1⟩, ⟨.int .i64 18, .agg #[.int .i64 4, .int .i64 4], 2⟩] : List MapEntry), ∃ m, e.key = .int .i64 m ∧ (15 : Int) ≠ m := by
    intro e he
    simp only [List.mem_cons, List.not_mem_nil, or_false] at he
    rcases he with rfl | rfl | rfl
    · exact ⟨1, rfl, by omega⟩
    · exact ⟨17, rfl, by omega⟩
    · exact ⟨18, rfl, by omega⟩
  have HMISS := Aside0.mk hmiss
  clear hmiss
  clear hps hb h
  have hmm := fun (w : World) => run_makeMap (P := Tryd.prog) 115 w
  go_enter Tryd.func38, Tryd.ntmps38
  go_wp2_with (first
    | ((with_reducible refine at_insert ?_); refine wpList_insert_int rfl _ _ _ 115 rfl under_cm under_i _ _ _ _ rfl (by rfl) rfl rfl ?_)
    | ((with_reducible refine at_lookup_ ?_); refine wpList_lookup_of rfl _ _ 115 true rfl (.int .i64 15) w.heap.size rfl rfl _ (look_int_miss under_cm under_i (heap_alloc_new w _) 15 _ zero_ii (find_int_miss _ _ HMISS.out)) ?_))
  obtain ⟨W1, hW1⟩ : ∃ W1, (w.alloc (.map #[⟨.int .i64 1, .agg #[.int .i64 2, .int .i64 2], 0⟩, ⟨.int .i64 17, .agg #[.int .i64 2, .int .i64 6], 1⟩, ⟨.int .i64 18, .agg #[.int .i64 4, .int .i64 4], 2⟩] 3)).alloc (.cells #[.int .i64 3, .int .i64 3] 114) = W1 := ⟨_, rfl⟩
  have hbel : Below w.heap.size w W1 := by rw [← hW1]; exact ((Below.refl _ _).alloc (Nat.le_refl _) _).alloc (by simp) _
  rw [hW1]
  clear hW1
  have HBEL := Aside0.mk hbel
  have HB1 := Aside0.mk (blk_below HB.out hbel)
  clear hbel
  refine (must_no g _ _ _ _ 70 (.inl rfl) W1 HB1.out).mono ?_
  rintro e w' ⟨rfl, rfl⟩
  go_wp2
  refine bodyPost_ret (results_none rfl _ _ _) rfl ?_
  exact ⟨rfl, (HBEL.out.mono HPS.out.size).setCell (p := ⟨g, 3, none⟩) HPS.out.base _, (Oth.below HBEL.out).trans (Oth.set_ HB1.out (by decide) _ _), ⟨_, _, _, _, blk_put HB1.out 3 _ rfl⟩, .inl rfl⟩

set_option maxHeartbeats 16000000 in
set_option maxRecDepth 1000000 in
theorem insLoad (B g : Nat) (A : Option Addr) (cap : Nat) (ws : List ByteArray) (st : St) (w : World) (HG : Aside0 (∀ w', Below B w w' → LaidP w')) (hps : PS B g st 0 w) (hr : RdS w A ws)
    (hw : Aside0 (∀ s ∈ ws, s.size < 4294967281)) (hn : st.blocks ≠ []) (hm : ∀ b ∈ st.blocks, b.f1.length ≤ 1099511627776) (hla : 3 ≤ ws.length) (hlb : ws.length ≤ 3) :
    Calls Tryd.prog 38 #[.pointer (some ⟨g, 0, none⟩), .int .i64 15, .slice A ws.length cap] w fun e w' => e = .returned (.tuple #[]) ∧ Stepped B g (if errN 0 ws = 0 then .ok ⟨st.params, onLast (fun b => ⟨b.f0, b.f1 ++ [mkIns 15 (ws.map numV)], b.f2⟩) st.blocks, st.at_⟩ else .error 71) w w' := by
  obtain ⟨n, hnl⟩ : ∃ n, st.blocks.length = n + 1 := ⟨st.blocks.length - 1, by
    cases hh : st.blocks with
    | nil => exact absurd hh hn
    | cons _ _ => simp⟩
  obtain ⟨gB, capB, ok, v0, v1, v3, v4, L⟩ := hps.lend hnl
  obtain ⟨x, hx⟩ : ∃ x, st.blocks.getD n zBlock = x := ⟨_, rfl⟩
  rw [hx] at L
  have hxm : x.f1.length ≤ 1099511627776 := hm x (by rw [← hx, List.getD_eq_getElem?_getD, List.getElem?_eq_getElem (by omega)]; exact List.getElem_mem _)
  have HX := Lib.hid hx
  have HL0 := Aside0.mk L
  have HNL := Lib.hid hnl
  obtain ⟨v, hv⟩ : ∃ v, Value.slice (some ⟨gB, 0, none⟩) (n + 1) capB = v := ⟨_, rfl⟩
  have hb : w.heap[g]? = some (.cells (pcells st v 0) 57 (0, 0)) := by rw [← hv]; exact L.blk
  have HV := Lib.hid hv
  have HB := Aside0.mk hb
  have hlt := blk_lt hb
  have HPS := Aside0.mk hps
  have HR := Aside0.mk hr
  have hl1 : (3 : Int) ≤ (ws.length : Int) := by omega
  have hl2 : (ws.length : Int) ≤ 3 := by omega
  have hl3 : (ws.length : Int) = 3 := by omega
  have hmiss : ∀ e ∈ ([⟨.int .i64 1, .agg #[.int .i64 2, .int .i64 2], 0⟩, ⟨.int .i64 17, .agg #[.int .i64 2, .int .i64 6], 1⟩, ⟨.int .i64 18, .agg #[.int .i64 4, .int .i64 4], 2⟩] : List MapEntry), ∃ m, e.key = .int .i64 m ∧ (15 : Int) ≠ m := by
    intro e he
    simp only [List.mem_cons, List.not_mem_nil, or_false] at he
    rcases he with rfl | rfl | rfl
    · exact ⟨1, rfl, by omega⟩
    · exact ⟨17, rfl, by omega⟩
    · exact ⟨18, rfl, by omega⟩
  have HMISS := Aside0.mk hmiss
  clear hmiss
  clear hx L hnl hv hb hps hr hn hm
  have hmm := fun (w : World) => run_makeMap (P := Tryd.prog) 115 w
  go_enter Tryd.func38, Tryd.ntmps38
  go_wp2_with (first
    | ((with_reducible refine at_insert ?_); refine wpList_insert_int rfl _ _ _ 115 rfl under_cm under_i _ _ _ _ rfl (by rfl) rfl rfl ?_)
    | ((with_reducible refine at_lookup_ ?_); refine wpList_lookup_of rfl _ _ 115 true rfl (.int .i64 15) w.heap.size rfl rfl _ (look_int_miss under_cm under_i (heap_alloc_new w _) 15 _ zero_ii (find_int_miss _ _ HMISS.out)) ?_))
  obtain ⟨W1, hW1⟩ : ∃ W1, (w.alloc (.map #[⟨.int .i64 1, .agg #[.int .i64 2, .int .i64 2], 0⟩, ⟨.int .i64 17, .agg #[.int .i64 2, .int .i64 6], 1⟩, ⟨.int .i64 18, .agg #[.int .i64 4, .int .i64 4], 2⟩] 3)).alloc (.cells #[.int .i64 3, .int .i64 3] 114) = W1 := ⟨_, rfl⟩
  have hbel : Below w.heap.size w W1 := by rw [← hW1]; exact ((Below.refl _ _).alloc (Nat.le_refl _) _).alloc (by simp) _
  rw [hW1]
  clear hW1
  have HBEL := Aside0.mk hbel
  have HB1 := Aside0.mk (blk_below HB.out hbel)
  clear hbel
  refine (must_yes g _ _ _ _ 70 W1 HB1.out).mono ?_
  rintro e w' ⟨rfl, rfl⟩
  go_wp2_with fail
  have hk1 := KeepG.of_below (g := g) HBEL.out
  refine (nums_calls B g A cap ws _ _ _ _ 0 W1 ⟨fun w' h => (HG.out w' ((hk1.below HPS.out.base HPS.out.size).trans h)).l.t⟩ HPS.out.base (Nat.le_trans HPS.out.size hk1.size) (.inl rfl) HB1.out (HR.out.below HBEL.out) ⟨fun s hs => by
    have := hw.out s hs
    omega⟩ (by omega)).mono ?_
  rintro e w5 ⟨vn, rfl, hrn, hb5, hk5⟩
  obtain ⟨gn, cn, rfl, hcn, hgn, hcells⟩ := ints_at hrn (by rw [List.length_map]; omega)
  rw [List.length_map] at hcn hcells
  have hnr : ∀ j, -2147483648 ≤ (ws.map numV).getD j 0 ∧ (ws.map numV).getD j 0 ≤ 2147483647 := numsV_range ws
  obtain ⟨n0, hn0⟩ : ∃ n0, (ws.map numV).getD 0 0 = n0 := ⟨_, rfl⟩
  have hr0 := hnr 0
  rw [hn0] at hr0
  obtain ⟨hr0a, hr0b⟩ := hr0
  have q0 : w5.cell? ⟨gn, 0, none⟩ = some (.int .i64 n0) := by rw [← hn0]; exact hcells 0 (by omega)
  have q0b : ∀ o, (w5.alloc o).cell? ⟨gn, 0, none⟩ = some (.int .i64 n0) := fun o => pw_cell_below ((Below.refl _ _).alloc (Nat.le_refl _) _) q0
  have HN0 := Lib.hid hn0
  clear hn0
  obtain ⟨n2, hn2⟩ : ∃ n2, (ws.map numV).getD 2 0 = n2 := ⟨_, rfl⟩
  have hr2 := hnr 2
  rw [hn2] at hr2
  obtain ⟨hr2a, hr2b⟩ := hr2
  have q2 : w5.cell? ⟨gn, 2, none⟩ = some (.int .i64 n2) := by rw [← hn2]; exact hcells 2 (by omega)
  have q2b : ∀ o, (w5.alloc o).cell? ⟨gn, 2, none⟩ = some (.int .i64 n2) := fun o => pw_cell_below ((Below.refl _ _).alloc (Nat.le_refl _) _) q2
  have HN2 := Lib.hid hn2
  clear hn2
  have hrow : rI.M w5 B (fun k => w.heap.size ≤ k ∧ k < w5.heap.size) (ws.map numV) [.slice (some ⟨gn, 0, none⟩) ws.length cn] := by
    have h1 := R_mono (R_bound hrn) (ok' := fun k => w.heap.size ≤ k ∧ k < w5.heap.size) (fun k hk => ⟨Nat.le_trans HBEL.out.size hk.2.1, hk.2.2.1⟩)
    have h2 := ro_of_R (R_lower h1 (Nat.le_trans HPS.out.size HBEL.out.size))
    rwa [List.length_map] at h2
  obtain ⟨i0, hi0, hz0⟩ := info_int
  have hsl0 := cut_mid (some ⟨gn, 0, none⟩) ws.length cn 1 2 (by omega) (by omega) (by omega)
  have hargs := ro_drop (m := 1) (ro_take hrow (m := 2) (by rw [List.length_map]; omega) cn (by omega)) (by rw [List.length_take, List.length_map]; omega)
  obtain ⟨A1, hA1⟩ : ∃ A1, (if cn = 1 then (some ⟨gn, 0, none⟩ : Option Addr) else (some ⟨gn, 0, none⟩ : Option Addr).map (·.add (1 * 1))) = A1 := ⟨_, rfl⟩
  have hargs : rI.M w5 B (fun k => w.heap.size ≤ k ∧ k < w5.heap.size) (((ws.map numV).take 2).drop 1) [.slice A1 1 (cn - 1)] := by rw [← hA1]; exact hargs
  have hargs := ro_take hargs (m := 1) (by rw [List.length_drop, List.length_take, List.length_map]; omega) 1 (Nat.le_refl _)
  rw [List.take_of_length_le (by rw [List.length_drop, List.length_take, List.length_map]; omega)] at hargs
  have hsl : ∀ W : World, (Instr.slice 33 (.slice (some ⟨gn, 0, none⟩) ws.length cn) (some (.int .i64 1)) (some (.int .i64 2)) none).run Tryd.prog W = .ok (.slice A1 1 (cn - 1)) W := fun W => by rw [hsl0 W, ← hA1]; rfl
  clear hsl0
  obtain ⟨c1, hc1⟩ : ∃ c1, cn - 1 = c1 := ⟨_, rfl⟩
  have hmc : 1 ≤ c1 := by omega
  rw [hc1] at hsl
  have HCLIP := Aside0.mk (clip_calls A1 1 c1 hmc)
  clear hA1 hc1 hmc
  have hk6 := hk1.trans hk5
  have HK5 := Aside0.mk hk6
  have HARGS := Aside0.mk hargs
  have HE1 : Hid (errN 0 ws = errN 0 ws) := Lib.hid rfl
  obtain ⟨e1, he1⟩ : ∃ e1, errN 0 ws = e1 := ⟨_, rfl⟩
  rw [he1] at hb5
  have HB5 := Aside0.mk hb5
  have HE := Lib.hid he1
  clear hk1 hk5 hk6 hb5 hrn hcells hgn hargs he1 hnr
  rw [List.length_map]
  go_wp2
  go_region
  all_goals (go_wp2_with fail)
  go_wp2_with fail
  refine (HCLIP.out _).mono ?_
  rintro e w' ⟨rfl, rfl⟩
  go_wp2

  obtain ⟨wr, hwr⟩ : ∃ wr, (w5.alloc (.cells #[.int .i64 15, .int .i64 n0, .int .i64 0, .slice A1 1 1, .int .i32 n2] 46)).drew = wr := ⟨_, rfl⟩
  obtain ⟨gi, hgi⟩ : ∃ gi, w5.heap.size = gi := ⟨_, rfl⟩
  have hbel6 : Below w5.heap.size w5 wr := by rw [← hwr]; exact below_drew ((Below.refl _ _).alloc (Nat.le_refl _) _)
  have hxb : wr.heap[gi]? = some (.cells #[.int .i64 15, .int .i64 n0, .int .i64 0, .slice A1 1 1, .int .i32 n2] 46 (0, 0)) := by rw [← hwr, ← hgi]; exact heap_alloc_new w5 _
  rw [hwr, hgi]
  clear hwr hgi
  have hkp : KeepG g w wr := HK5.out.trans (KeepG.of_below hbel6)
  have L := HL0.out.keepG hkp (by rw [HV.out]; exact blk_below HB5.out hbel6)
  have hargs : rI.M wr B (fun k => w.heap.size ≤ k ∧ k < wr.heap.size) (((ws.map numV).take 2).drop 1) [.slice A1 1 1] := rI.M_mono (fun k hk => ⟨hk.1, Nat.lt_of_lt_of_le hk.2 hbel6.size⟩) (M_below HARGS.out hbel6)
  have hMp : kIns.M wr B (fun k => w.heap.size ≤ k ∧ k < wr.heap.size) ⟨15, n0, 0, ((ws.map numV).take 2).drop 1, n2⟩ [.int .i64 15, .int .i64 n0, .int .i64 0, .slice A1 1 1, .int .i32 n2] := kInsP_mkM wr B _ ⟨15, n0, 0, ((ws.map numV).take 2).drop 1, n2⟩ hargs
  have hmk : mkIns 15 (ws.map numV) = ⟨15, n0, 0, ((ws.map numV).take 2).drop 1, n2⟩ := by
    unfold mkIns
    rw [if_neg (by decide), if_pos rfl, HN0.out, HN2.out, List.take_drop]
  have HMK := Lib.hid hmk
  have HMP := Aside0.mk hMp
  have HL := Aside0.mk L
  obtain ⟨hcs, hfs⟩ := L.cells
  have c0 : wr.cell? ⟨gB, n * 6 + 1, none⟩ = some v1 := hcs 1 _ rfl
  have f0 : wr.frozen? ⟨gB, n * 6 + 1, none⟩ = false := hfs 1
  have x0 : wr.cell? ⟨gi, 0, none⟩ = some (.int .i64 15) := blk_cell hxb 0
  have x1 : wr.cell? ⟨gi, 1, none⟩ = some (.int .i64 n0) := blk_cell hxb 1
  have x2 : wr.cell? ⟨gi, 2, none⟩ = some (.int .i64 0) := blk_cell hxb 2
  have x3 : wr.cell? ⟨gi, 3, none⟩ = some (.slice A1 1 1) := blk_cell hxb 3
  have x4 : wr.cell? ⟨gi, 4, none⟩ = some (.int .i32 n2) := blk_cell hxb 4
  have HKP := Aside0.mk hkp
  have hnb : n + 1 ≤ 9223372036854775807 := L.max
  clear L hcs hfs hxb hkp hargs hMp hmk
  have hlast : Aside0 (∀ W : World, W.heap[g]? = wr.heap[g]? → Calls Tryd.prog 54 #[.pointer (some ⟨g, 0, none⟩)] W fun en w' => en = .returned (.pointer (some ⟨gB, n * 6, none⟩)) ∧ ∃ k, W.drewN k = w') := ⟨fun W hW => last_calls g gB n capB _ _ _ _ W hnb (hW.trans HL.out.blk)⟩
  have hgA : Aside0 (∀ m o, ((wr.drewN m).alloc o).heap[g]? = wr.heap[g]?) := ⟨fun m o => Below.heap_alloc (wr.drewN m) o g (blk_lt HL.out.blk)⟩
  have HA1 : Aside0 (∀ m, Below wr.heap.size wr ((wr.drewN m).alloc (.cells #[.int .i64 15, .int .i64 n0, .int .i64 0, .slice A1 1 1, .int .i32 n2] 46))) := ⟨fun m => (pw_below_drewN (Below.refl _ _) m).alloc (Nat.le_refl _) _⟩
  have HA2 : Aside0 (∀ m, ((wr.drewN m).alloc (.cells #[.int .i64 15, .int .i64 n0, .int .i64 0, .slice A1 1 1, .int .i32 n2] 46)).heap[wr.heap.size]? = some (.cells #[.int .i64 15, .int .i64 n0, .int .i64 0, .slice A1 1 1, .int .i32 n2] 46 (0, 0))) := ⟨fun m => heap_alloc_new (wr.drewN m) _⟩
  have hokp : ∀ k, (w.heap.size ≤ k ∧ k < wr.heap.size) → ok k ∧ some k ≠ v1.ownBlock := fun k hk => ⟨HL0.out.fresh k hk.1, fun e => by have := R_lt HL0.out.r1 k e.symm; omega⟩
  have HOKP := Aside0.mk hokp
  have hcap : (x.f1.length + 1) * 56 ≤ 140737488355328 := by omega
  have HCAP := Lib.hid hcap
  have h63 : x.f1.length + 1 ≤ 9223372036854775807 := by omega
  have H63 := Lib.hid h63
  clear hokp hcap h63
  have c0a : (wr.alloc (.cells #[.int .i64 15, .int .i64 n0, .int .i64 0, .slice A1 1 1, .int .i32 n2] 46)).cell? ⟨gB, n * 6 + 1, none⟩ = some v1 := pw_cell_below ((Below.refl _ _).alloc (Nat.le_refl _) _) c0
  have c0b : ∀ m, ((wr.drewN m).alloc (.cells #[.int .i64 15, .int .i64 n0, .int .i64 0, .slice A1 1 1, .int .i32 n2] 46)).cell? ⟨gB, n * 6 + 1, none⟩ = some v1 := fun m => pw_cell_below (w := wr.drewN m) ((Below.refl _ _).alloc (Nat.le_refl _) _) c0
  have HF7 : Aside0 (∀ w7, wr.grownBy w7 v1.ownBlock → w7.cell? ⟨gB, n * 6 + 1, none⟩ = some v1 ∧ w7.frozen? ⟨gB, n * 6 + 1, none⟩ = false ∧ w7.heap[g]? = wr.heap[g]?) := ⟨fun w7 hg7 => by
    obtain ⟨q1, q2, q3⟩ := HL.out.stands hg7 (fun k hk => ⟨HL.out.r1.1 k hk, fun e => R_ne HL.out.r1 HL.out.blk (by decide) (by rw [← e]; exact hk.symm)⟩)
    exact ⟨q1 _ _ c0, q2 _, q3⟩⟩
  have HEND : Aside0 (∀ A7 n7 c7 w7, kIns.R 46 w7 B ok (.slice A7 n7 c7) (x.f1 ++ [⟨15, n0, 0, ((ws.map numV).take 2).drop 1, n2⟩]) → wr.grownBy w7 v1.ownBlock →
      Stepped B g (if errN 0 ws = 0 then .ok ⟨st.params, onLast (fun b => ⟨b.f0, b.f1 ++ [mkIns 15 (ws.map numV)], b.f2⟩) st.blocks, st.at_⟩ else .error 71) w (w7.setCell ⟨gB, n * 6 + 1, none⟩ (.slice A7 n7 c7))) := ⟨fun A7 n7 c7 w7 hr7 hg7 => by
    rw [HMK.out]
    obtain ⟨p1, p2, p3⟩ := HL.out.afterIns (st' := ⟨st.params, onLast (fun b => ⟨b.f0, b.f1 ++ [⟨15, n0, 0, ((ws.map numV).take 2).drop 1, n2⟩], b.f2⟩) st.blocks, st.at_⟩) hg7 hr7 rfl rfl (by rw [← HX.out]; exact onLast_set (f := fun b => ⟨b.f0, b.f1 ++ [⟨15, n0, 0, ((ws.map numV).take 2).drop 1, n2⟩], b.f2⟩) HNL.out)
    refine ⟨(HKP.out.below HPS.out.base HPS.out.size).trans p2, (HKP.out.oth HB.out (by decide)).trans p3, ?_⟩
    rw [HE.out]
    exact out_of_err p1 (by have := HE.out; unfold errN at this; rw [if_pos rfl] at this; split at this <;> omega)⟩
  go_region_law (first
    | (refine R_append_far kIns (w := wr) B ?_ (.tmp 109) (.tmp 111) 47 46 (.agg #[.int .i64 0, .int .i64 0, .int .i64 0, .slice none 0 0, .int .i32 0]) 56 ?_ (by kernel_rfl) (by kernel_rfl) rfl (by decide) v1 x.f1 ⟨15, n0, 0, ((ws.map numV).take 2).drop 1, n2⟩ [.int .i64 15, .int .i64 n0, .int .i64 0, .slice A1 1 1, .int .i32 n2] ok (fun k => w.heap.size ≤ k ∧ k < wr.heap.size) ?_ ?_ HMP.out HOKP.out (fun k hk => HL.out.fresh k (Nat.le_trans HKP.out.size hk)) HL.out.r1 ?_ ?_ HL.out.size HCAP.out H63.out ?_; rfl; rfl; rfl; rfl; (first | exact HA1.out _ | exact pw_below_drewN (HA1.out _) _ | exact below_drew (HA1.out _)); (first | exact HA2.out _ | exact blk_drewN (HA2.out _) _); intro A7 n7 c7 w7 hr7 hg7; have HR7 := Aside0.mk hr7; have HG7 := Aside0.mk hg7; obtain ⟨c7', f7', g7'⟩ := HF7.out _ hg7; have G7 := Aside0.mk g7'; clear hr7 hg7 g7')
    | (go_simp; go_at_call 54; refine (hlast.out _ (by first | rfl | exact hgA.out _ _ | exact G7.out)).mono ?_; rintro e w8 ⟨rfl, kk, rfl⟩))
  all_goals
    go_end0
    refine ⟨rfl, ?_⟩
    first | exact HEND.out _ _ _ _ HR7.out HG7.out | exact (HEND.out _ _ _ _ HR7.out HG7.out).drewN _

end Go.Proofs.YtlmkhllippobaaaDoor.Ps
end
section
/- text.parser.ins, walked: Store. -/
set_option linter.unusedVariables false
set_option linter.unusedSimpArgs false
namespace Go.Proofs.YtlmkhllippobaaaDoor.Ps
open Go.RowKit Go.Proofs.YtlmkhllippobaaaDoorW.PrintWords Go.Proofs.YtlmkhllippobaaaDoorW.PrintWords.Kd Go.Proofs.YtlmkhllippobaaaDoorW.PrintMore Go.Proofs.YtlmkhllippobaaaDoorW.PrintMore.Kd Go.Proofs.YtlmkhllippobaaaDoor.Wl Go.Proofs.YtlmkhllippobaaaDoor.Tx Go.Proofs.YtlmkhllippobaaaDoor.Kd Go.Proofs.YtlmkhllippobaaaDoor.Kp Go.Proofs.YtlmkhllippobaaaDoor.Mp
attribute [local go_sem ↓] Go.wp_at_zero Go.wp_at_succ

set_option maxHeartbeats 8000000 in
set_option maxRecDepth 1000000 in
theorem insStoreFew (B g : Nat) (A : Option Addr) (cap n : Nat) (st : St) (w : World) (hps : PS B g st 0 w) (hn : n ≤ 1099511627776) (h : n < 3) :
    Calls Tryd.prog 38 #[.pointer (some ⟨g, 0, none⟩), .int .i64 16, .slice A n cap] w fun e w' => e = .returned (.tuple #[]) ∧ Stepped B g (.error 70) w w' := by
  obtain ⟨v, hb, _⟩ := hps.ex
  have HB := Aside0.mk hb
  have HPS := Aside0.mk hps
  have h1 : ¬ (3 : Int) ≤ (n : Int) := by omega
  have h1b : (n : Int) < 3 := by omega
  have hmiss : ∀ e ∈ ([⟨.int .i64 1, .agg #[.int .i64 2, .int .i64 2], 0⟩, ⟨.int .i64 17, .agg #[.int .i64 2, .int .i64 6], 1⟩, ⟨.int .i64 18, .agg #[.int .i64 4, .int .i64 4], 2⟩] : List MapEntry), ∃ m, e.key = .int .i64 m ∧ (16 : Int) ≠ m := by
    intro e he
    simp only [List.mem_cons, List.not_mem_nil, or_false] at he
    rcases he with rfl | rfl | rfl
    · exact ⟨1, rfl, by omega⟩
    · exact ⟨17, rfl, by omega⟩
    · exact ⟨18, rfl, by omega⟩
  have HMISS := Aside0.mk hmiss
  clear hmiss
  clear hps hb h
  have hmm := fun (w : World) => run_makeMap (P := Tryd.prog) 115 w
  go_enter Tryd.func38, Tryd.ntmps38
  go_wp2_with (first
    | ((with_reducible refine at_insert ?_); refine wpList_insert_int rfl _ _ _ 115 rfl under_cm under_i _ _ _ _ rfl (by rfl) rfl rfl ?_)
    | ((with_reducible refine at_lookup_ ?_); refine wpList_lookup_of rfl _ _ 115 true rfl (.int .i64 16) w.heap.size rfl rfl _ (look_int_miss under_cm under_i (heap_alloc_new w _) 16 _ zero_ii (find_int_miss _ _ HMISS.out)) ?_))
  obtain ⟨W1, hW1⟩ : ∃ W1, (w.alloc (.map #[⟨.int .i64 1, .agg #[.int .i64 2, .int .i64 2], 0⟩, ⟨.int .i64 17, .agg #[.int .i64 2, .int .i64 6], 1⟩, ⟨.int .i64 18, .agg #[.int .i64 4, .int .i64 4], 2⟩] 3)).alloc (.cells #[.int .i64 3, .int .i64 3] 114) = W1 := ⟨_, rfl⟩
  have hbel : Below w.heap.size w W1 := by rw [← hW1]; exact ((Below.refl _ _).alloc (Nat.le_refl _) _).alloc (by simp) _
  rw [hW1]
  clear hW1
  have HBEL := Aside0.mk hbel
  have HB1 := Aside0.mk (blk_below HB.out hbel)
  clear hbel
  refine (must_no g _ _ _ _ 70 (.inl rfl) W1 HB1.out).mono ?_
  rintro e w' ⟨rfl, rfl⟩
  go_wp2
  refine bodyPost_ret (results_none rfl _ _ _) rfl ?_
  exact ⟨rfl, (HBEL.out.mono HPS.out.size).setCell (p := ⟨g, 3, none⟩) HPS.out.base _, (Oth.below HBEL.out).trans (Oth.set_ HB1.out (by decide) _ _), ⟨_, _, _, _, blk_put HB1.out 3 _ rfl⟩, .inl rfl⟩

set_option maxHeartbeats 8000000 in
set_option maxRecDepth 1000000 in
theorem insStoreMany (B g : Nat) (A : Option Addr) (cap n : Nat) (st : St) (w : World) (hps : PS B g st 0 w) (hn : n ≤ 1099511627776) (h : 3 < n) :
    Calls Tryd.prog 38 #[.pointer (some ⟨g, 0, none⟩), .int .i64 16, .slice A n cap] w fun e w' => e = .returned (.tuple #[]) ∧ Stepped B g (.error 70) w w' := by
  obtain ⟨v, hb, _⟩ := hps.ex
  have HB := Aside0.mk hb
  have HPS := Aside0.mk hps
  have h1 : (3 : Int) ≤ (n : Int) := by omega
  have h2 : ¬ (n : Int) ≤ 3 := by omega
  have h2b : (3 : Int) < (n : Int) := by omega
  have hmiss : ∀ e ∈ ([⟨.int .i64 1, .agg #[.int .i64 2, .int .i64 2], 0⟩, ⟨.int .i64 17, .agg #[.int .i64 2, .int .i64 6], 1⟩, ⟨.int .i64 18, .agg #[.int .i64 4, .int .i64 4], 2⟩] : List MapEntry), ∃ m, e.key = .int .i64 m ∧ (16 : Int) ≠ m := by
    intro e he
    simp only [List.mem_cons, List.not_mem_nil, or_false] at he
    rcases he with rfl | rfl | rfl
    · exact ⟨1, rfl, by omega⟩
    · exact ⟨17, rfl, by omega⟩
    · exact ⟨18, rfl, by omega⟩
  have HMISS := Aside0.mk hmiss
  clear hmiss
  clear hps hb h
  have hmm := fun (w : World) => run_makeMap (P := Tryd.prog) 115 w
  go_enter Tryd.func38, Tryd.ntmps38
  go_wp2_with (first
    | ((with_reducible refine at_insert ?_); refine wpList_insert_int rfl _ _ _ 115 rfl under_cm under_i _ _ _ _ rfl (by rfl) rfl rfl ?_)
    | ((with_reducible refine at_lookup_ ?_); refine wpList_lookup_of rfl _ _ 115 true rfl (.int .i64 16) w.heap.size rfl rfl _ (look_int_miss under_cm under_i (heap_alloc_new w _) 16 _ zero_ii (find_int_miss _ _ HMISS.out)) ?_))
  obtain ⟨W1, hW1⟩ : ∃ W1, (w.alloc (.map #[⟨.int .i64 1, .agg #[.int .i64 2, .int .i64 2], 0⟩, ⟨.int .i64 17, .agg #[.int .i64 2, .int .i64 6], 1⟩, ⟨.int .i64 18, .agg #[.int .i64 4, .int .i64 4], 2⟩] 3)).alloc (.cells #[.int .i64 3, .int .i64 3] 114) = W1 := ⟨_, rfl⟩
  have hbel : Below w.heap.size w W1 := by rw [← hW1]; exact ((Below.refl _ _).alloc (Nat.le_refl _) _).alloc (by simp) _
  rw [hW1]
  clear hW1
  have HBEL := Aside0.mk hbel
  have HB1 := Aside0.mk (blk_below HB.out hbel)
  clear hbel
  refine (must_no g _ _ _ _ 70 (.inl rfl) W1 HB1.out).mono ?_
  rintro e w' ⟨rfl, rfl⟩
  go_wp2
  refine bodyPost_ret (results_none rfl _ _ _) rfl ?_
  exact ⟨rfl, (HBEL.out.mono HPS.out.size).setCell (p := ⟨g, 3, none⟩) HPS.out.base _, (Oth.below HBEL.out).trans (Oth.set_ HB1.out (by decide) _ _), ⟨_, _, _, _, blk_put HB1.out 3 _ rfl⟩, .inl rfl⟩

set_option maxHeartbeats 16000000 in
set_option maxRecDepth 1000000 in
theorem insStore (B g : Nat) (A : Option Addr) (cap : Nat) (ws : List ByteArray) (st : St) (w : World) (HG : Aside0 (∀ w', Below B w w' → LaidP w')) (hps : PS B g st 0 w) (hr : RdS w A ws)
    (hw : Aside0 (∀ s ∈ ws, s.size < 4294967281)) (hn : st.blocks ≠ []) (hm : ∀ b ∈ st.blocks, b.f1.length ≤ 1099511627776) (hla : 3 ≤ ws.length) (hlb : ws.length ≤ 3) :
    Calls Tryd.prog 38 #[.pointer (some ⟨g, 0, none⟩), .int .i64 16, .slice A ws.length cap] w fun e w' => e = .returned (.tuple #[]) ∧ Stepped B g (if errN 0 ws = 0 then .ok ⟨st.params, onLast (fun b => ⟨b.f0, b.f1 ++ [mkIns 16 (ws.map numV)], b.f2⟩) st.blocks, st.at_⟩ else .error 71) w w' := by
  obtain ⟨n, hnl⟩ : ∃ n, st.blocks.length = n + 1 := ⟨st.blocks.length - 1, by
    cases hh : st.blocks with
    | nil => exact absurd hh hn
    | cons _ _ => simp⟩
  obtain ⟨gB, capB, ok, v0, v1, v3, v4, L⟩ := hps.lend hnl
  obtain ⟨x, hx⟩ : ∃ x, st.blocks.getD n zBlock = x := ⟨_, rfl⟩
  rw [hx] at L
  have hxm : x.f1.length ≤ 1099511627776 := hm x (by rw [← hx, List.getD_eq_getElem?_getD, List.getElem?_eq_getElem (by omega)]; exact List.getElem_mem _)
  have HX := Lib.hid hx
  have HL0 := Aside0.mk L
  have HNL := Lib.hid hnl
  obtain ⟨v, hv⟩ : ∃ v, Value.slice (some ⟨gB, 0, none⟩) (n + 1) capB = v := ⟨_, rfl⟩
  have hb : w.heap[g]? = some (.cells (pcells st v 0) 57 (0, 0)) := by rw [← hv]; exact L.blk
  have HV := Lib.hid hv
  have HB := Aside0.mk hb
  have hlt := blk_lt hb
  have HPS := Aside0.mk hps
  have HR := Aside0.mk hr
  have hl1 : (3 : Int) ≤ (ws.length : Int) := by omega
  have hl2 : (ws.length : Int) ≤ 3 := by omega
  have hl3 : (ws.length : Int) = 3 := by omega
  have hmiss : ∀ e ∈ ([⟨.int .i64 1, .agg #[.int .i64 2, .int .i64 2], 0⟩, ⟨.int .i64 17, .agg #[.int .i64 2, .int .i64 6], 1⟩, ⟨.int .i64 18, .agg #[.int .i64 4, .int .i64 4], 2⟩] : List MapEntry), ∃ m, e.key = .int .i64 m ∧ (16 : Int) ≠ m := by
    intro e he
    simp only [List.mem_cons, List.not_mem_nil, or_false] at he
    rcases he with rfl | rfl | rfl
    · exact ⟨1, rfl, by omega⟩
    · exact ⟨17, rfl, by omega⟩
    · exact ⟨18, rfl, by omega⟩
  have HMISS := Aside0.mk hmiss
  clear hmiss
  clear hx L hnl hv hb hps hr hn hm
  have hmm := fun (w : World) => run_makeMap (P := Tryd.prog) 115 w
  go_enter Tryd.func38, Tryd.ntmps38
  go_wp2_with (first
    | ((with_reducible refine at_insert ?_); refine wpList_insert_int rfl _ _ _ 115 rfl under_cm under_i _ _ _ _ rfl (by rfl) rfl rfl ?_)
    | ((with_reducible refine at_lookup_ ?_); refine wpList_lookup_of rfl _ _ 115 true rfl (.int .i64 16) w.heap.size rfl rfl _ (look_int_miss under_cm under_i (heap_alloc_new w _) 16 _ zero_ii (find_int_miss _ _ HMISS.out)) ?_))
  obtain ⟨W1, hW1⟩ : ∃ W1, (w.alloc (.map #[⟨.int .i64 1, .agg #[.int .i64 2, .int .i64 2], 0⟩, ⟨.int .i64 17, .agg #[.int .i64 2, .int .i64 6], 1⟩, ⟨.int .i64 18, .agg #[.int .i64 4, .int .i64 4], 2⟩] 3)).alloc (.cells #[.int .i64 3, .int .i64 3] 114) = W1 := ⟨_, rfl⟩
  have hbel : Below w.heap.size w W1 := by rw [← hW1]; exact ((Below.refl _ _).alloc (Nat.le_refl _) _).alloc (by simp) _
  rw [hW1]
  clear hW1
  have HBEL := Aside0.mk hbel
  have HB1 := Aside0.mk (blk_below HB.out hbel)
  clear hbel
  refine (must_yes g _ _ _ _ 70 W1 HB1.out).mono ?_
  rintro e w' ⟨rfl, rfl⟩
  go_wp2_with fail
  have hk1 := KeepG.of_below (g := g) HBEL.out
  refine (nums_calls B g A cap ws _ _ _ _ 0 W1 ⟨fun w' h => (HG.out w' ((hk1.below HPS.out.base HPS.out.size).trans h)).l.t⟩ HPS.out.base (Nat.le_trans HPS.out.size hk1.size) (.inl rfl) HB1.out (HR.out.below HBEL.out) ⟨fun s hs => by
    have := hw.out s hs
    omega⟩ (by omega)).mono ?_
  rintro e w5 ⟨vn, rfl, hrn, hb5, hk5⟩
  obtain ⟨gn, cn, rfl, hcn, hgn, hcells⟩ := ints_at hrn (by rw [List.length_map]; omega)
  rw [List.length_map] at hcn hcells
  have hnr : ∀ j, -2147483648 ≤ (ws.map numV).getD j 0 ∧ (ws.map numV).getD j 0 ≤ 2147483647 := numsV_range ws
  obtain ⟨n0, hn0⟩ : ∃ n0, (ws.map numV).getD 0 0 = n0 := ⟨_, rfl⟩
  have hr0 := hnr 0
  rw [hn0] at hr0
  obtain ⟨hr0a, hr0b⟩ := hr0
  have q0 : w5.cell? ⟨gn, 0, none⟩ = some (.int .i64 n0) := by rw [← hn0]; exact hcells 0 (by omega)
  have q0b : ∀ o, (w5.alloc o).cell? ⟨gn, 0, none⟩ = some (.int .i64 n0) := fun o => pw_cell_below ((Below.refl _ _).alloc (Nat.le_refl _) _) q0
  have HN0 := Lib.hid hn0
  clear hn0
  obtain ⟨n2, hn2⟩ : ∃ n2, (ws.map numV).getD 2 0 = n2 := ⟨_, rfl⟩
  have hr2 := hnr 2
  rw [hn2] at hr2
  obtain ⟨hr2a, hr2b⟩ := hr2
  have q2 : w5.cell? ⟨gn, 2, none⟩ = some (.int .i64 n2) := by rw [← hn2]; exact hcells 2 (by omega)
  have q2b : ∀ o, (w5.alloc o).cell? ⟨gn, 2, none⟩ = some (.int .i64 n2) := fun o => pw_cell_below ((Below.refl _ _).alloc (Nat.le_refl _) _) q2
  have HN2 := Lib.hid hn2
  clear hn2
  have hrow : rI.M w5 B (fun k => w.heap.size ≤ k ∧ k < w5.heap.size) (ws.map numV) [.slice (some ⟨gn, 0, none⟩) ws.length cn] := by
    have h1 := R_mono (R_bound hrn) (ok' := fun k => w.heap.size ≤ k ∧ k < w5.heap.size) (fun k hk => ⟨Nat.le_trans HBEL.out.size hk.2.1, hk.2.2.1⟩)
    have h2 := ro_of_R (R_lower h1 (Nat.le_trans HPS.out.size HBEL.out.size))
    rwa [List.length_map] at h2
  obtain ⟨i0, hi0, hz0⟩ := info_int
  have hsl0 := cut_to (P := Tryd.prog) 33 3 .i64 under_ints hi0 (some ⟨gn, 0, none⟩) ws.length cn 2 (by omega) (by omega) hcn
  have hargs := ro_take hrow (m := 2) (by rw [List.length_map]; omega) 2 (Nat.le_refl _)
  have hsl : ∀ W : World, (Instr.slice 33 (.slice (some ⟨gn, 0, none⟩) ws.length cn) none (some (.int .i64 2)) none).run Tryd.prog W = .ok (.slice (some ⟨gn, 0, none⟩) 2 cn) W := hsl0
  clear hsl0
  have hmc : 2 ≤ cn := by omega
  have HCLIP := Aside0.mk (clip_calls (some ⟨gn, 0, none⟩) 2 cn hmc)
  clear hmc
  have hk6 := hk1.trans hk5
  have HK5 := Aside0.mk hk6
  have HARGS := Aside0.mk hargs
  have HE1 : Hid (errN 0 ws = errN 0 ws) := Lib.hid rfl
  obtain ⟨e1, he1⟩ : ∃ e1, errN 0 ws = e1 := ⟨_, rfl⟩
  rw [he1] at hb5
  have HB5 := Aside0.mk hb5
  have HE := Lib.hid he1
  clear hk1 hk5 hk6 hb5 hrn hcells hgn hargs he1 hnr
  rw [List.length_map]
  go_wp2
  go_region
  all_goals (go_wp2_with fail)
  go_wp2_with fail
  refine (HCLIP.out _).mono ?_
  rintro e w' ⟨rfl, rfl⟩
  go_wp2

  obtain ⟨wr, hwr⟩ : ∃ wr, (w5.alloc (.cells #[.int .i64 16, .int .i64 0, .int .i64 0, .slice (some ⟨gn, 0, none⟩) 2 2, .int .i32 n2] 46)).drew = wr := ⟨_, rfl⟩
  obtain ⟨gi, hgi⟩ : ∃ gi, w5.heap.size = gi := ⟨_, rfl⟩
  have hbel6 : Below w5.heap.size w5 wr := by rw [← hwr]; exact below_drew ((Below.refl _ _).alloc (Nat.le_refl _) _)
  have hxb : wr.heap[gi]? = some (.cells #[.int .i64 16, .int .i64 0, .int .i64 0, .slice (some ⟨gn, 0, none⟩) 2 2, .int .i32 n2] 46 (0, 0)) := by rw [← hwr, ← hgi]; exact heap_alloc_new w5 _
  rw [hwr, hgi]
  clear hwr hgi
  have hkp : KeepG g w wr := HK5.out.trans (KeepG.of_below hbel6)
  have L := HL0.out.keepG hkp (by rw [HV.out]; exact blk_below HB5.out hbel6)
  have hargs : rI.M wr B (fun k => w.heap.size ≤ k ∧ k < wr.heap.size) ((ws.map numV).take 2) [.slice (some ⟨gn, 0, none⟩) 2 2] := rI.M_mono (fun k hk => ⟨hk.1, Nat.lt_of_lt_of_le hk.2 hbel6.size⟩) (M_below HARGS.out hbel6)
  have hMp : kIns.M wr B (fun k => w.heap.size ≤ k ∧ k < wr.heap.size) ⟨16, 0, 0, (ws.map numV).take 2, n2⟩ [.int .i64 16, .int .i64 0, .int .i64 0, .slice (some ⟨gn, 0, none⟩) 2 2, .int .i32 n2] := kInsP_mkM wr B _ ⟨16, 0, 0, (ws.map numV).take 2, n2⟩ hargs
  have hmk : mkIns 16 (ws.map numV) = ⟨16, 0, 0, (ws.map numV).take 2, n2⟩ := by
    unfold mkIns
    rw [if_neg (by decide), if_neg (by decide), if_pos rfl, HN2.out]
  have HMK := Lib.hid hmk
  have HMP := Aside0.mk hMp
  have HL := Aside0.mk L
  obtain ⟨hcs, hfs⟩ := L.cells
  have c0 : wr.cell? ⟨gB, n * 6 + 1, none⟩ = some v1 := hcs 1 _ rfl
  have f0 : wr.frozen? ⟨gB, n * 6 + 1, none⟩ = false := hfs 1
  have x0 : wr.cell? ⟨gi, 0, none⟩ = some (.int .i64 16) := blk_cell hxb 0
  have x1 : wr.cell? ⟨gi, 1, none⟩ = some (.int .i64 0) := blk_cell hxb 1
  have x2 : wr.cell? ⟨gi, 2, none⟩ = some (.int .i64 0) := blk_cell hxb 2
  have x3 : wr.cell? ⟨gi, 3, none⟩ = some (.slice (some ⟨gn, 0, none⟩) 2 2) := blk_cell hxb 3
  have x4 : wr.cell? ⟨gi, 4, none⟩ = some (.int .i32 n2) := blk_cell hxb 4
  have HKP := Aside0.mk hkp
  have hnb : n + 1 ≤ 9223372036854775807 := L.max
  clear L hcs hfs hxb hkp hargs hMp hmk
  have hlast : Aside0 (∀ W : World, W.heap[g]? = wr.heap[g]? → Calls Tryd.prog 54 #[.pointer (some ⟨g, 0, none⟩)] W fun en w' => en = .returned (.pointer (some ⟨gB, n * 6, none⟩)) ∧ ∃ k, W.drewN k = w') := ⟨fun W hW => last_calls g gB n capB _ _ _ _ W hnb (hW.trans HL.out.blk)⟩
  have hgA : Aside0 (∀ m o, ((wr.drewN m).alloc o).heap[g]? = wr.heap[g]?) := ⟨fun m o => Below.heap_alloc (wr.drewN m) o g (blk_lt HL.out.blk)⟩
  have HA1 : Aside0 (∀ m, Below wr.heap.size wr ((wr.drewN m).alloc (.cells #[.int .i64 16, .int .i64 0, .int .i64 0, .slice (some ⟨gn, 0, none⟩) 2 2, .int .i32 n2] 46))) := ⟨fun m => (pw_below_drewN (Below.refl _ _) m).alloc (Nat.le_refl _) _⟩
  have HA2 : Aside0 (∀ m, ((wr.drewN m).alloc (.cells #[.int .i64 16, .int .i64 0, .int .i64 0, .slice (some ⟨gn, 0, none⟩) 2 2, .int .i32 n2] 46)).heap[wr.heap.size]? = some (.cells #[.int .i64 16, .int .i64 0, .int .i64 0, .slice (some ⟨gn, 0, none⟩) 2 2, .int .i32 n2] 46 (0, 0))) := ⟨fun m => heap_alloc_new (wr.drewN m) _⟩
  have hokp : ∀ k, (w.heap.size ≤ k ∧ k < wr.heap.size) → ok k ∧ some k ≠ v1.ownBlock := fun k hk => ⟨HL0.out.fresh k hk.1, fun e => by have := R_lt HL0.out.r1 k e.symm; omega⟩
  have HOKP := Aside0.mk hokp
  have hcap : (x.f1.length + 1) * 56 ≤ 140737488355328 := by omega
  have HCAP := Lib.hid hcap
  have h63 : x.f1.length + 1 ≤ 9223372036854775807 := by omega
  have H63 := Lib.hid h63
  clear hokp hcap h63
  have c0a : (wr.alloc (.cells #[.int .i64 16, .int .i64 0, .int .i64 0, .slice (some ⟨gn, 0, none⟩) 2 2, .int .i32 n2] 46)).cell? ⟨gB, n * 6 + 1, none⟩ = some v1 := pw_cell_below ((Below.refl _ _).alloc (Nat.le_refl _) _) c0
  have c0b : ∀ m, ((wr.drewN m).alloc (.cells #[.int .i64 16, .int .i64 0, .int .i64 0, .slice (some ⟨gn, 0, none⟩) 2 2, .int .i32 n2] 46)).cell? ⟨gB, n * 6 + 1, none⟩ = some v1 := fun m => pw_cell_below (w := wr.drewN m) ((Below.refl _ _).alloc (Nat.le_refl _) _) c0
  have HF7 : Aside0 (∀ w7, wr.grownBy w7 v1.ownBlock → w7.cell? ⟨gB, n * 6 + 1, none⟩ = some v1 ∧ w7.frozen? ⟨gB, n * 6 + 1, none⟩ = false ∧ w7.heap[g]? = wr.heap[g]?) := ⟨fun w7 hg7 => by
    obtain ⟨q1, q2, q3⟩ := HL.out.stands hg7 (fun k hk => ⟨HL.out.r1.1 k hk, fun e => R_ne HL.out.r1 HL.out.blk (by decide) (by rw [← e]; exact hk.symm)⟩)
    exact ⟨q1 _ _ c0, q2 _, q3⟩⟩
  have HEND : Aside0 (∀ A7 n7 c7 w7, kIns.R 46 w7 B ok (.slice A7 n7 c7) (x.f1 ++ [⟨16, 0, 0, (ws.map numV).take 2, n2⟩]) → wr.grownBy w7 v1.ownBlock →
      Stepped B g (if errN 0 ws = 0 then .ok ⟨st.params, onLast (fun b => ⟨b.f0, b.f1 ++ [mkIns 16 (ws.map numV)], b.f2⟩) st.blocks, st.at_⟩ else .error 71) w (w7.setCell ⟨gB, n * 6 + 1, none⟩ (.slice A7 n7 c7))) := ⟨fun A7 n7 c7 w7 hr7 hg7 => by
    rw [HMK.out]
    obtain ⟨p1, p2, p3⟩ := HL.out.afterIns (st' := ⟨st.params, onLast (fun b => ⟨b.f0, b.f1 ++ [⟨16, 0, 0, (ws.map numV).take 2, n2⟩], b.f2⟩) st.blocks, st.at_⟩) hg7 hr7 rfl rfl (by rw [← HX.out]; exact onLast_set (f := fun b => ⟨b.f0, b.f1 ++ [⟨16, 0, 0, (ws.map numV).take 2, n2⟩], b.f2⟩) HNL.out)
    refine ⟨(HKP.out.below HPS.out.base HPS.out.size).trans p2, (HKP.out.oth HB.out (by decide)).trans p3, ?_⟩
    rw [HE.out]
    exact out_of_err p1 (by have := HE.out; unfold errN at this; rw [if_pos rfl] at this; split at this <;> omega)⟩
  go_region_law (first
    | (refine R_append_far kIns (w := wr) B ?_ (.tmp 109) (.tmp 111) 47 46 (.agg #[.int .i64 0, .int .i64 0, .int .i64 0, .slice none 0 0, .int .i32 0]) 56 ?_ (by kernel_rfl) (by kernel_rfl) rfl (by decide) v1 x.f1 ⟨16, 0, 0, (ws.map numV).take 2, n2⟩ [.int .i64 16, .int .i64 0, .int .i64 0, .slice (some ⟨gn, 0, none⟩) 2 2, .int .i32 n2] ok (fun k => w.heap.size ≤ k ∧ k < wr.heap.size) ?_ ?_ HMP.out HOKP.out (fun k hk => HL.out.fresh k (Nat.le_trans HKP.out.size hk)) HL.out.r1 ?_ ?_ HL.out.size HCAP.out H63.out ?_; rfl; rfl; rfl; rfl; (first | exact HA1.out _ | exact pw_below_drewN (HA1.out _) _ | exact below_drew (HA1.out _)); (first | exact HA2.out _ | exact blk_drewN (HA2.out _) _); intro A7 n7 c7 w7 hr7 hg7; have HR7 := Aside0.mk hr7; have HG7 := Aside0.mk hg7; obtain ⟨c7', f7', g7'⟩ := HF7.out _ hg7; have G7 := Aside0.mk g7'; clear hr7 hg7 g7')
    | (go_simp; go_at_call 54; refine (hlast.out _ (by first | rfl | exact hgA.out _ _ | exact G7.out)).mono ?_; rintro e w8 ⟨rfl, kk, rfl⟩))
  all_goals
    go_end0
    refine ⟨rfl, ?_⟩
    first | exact HEND.out _ _ _ _ HR7.out HG7.out | exact (HEND.out _ _ _ _ HR7.out HG7.out).drewN _

end Go.Proofs.YtlmkhllippobaaaDoor.Ps
end
section
/- text.parser.ins, walked: Call. -/
set_option linter.unusedVariables false
set_option linter.unusedSimpArgs false
namespace Go.Proofs.YtlmkhllippobaaaDoor.Ps
open Go.RowKit Go.Proofs.YtlmkhllippobaaaDoorW.PrintWords Go.Proofs.YtlmkhllippobaaaDoorW.PrintWords.Kd Go.Proofs.YtlmkhllippobaaaDoorW.PrintMore Go.Proofs.YtlmkhllippobaaaDoorW.PrintMore.Kd Go.Proofs.YtlmkhllippobaaaDoor.Wl Go.Proofs.YtlmkhllippobaaaDoor.Tx Go.Proofs.YtlmkhllippobaaaDoor.Kd Go.Proofs.YtlmkhllippobaaaDoor.Kp Go.Proofs.YtlmkhllippobaaaDoor.Mp
attribute [local go_sem ↓] Go.wp_at_zero Go.wp_at_succ

set_option maxHeartbeats 8000000 in
set_option maxRecDepth 1000000 in
theorem insCallFew (B g : Nat) (A : Option Addr) (cap n : Nat) (st : St) (w : World) (hps : PS B g st 0 w) (hn : n ≤ 1099511627776) (h : n < 2) :
    Calls Tryd.prog 38 #[.pointer (some ⟨g, 0, none⟩), .int .i64 17, .slice A n cap] w fun e w' => e = .returned (.tuple #[]) ∧ Stepped B g (.error 70) w w' := by
  obtain ⟨v, hb, _⟩ := hps.ex
  have HB := Aside0.mk hb
  have HPS := Aside0.mk hps
  have h1 : ¬ (2 : Int) ≤ (n : Int) := by omega
  have h1b : (n : Int) < 2 := by omega
  clear hps hb h
  have hmm := fun (w : World) => run_makeMap (P := Tryd.prog) 115 w
  go_enter Tryd.func38, Tryd.ntmps38
  go_wp2_with (first
    | ((with_reducible refine at_insert ?_); refine wpList_insert_int rfl _ _ _ 115 rfl under_cm under_i _ _ _ _ rfl (by rfl) rfl rfl ?_)
    | ((with_reducible refine at_lookup_ ?_); refine wpList_lookup_of rfl _ _ 115 true rfl (.int .i64 17) w.heap.size rfl rfl _ (look_int_hit under_cm under_i (heap_alloc_new w _) 17 1 _ rfl) ?_))
  obtain ⟨W1, hW1⟩ : ∃ W1, (w.alloc (.map #[⟨.int .i64 1, .agg #[.int .i64 2, .int .i64 2], 0⟩, ⟨.int .i64 17, .agg #[.int .i64 2, .int .i64 6], 1⟩, ⟨.int .i64 18, .agg #[.int .i64 4, .int .i64 4], 2⟩] 3)).alloc (.cells #[.int .i64 2, .int .i64 6] 114) = W1 := ⟨_, rfl⟩
  have hbel : Below w.heap.size w W1 := by rw [← hW1]; exact ((Below.refl _ _).alloc (Nat.le_refl _) _).alloc (by simp) _
  rw [hW1]
  clear hW1
  have HBEL := Aside0.mk hbel
  have HB1 := Aside0.mk (blk_below HB.out hbel)
  clear hbel
  refine (must_no g _ _ _ _ 70 (.inl rfl) W1 HB1.out).mono ?_
  rintro e w' ⟨rfl, rfl⟩
  go_wp2
  refine bodyPost_ret (results_none rfl _ _ _) rfl ?_
  exact ⟨rfl, (HBEL.out.mono HPS.out.size).setCell (p := ⟨g, 3, none⟩) HPS.out.base _, (Oth.below HBEL.out).trans (Oth.set_ HB1.out (by decide) _ _), ⟨_, _, _, _, blk_put HB1.out 3 _ rfl⟩, .inl rfl⟩

set_option maxHeartbeats 8000000 in
set_option maxRecDepth 1000000 in
theorem insCallMany (B g : Nat) (A : Option Addr) (cap n : Nat) (st : St) (w : World) (hps : PS B g st 0 w) (hn : n ≤ 1099511627776) (h : 6 < n) :
    Calls Tryd.prog 38 #[.pointer (some ⟨g, 0, none⟩), .int .i64 17, .slice A n cap] w fun e w' => e = .returned (.tuple #[]) ∧ Stepped B g (.error 70) w w' := by
  obtain ⟨v, hb, _⟩ := hps.ex
  have HB := Aside0.mk hb
  have HPS := Aside0.mk hps
  have h1 : (2 : Int) ≤ (n : Int) := by omega
  have h2 : ¬ (n : Int) ≤ 6 := by omega
  have h2b : (6 : Int) < (n : Int) := by omega
  clear hps hb h
  have hmm := fun (w : World) => run_makeMap (P := Tryd.prog) 115 w
  go_enter Tryd.func38, Tryd.ntmps38
  go_wp2_with (first
    | ((with_reducible refine at_insert ?_); refine wpList_insert_int rfl _ _ _ 115 rfl under_cm under_i _ _ _ _ rfl (by rfl) rfl rfl ?_)
    | ((with_reducible refine at_lookup_ ?_); refine wpList_lookup_of rfl _ _ 115 true rfl (.int .i64 17) w.heap.size rfl rfl _ (look_int_hit under_cm under_i (heap_alloc_new w _) 17 1 _ rfl) ?_))
  obtain ⟨W1, hW1⟩ : ∃ W1, (w.alloc (.map #[⟨.int .i64 1, .agg #[.int .i64 2, .int .i64 2], 0⟩, ⟨.int .i64 17, .agg #[.int .i64 2, .int .i64 6], 1⟩, ⟨.int .i64 18, .agg #[.int .i64 4, .int .i64 4], 2⟩] 3)).alloc (.cells #[.int .i64 2, .int .i64 6] 114) = W1 := ⟨_, rfl⟩
  have hbel : Below w.heap.size w W1 := by rw [← hW1]; exact ((Below.refl _ _).alloc (Nat.le_refl _) _).alloc (by simp) _
  rw [hW1]
  clear hW1
  have HBEL := Aside0.mk hbel
  have HB1 := Aside0.mk (blk_below HB.out hbel)
  clear hbel
  refine (must_no g _ _ _ _ 70 (.inl rfl) W1 HB1.out).mono ?_
  rintro e w' ⟨rfl, rfl⟩
  go_wp2
  refine bodyPost_ret (results_none rfl _ _ _) rfl ?_
  exact ⟨rfl, (HBEL.out.mono HPS.out.size).setCell (p := ⟨g, 3, none⟩) HPS.out.base _, (Oth.below HBEL.out).trans (Oth.set_ HB1.out (by decide) _ _), ⟨_, _, _, _, blk_put HB1.out 3 _ rfl⟩, .inl rfl⟩

set_option maxHeartbeats 16000000 in
set_option maxRecDepth 1000000 in
theorem insCall (B g : Nat) (A : Option Addr) (cap : Nat) (ws : List ByteArray) (st : St) (w : World) (HG : Aside0 (∀ w', Below B w w' → LaidP w')) (hps : PS B g st 0 w) (hr : RdS w A ws)
    (hw : Aside0 (∀ s ∈ ws, s.size < 4294967281)) (hn : st.blocks ≠ []) (hm : ∀ b ∈ st.blocks, b.f1.length ≤ 1099511627776) (hla : 2 ≤ ws.length) (hlb : ws.length ≤ 6) :
    Calls Tryd.prog 38 #[.pointer (some ⟨g, 0, none⟩), .int .i64 17, .slice A ws.length cap] w fun e w' => e = .returned (.tuple #[]) ∧ Stepped B g (if errN 0 ws = 0 then .ok ⟨st.params, onLast (fun b => ⟨b.f0, b.f1 ++ [mkIns 17 (ws.map numV)], b.f2⟩) st.blocks, st.at_⟩ else .error 71) w w' := by
  obtain ⟨n, hnl⟩ : ∃ n, st.blocks.length = n + 1 := ⟨st.blocks.length - 1, by
    cases hh : st.blocks with
    | nil => exact absurd hh hn
    | cons _ _ => simp⟩
  obtain ⟨gB, capB, ok, v0, v1, v3, v4, L⟩ := hps.lend hnl
  obtain ⟨x, hx⟩ : ∃ x, st.blocks.getD n zBlock = x := ⟨_, rfl⟩
  rw [hx] at L
  have hxm : x.f1.length ≤ 1099511627776 := hm x (by rw [← hx, List.getD_eq_getElem?_getD, List.getElem?_eq_getElem (by omega)]; exact List.getElem_mem _)
  have HX := Lib.hid hx
  have HL0 := Aside0.mk L
  have HNL := Lib.hid hnl
  obtain ⟨v, hv⟩ : ∃ v, Value.slice (some ⟨gB, 0, none⟩) (n + 1) capB = v := ⟨_, rfl⟩
  have hb : w.heap[g]? = some (.cells (pcells st v 0) 57 (0, 0)) := by rw [← hv]; exact L.blk
  have HV := Lib.hid hv
  have HB := Aside0.mk hb
  have hlt := blk_lt hb
  have HPS := Aside0.mk hps
  have HR := Aside0.mk hr
  have hl1 : (2 : Int) ≤ (ws.length : Int) := by omega
  have hl2 : (ws.length : Int) ≤ 6 := by omega
  clear hx L hnl hv hb hps hr hn hm
  have hmm := fun (w : World) => run_makeMap (P := Tryd.prog) 115 w
  go_enter Tryd.func38, Tryd.ntmps38
  go_wp2_with (first
    | ((with_reducible refine at_insert ?_); refine wpList_insert_int rfl _ _ _ 115 rfl under_cm under_i _ _ _ _ rfl (by rfl) rfl rfl ?_)
    | ((with_reducible refine at_lookup_ ?_); refine wpList_lookup_of rfl _ _ 115 true rfl (.int .i64 17) w.heap.size rfl rfl _ (look_int_hit under_cm under_i (heap_alloc_new w _) 17 1 _ rfl) ?_))
  obtain ⟨W1, hW1⟩ : ∃ W1, (w.alloc (.map #[⟨.int .i64 1, .agg #[.int .i64 2, .int .i64 2], 0⟩, ⟨.int .i64 17, .agg #[.int .i64 2, .int .i64 6], 1⟩, ⟨.int .i64 18, .agg #[.int .i64 4, .int .i64 4], 2⟩] 3)).alloc (.cells #[.int .i64 2, .int .i64 6] 114) = W1 := ⟨_, rfl⟩
  have hbel : Below w.heap.size w W1 := by rw [← hW1]; exact ((Below.refl _ _).alloc (Nat.le_refl _) _).alloc (by simp) _
  rw [hW1]
  clear hW1
  have HBEL := Aside0.mk hbel
  have HB1 := Aside0.mk (blk_below HB.out hbel)
  clear hbel
  refine (must_yes g _ _ _ _ 70 W1 HB1.out).mono ?_
  rintro e w' ⟨rfl, rfl⟩
  go_wp2_with fail
  have hk1 := KeepG.of_below (g := g) HBEL.out
  refine (nums_calls B g A cap ws _ _ _ _ 0 W1 ⟨fun w' h => (HG.out w' ((hk1.below HPS.out.base HPS.out.size).trans h)).l.t⟩ HPS.out.base (Nat.le_trans HPS.out.size hk1.size) (.inl rfl) HB1.out (HR.out.below HBEL.out) ⟨fun s hs => by
    have := hw.out s hs
    omega⟩ (by omega)).mono ?_
  rintro e w5 ⟨vn, rfl, hrn, hb5, hk5⟩
  obtain ⟨gn, cn, rfl, hcn, hgn, hcells⟩ := ints_at hrn (by rw [List.length_map]; omega)
  rw [List.length_map] at hcn hcells
  have hnr : ∀ j, -2147483648 ≤ (ws.map numV).getD j 0 ∧ (ws.map numV).getD j 0 ≤ 2147483647 := numsV_range ws
  obtain ⟨n0, hn0⟩ : ∃ n0, (ws.map numV).getD 0 0 = n0 := ⟨_, rfl⟩
  have hr0 := hnr 0
  rw [hn0] at hr0
  obtain ⟨hr0a, hr0b⟩ := hr0
  have q0 : w5.cell? ⟨gn, 0, none⟩ = some (.int .i64 n0) := by rw [← hn0]; exact hcells 0 (by omega)
  have q0b : ∀ o, (w5.alloc o).cell? ⟨gn, 0, none⟩ = some (.int .i64 n0) := fun o => pw_cell_below ((Below.refl _ _).alloc (Nat.le_refl _) _) q0
  have HN0 := Lib.hid hn0
  clear hn0
  obtain ⟨n1, hn1⟩ : ∃ n1, (ws.map numV).getD 1 0 = n1 := ⟨_, rfl⟩
  have hr1 := hnr 1
  rw [hn1] at hr1
  obtain ⟨hr1a, hr1b⟩ := hr1
  have q1 : w5.cell? ⟨gn, 1, none⟩ = some (.int .i64 n1) := by rw [← hn1]; exact hcells 1 (by omega)
  have q1b : ∀ o, (w5.alloc o).cell? ⟨gn, 1, none⟩ = some (.int .i64 n1) := fun o => pw_cell_below ((Below.refl _ _).alloc (Nat.le_refl _) _) q1
  have HN1 := Lib.hid hn1
  clear hn1
  have hrow : rI.M w5 B (fun k => w.heap.size ≤ k ∧ k < w5.heap.size) (ws.map numV) [.slice (some ⟨gn, 0, none⟩) ws.length cn] := by
    have h1 := R_mono (R_bound hrn) (ok' := fun k => w.heap.size ≤ k ∧ k < w5.heap.size) (fun k hk => ⟨Nat.le_trans HBEL.out.size hk.2.1, hk.2.2.1⟩)
    have h2 := ro_of_R (R_lower h1 (Nat.le_trans HPS.out.size HBEL.out.size))
    rwa [List.length_map] at h2
  obtain ⟨i0, hi0, hz0⟩ := info_int
  have hsl0 := cut_from (P := Tryd.prog) 33 3 .i64 under_ints hi0 1 hz0 (some ⟨gn, 0, none⟩) ws.length cn 2 (by omega) (by omega)
  have hargs := ro_drop (m := 2) hrow (by rw [List.length_map]; omega)
  obtain ⟨A1, hA1⟩ : ∃ A1, (if cn = 2 then (some ⟨gn, 0, none⟩ : Option Addr) else (some ⟨gn, 0, none⟩ : Option Addr).map (·.add (2 * 1))) = A1 := ⟨_, rfl⟩
  have hargs : rI.M w5 B (fun k => w.heap.size ≤ k ∧ k < w5.heap.size) ((ws.map numV).drop 2) [.slice A1 (ws.length - 2) (cn - 2)] := by rw [← hA1]; exact hargs
  have hargs := ro_take hargs (m := ws.length - 2) (by rw [List.length_drop, List.length_map]; omega) (ws.length - 2) (Nat.le_refl _)
  rw [List.take_of_length_le (by rw [List.length_drop, List.length_map]; omega)] at hargs
  have hsl : ∀ W : World, (Instr.slice 33 (.slice (some ⟨gn, 0, none⟩) ws.length cn) (some (.int .i64 2)) none none).run Tryd.prog W = .ok (.slice A1 (ws.length - 2) (cn - 2)) W := fun W => by rw [hsl0 W, ← hA1]; rfl
  clear hsl0
  obtain ⟨m1, hm1⟩ : ∃ m1, ws.length - 2 = m1 := ⟨_, rfl⟩
  obtain ⟨c1, hc1⟩ : ∃ c1, cn - 2 = c1 := ⟨_, rfl⟩
  have hmc : m1 ≤ c1 := by omega
  rw [hm1] at hargs
  rw [hm1, hc1] at hsl
  have HCLIP := Aside0.mk (clip_calls A1 m1 c1 hmc)
  clear hA1 hm1 hc1 hmc
  have hk6 := hk1.trans hk5
  have HK5 := Aside0.mk hk6
  have HARGS := Aside0.mk hargs
  have HE1 : Hid (errN 0 ws = errN 0 ws) := Lib.hid rfl
  obtain ⟨e1, he1⟩ : ∃ e1, errN 0 ws = e1 := ⟨_, rfl⟩
  rw [he1] at hb5
  have HB5 := Aside0.mk hb5
  have HE := Lib.hid he1
  clear hk1 hk5 hk6 hb5 hrn hcells hgn hargs he1 hnr
  rw [List.length_map]
  go_wp2
  go_region
  all_goals (go_wp2_with fail)
  go_wp2_with fail
  refine (HCLIP.out _).mono ?_
  rintro e w' ⟨rfl, rfl⟩
  go_wp2

  obtain ⟨wr, hwr⟩ : ∃ wr, (w5.alloc (.cells #[.int .i64 17, .int .i64 n0, .int .i64 0, .slice A1 m1 m1, .int .i32 n1] 46)).drew = wr := ⟨_, rfl⟩
  obtain ⟨gi, hgi⟩ : ∃ gi, w5.heap.size = gi := ⟨_, rfl⟩
  have hbel6 : Below w5.heap.size w5 wr := by rw [← hwr]; exact below_drew ((Below.refl _ _).alloc (Nat.le_refl _) _)
  have hxb : wr.heap[gi]? = some (.cells #[.int .i64 17, .int .i64 n0, .int .i64 0, .slice A1 m1 m1, .int .i32 n1] 46 (0, 0)) := by rw [← hwr, ← hgi]; exact heap_alloc_new w5 _
  rw [hwr, hgi]
  clear hwr hgi
  have hkp : KeepG g w wr := HK5.out.trans (KeepG.of_below hbel6)
  have L := HL0.out.keepG hkp (by rw [HV.out]; exact blk_below HB5.out hbel6)
  have hargs : rI.M wr B (fun k => w.heap.size ≤ k ∧ k < wr.heap.size) ((ws.map numV).drop 2) [.slice A1 m1 m1] := rI.M_mono (fun k hk => ⟨hk.1, Nat.lt_of_lt_of_le hk.2 hbel6.size⟩) (M_below HARGS.out hbel6)
  have hMp : kIns.M wr B (fun k => w.heap.size ≤ k ∧ k < wr.heap.size) ⟨17, n0, 0, (ws.map numV).drop 2, n1⟩ [.int .i64 17, .int .i64 n0, .int .i64 0, .slice A1 m1 m1, .int .i32 n1] := kInsP_mkM wr B _ ⟨17, n0, 0, (ws.map numV).drop 2, n1⟩ hargs
  have hmk : mkIns 17 (ws.map numV) = ⟨17, n0, 0, (ws.map numV).drop 2, n1⟩ := by
    unfold mkIns
    rw [if_neg (by decide), if_neg (by decide), if_neg (by decide), if_pos rfl, HN0.out, HN1.out]
  have HMK := Lib.hid hmk
  have HMP := Aside0.mk hMp
  have HL := Aside0.mk L
  obtain ⟨hcs, hfs⟩ := L.cells
  have c0 : wr.cell? ⟨gB, n * 6 + 1, none⟩ = some v1 := hcs 1 _ rfl
  have f0 : wr.frozen? ⟨gB, n * 6 + 1, none⟩ = false := hfs 1
  have x0 : wr.cell? ⟨gi, 0, none⟩ = some (.int .i64 17) := blk_cell hxb 0
  have x1 : wr.cell? ⟨gi, 1, none⟩ = some (.int .i64 n0) := blk_cell hxb 1
  have x2 : wr.cell? ⟨gi, 2, none⟩ = some (.int .i64 0) := blk_cell hxb 2
  have x3 : wr.cell? ⟨gi, 3, none⟩ = some (.slice A1 m1 m1) := blk_cell hxb 3
  have x4 : wr.cell? ⟨gi, 4, none⟩ = some (.int .i32 n1) := blk_cell hxb 4
  have HKP := Aside0.mk hkp
  have hnb : n + 1 ≤ 9223372036854775807 := L.max
  clear L hcs hfs hxb hkp hargs hMp hmk
  have hlast : Aside0 (∀ W : World, W.heap[g]? = wr.heap[g]? → Calls Tryd.prog 54 #[.pointer (some ⟨g, 0, none⟩)] W fun en w' => en = .returned (.pointer (some ⟨gB, n * 6, none⟩)) ∧ ∃ k, W.drewN k = w') := ⟨fun W hW => last_calls g gB n capB _ _ _ _ W hnb (hW.trans HL.out.blk)⟩
  have hgA : Aside0 (∀ m o, ((wr.drewN m).alloc o).heap[g]? = wr.heap[g]?) := ⟨fun m o => Below.heap_alloc (wr.drewN m) o g (blk_lt HL.out.blk)⟩
  have HA1 : Aside0 (∀ m, Below wr.heap.size wr ((wr.drewN m).alloc (.cells #[.int .i64 17, .int .i64 n0, .int .i64 0, .slice A1 m1 m1, .int .i32 n1] 46))) := ⟨fun m => (pw_below_drewN (Below.refl _ _) m).alloc (Nat.le_refl _) _⟩
  have HA2 : Aside0 (∀ m, ((wr.drewN m).alloc (.cells #[.int .i64 17, .int .i64 n0, .int .i64 0, .slice A1 m1 m1, .int .i32 n1] 46)).heap[wr.heap.size]? = some (.cells #[.int .i64 17, .int .i64 n0, .int .i64 0, .slice A1 m1 m1, .int .i32 n1] 46 (0, 0))) := ⟨fun m => heap_alloc_new (wr.drewN m) _⟩
  have hokp : ∀ k, (w.heap.size ≤ k ∧ k < wr.heap.size) → ok k ∧ some k ≠ v1.ownBlock := fun k hk => ⟨HL0.out.fresh k hk.1, fun e => by have := R_lt HL0.out.r1 k e.symm; omega⟩
  have HOKP := Aside0.mk hokp
  have hcap : (x.f1.length + 1) * 56 ≤ 140737488355328 := by omega
  have HCAP := Lib.hid hcap
  have h63 : x.f1.length + 1 ≤ 9223372036854775807 := by omega
  have H63 := Lib.hid h63
  clear hokp hcap h63
  have c0a : (wr.alloc (.cells #[.int .i64 17, .int .i64 n0, .int .i64 0, .slice A1 m1 m1, .int .i32 n1] 46)).cell? ⟨gB, n * 6 + 1, none⟩ = some v1 := pw_cell_below ((Below.refl _ _).alloc (Nat.le_refl _) _) c0
  have c0b : ∀ m, ((wr.drewN m).alloc (.cells #[.int .i64 17, .int .i64 n0, .int .i64 0, .slice A1 m1 m1, .int .i32 n1] 46)).cell? ⟨gB, n * 6 + 1, none⟩ = some v1 := fun m => pw_cell_below (w := wr.drewN m) ((Below.refl _ _).alloc (Nat.le_refl _) _) c0
  have HF7 : Aside0 (∀ w7, wr.grownBy w7 v1.ownBlock → w7.cell? ⟨gB, n * 6 + 1, none⟩ = some v1 ∧ w7.frozen? ⟨gB, n * 6 + 1, none⟩ = false ∧ w7.heap[g]? = wr.heap[g]?) := ⟨fun w7 hg7 => by
    obtain ⟨q1, q2, q3⟩ := HL.out.stands hg7 (fun k hk => ⟨HL.out.r1.1 k hk, fun e => R_ne HL.out.r1 HL.out.blk (by decide) (by rw [← e]; exact hk.symm)⟩)
    exact ⟨q1 _ _ c0, q2 _, q3⟩⟩
  have HEND : Aside0 (∀ A7 n7 c7 w7, kIns.R 46 w7 B ok (.slice A7 n7 c7) (x.f1 ++ [⟨17, n0, 0, (ws.map numV).drop 2, n1⟩]) → wr.grownBy w7 v1.ownBlock →
      Stepped B g (if errN 0 ws = 0 then .ok ⟨st.params, onLast (fun b => ⟨b.f0, b.f1 ++ [mkIns 17 (ws.map numV)], b.f2⟩) st.blocks, st.at_⟩ else .error 71) w (w7.setCell ⟨gB, n * 6 + 1, none⟩ (.slice A7 n7 c7))) := ⟨fun A7 n7 c7 w7 hr7 hg7 => by
    rw [HMK.out]
    obtain ⟨p1, p2, p3⟩ := HL.out.afterIns (st' := ⟨st.params, onLast (fun b => ⟨b.f0, b.f1 ++ [⟨17, n0, 0, (ws.map numV).drop 2, n1⟩], b.f2⟩) st.blocks, st.at_⟩) hg7 hr7 rfl rfl (by rw [← HX.out]; exact onLast_set (f := fun b => ⟨b.f0, b.f1 ++ [⟨17, n0, 0, (ws.map numV).drop 2, n1⟩], b.f2⟩) HNL.out)
    refine ⟨(HKP.out.below HPS.out.base HPS.out.size).trans p2, (HKP.out.oth HB.out (by decide)).trans p3, ?_⟩
    rw [HE.out]
    exact out_of_err p1 (by have := HE.out; unfold errN at this; rw [if_pos rfl] at this; split at this <;> omega)⟩
  go_region_law (first
    | (refine R_append_far kIns (w := wr) B ?_ (.tmp 109) (.tmp 111) 47 46 (.agg #[.int .i64 0, .int .i64 0, .int .i64 0, .slice none 0 0, .int .i32 0]) 56 ?_ (by kernel_rfl) (by kernel_rfl) rfl (by decide) v1 x.f1 ⟨17, n0, 0, (ws.map numV).drop 2, n1⟩ [.int .i64 17, .int .i64 n0, .int .i64 0, .slice A1 m1 m1, .int .i32 n1] ok (fun k => w.heap.size ≤ k ∧ k < wr.heap.size) ?_ ?_ HMP.out HOKP.out (fun k hk => HL.out.fresh k (Nat.le_trans HKP.out.size hk)) HL.out.r1 ?_ ?_ HL.out.size HCAP.out H63.out ?_; rfl; rfl; rfl; rfl; (first | exact HA1.out _ | exact pw_below_drewN (HA1.out _) _ | exact below_drew (HA1.out _)); (first | exact HA2.out _ | exact blk_drewN (HA2.out _) _); intro A7 n7 c7 w7 hr7 hg7; have HR7 := Aside0.mk hr7; have HG7 := Aside0.mk hg7; obtain ⟨c7', f7', g7'⟩ := HF7.out _ hg7; have G7 := Aside0.mk g7'; clear hr7 hg7 g7')
    | (go_simp; go_at_call 54; refine (hlast.out _ (by first | rfl | exact hgA.out _ _ | exact G7.out)).mono ?_; rintro e w8 ⟨rfl, kk, rfl⟩))
  all_goals
    go_end0
    refine ⟨rfl, ?_⟩
    first | exact HEND.out _ _ _ _ HR7.out HG7.out | exact (HEND.out _ _ _ _ HR7.out HG7.out).drewN _

end Go.Proofs.YtlmkhllippobaaaDoor.Ps
end
