/- Parts of the proof, one behind the other: PtBranch, PtSwitch, PtRet, PtTrap. -/
import Derived.Test.YtlmkhllippobaaaDoorG07
section
/- text.parser.term, walked: Branch. -/
set_option linter.unusedVariables false
set_option linter.unusedSimpArgs false
namespace Go.Proofs.YtlmkhllippobaaaDoor.Ps
open Go.RowKit Go.Proofs.YtlmkhllippobaaaDoorW.PrintWords Go.Proofs.YtlmkhllippobaaaDoorW.PrintWords.Kd Go.Proofs.YtlmkhllippobaaaDoorW.PrintMore Go.Proofs.YtlmkhllippobaaaDoorW.PrintMore.Kd Go.Proofs.YtlmkhllippobaaaDoor.Wl Go.Proofs.YtlmkhllippobaaaDoor.Tx Go.Proofs.YtlmkhllippobaaaDoor.Kd Go.Proofs.YtlmkhllippobaaaDoor.Kp Go.Proofs.YtlmkhllippobaaaDoor.Mp
attribute [local go_sem ↓] Go.wp_at_zero Go.wp_at_succ

set_option maxHeartbeats 8000000 in
set_option maxRecDepth 1000000 in
theorem termBranchFew (B g : Nat) (A : Option Addr) (cap n : Nat) (st : St) (w : World) (hps : PS B g st 0 w) (hn : n ≤ 1099511627776) (h : n < 3) :
    Calls Tryd.prog 39 #[.pointer (some ⟨g, 0, none⟩), .int .i64 2, .slice A n cap] w fun e w' => e = .returned (.tuple #[]) ∧ Stepped B g (.error 70) w w' := by
  obtain ⟨v, hb, _⟩ := hps.ex
  have HB := Aside0.mk hb
  have HPS := Aside0.mk hps
  have h1 : ¬ (3 : Int) ≤ (n : Int) := by omega
  have h1b : (n : Int) < 3 := by omega
  clear hps hb h
  have hmm := fun (w : World) => run_makeMap (P := Tryd.prog) 115 w
  go_enter Tryd.func39, Tryd.ntmps39
  go_wp2_with (first
    | ((with_reducible refine at_insert ?_); refine wpList_insert_int rfl _ _ _ 115 rfl under_cm under_i _ _ _ _ rfl (by rfl) rfl rfl ?_)
    | ((with_reducible refine at_lookup_ ?_); refine wpList_lookup_of rfl _ _ 115 false rfl (.int .i64 2) w.heap.size rfl rfl _ (look_int_hit1 under_cm under_i (heap_alloc_new w _) 2 1 _ rfl) ?_))
  obtain ⟨W1, hW1⟩ : ∃ W1, (w.alloc (.map #[⟨.int .i64 1, .agg #[.int .i64 1, .int .i64 1], 0⟩, ⟨.int .i64 2, .agg #[.int .i64 3, .int .i64 3], 1⟩, ⟨.int .i64 3, .agg #[.int .i64 2, .int .i64 (n : Nat)], 2⟩, ⟨.int .i64 4, .agg #[.int .i64 0, .int .i64 1], 3⟩, ⟨.int .i64 5, .agg #[.int .i64 1, .int .i64 1], 4⟩] 5)).alloc (.cells #[.int .i64 3, .int .i64 3] 114) = W1 := ⟨_, rfl⟩
  have hbel : Below w.heap.size w W1 := by rw [← hW1]; exact ((Below.refl _ _).alloc (Nat.le_refl _) _).alloc (by simp) _
  rw [hW1]
  clear hW1
  have HBEL := Aside0.mk hbel
  have HB1 := Aside0.mk (blk_below HB.out hbel)
  clear hbel
  refine (must_no g _ _ _ _ 70 (.inl rfl) W1 HB1.out).mono ?_
  rintro e w' ⟨rfl, rfl⟩
  go_wp2
  refine bodyPost_ret (results_none rfl _ _ _) rfl ?_
  exact ⟨rfl, (HBEL.out.mono HPS.out.size).setCell (p := ⟨g, 3, none⟩) HPS.out.base _, (Oth.below HBEL.out).trans (Oth.set_ HB1.out (by decide) _ _), ⟨_, _, _, _, blk_put HB1.out 3 _ rfl⟩, .inl rfl⟩

set_option maxHeartbeats 8000000 in
set_option maxRecDepth 1000000 in
theorem termBranchMany (B g : Nat) (A : Option Addr) (cap n : Nat) (st : St) (w : World) (hps : PS B g st 0 w) (hn : n ≤ 1099511627776) (h : 3 < n) :
    Calls Tryd.prog 39 #[.pointer (some ⟨g, 0, none⟩), .int .i64 2, .slice A n cap] w fun e w' => e = .returned (.tuple #[]) ∧ Stepped B g (.error 70) w w' := by
  obtain ⟨v, hb, _⟩ := hps.ex
  have HB := Aside0.mk hb
  have HPS := Aside0.mk hps
  have h1 : (3 : Int) ≤ (n : Int) := by omega
  have h2 : ¬ (n : Int) ≤ 3 := by omega
  have h2b : (3 : Int) < (n : Int) := by omega
  clear hps hb h
  have hmm := fun (w : World) => run_makeMap (P := Tryd.prog) 115 w
  go_enter Tryd.func39, Tryd.ntmps39
  go_wp2_with (first
    | ((with_reducible refine at_insert ?_); refine wpList_insert_int rfl _ _ _ 115 rfl under_cm under_i _ _ _ _ rfl (by rfl) rfl rfl ?_)
    | ((with_reducible refine at_lookup_ ?_); refine wpList_lookup_of rfl _ _ 115 false rfl (.int .i64 2) w.heap.size rfl rfl _ (look_int_hit1 under_cm under_i (heap_alloc_new w _) 2 1 _ rfl) ?_))
  obtain ⟨W1, hW1⟩ : ∃ W1, (w.alloc (.map #[⟨.int .i64 1, .agg #[.int .i64 1, .int .i64 1], 0⟩, ⟨.int .i64 2, .agg #[.int .i64 3, .int .i64 3], 1⟩, ⟨.int .i64 3, .agg #[.int .i64 2, .int .i64 (n : Nat)], 2⟩, ⟨.int .i64 4, .agg #[.int .i64 0, .int .i64 1], 3⟩, ⟨.int .i64 5, .agg #[.int .i64 1, .int .i64 1], 4⟩] 5)).alloc (.cells #[.int .i64 3, .int .i64 3] 114) = W1 := ⟨_, rfl⟩
  have hbel : Below w.heap.size w W1 := by rw [← hW1]; exact ((Below.refl _ _).alloc (Nat.le_refl _) _).alloc (by simp) _
  rw [hW1]
  clear hW1
  have HBEL := Aside0.mk hbel
  have HB1 := Aside0.mk (blk_below HB.out hbel)
  clear hbel
  refine (must_no g _ _ _ _ 70 (.inl rfl) W1 HB1.out).mono ?_
  rintro e w' ⟨rfl, rfl⟩
  go_wp2
  refine bodyPost_ret (results_none rfl _ _ _) rfl ?_
  exact ⟨rfl, (HBEL.out.mono HPS.out.size).setCell (p := ⟨g, 3, none⟩) HPS.out.base _, (Oth.below HBEL.out).trans (Oth.set_ HB1.out (by decide) _ _), ⟨_, _, _, _, blk_put HB1.out 3 _ rfl⟩, .inl rfl⟩

set_option maxHeartbeats 16000000 in
set_option maxRecDepth 1000000 in
theorem termBranch (B g : Nat) (A : Option Addr) (cap : Nat) (ws : List ByteArray) (st : St) (w : World) (HG : Aside0 (∀ w', Below B w w' → LaidP w')) (hps : PS B g st 0 w) (hr : RdS w A ws)
    (hw : Aside0 (∀ s ∈ ws, s.size < 4294967281)) (hn : st.blocks ≠ []) (hla : 3 ≤ ws.length) (hlb : ws.length ≤ 3) :
    Calls Tryd.prog 39 #[.pointer (some ⟨g, 0, none⟩), .int .i64 2, .slice A ws.length cap] w fun e w' => e = .returned (.tuple #[]) ∧ Stepped B g (if errN 0 ws = 0 then .ok ⟨st.params, onLast (fun b => ⟨b.f0, b.f1, mkTerm 2 (ws.map numV)⟩) st.blocks, st.at_⟩ else .error 71) w w' := by
  obtain ⟨n, hnl⟩ : ∃ n, st.blocks.length = n + 1 := ⟨st.blocks.length - 1, by
    cases hh : st.blocks with
    | nil => exact absurd hh hn
    | cons _ _ => simp⟩
  obtain ⟨gB, capB, ok, v0, v1, v3, v4, L⟩ := hps.lend hnl
  obtain ⟨x, hx⟩ : ∃ x, st.blocks.getD n zBlock = x := ⟨_, rfl⟩
  rw [hx] at L
  have HX := Lib.hid hx
  have HL0 := Aside0.mk L
  have HNL := Lib.hid hnl
  obtain ⟨v, hv⟩ : ∃ v, Value.slice (some ⟨gB, 0, none⟩) (n + 1) capB = v := ⟨_, rfl⟩
  have hb : w.heap[g]? = some (.cells (pcells st v 0) 57 (0, 0)) := by rw [← hv]; exact L.blk
  have HV := Lib.hid hv
  have HB := Aside0.mk hb
  have hlt := blk_lt hb
  have HPS := Aside0.mk hps
  have HR := Aside0.mk hr
  have hl1 : (3 : Int) ≤ (ws.length : Int) := by omega
  have hl2 : (ws.length : Int) ≤ 3 := by omega
  clear hx L hnl hv hb hps hr hn
  have hmm := fun (w : World) => run_makeMap (P := Tryd.prog) 115 w
  go_enter Tryd.func39, Tryd.ntmps39
  go_wp2_with (first
    | ((with_reducible refine at_insert ?_); refine wpList_insert_int rfl _ _ _ 115 rfl under_cm under_i _ _ _ _ rfl (by rfl) rfl rfl ?_)
    | ((with_reducible refine at_lookup_ ?_); refine wpList_lookup_of rfl _ _ 115 false rfl (.int .i64 2) w.heap.size rfl rfl _ (look_int_hit1 under_cm under_i (heap_alloc_new w _) 2 1 _ rfl) ?_))
  obtain ⟨W1, hW1⟩ : ∃ W1, (w.alloc (.map #[⟨.int .i64 1, .agg #[.int .i64 1, .int .i64 1], 0⟩, ⟨.int .i64 2, .agg #[.int .i64 3, .int .i64 3], 1⟩, ⟨.int .i64 3, .agg #[.int .i64 2, .int .i64 (ws.length : Nat)], 2⟩, ⟨.int .i64 4, .agg #[.int .i64 0, .int .i64 1], 3⟩, ⟨.int .i64 5, .agg #[.int .i64 1, .int .i64 1], 4⟩] 5)).alloc (.cells #[.int .i64 3, .int .i64 3] 114) = W1 := ⟨_, rfl⟩
  have hbel : Below w.heap.size w W1 := by rw [← hW1]; exact ((Below.refl _ _).alloc (Nat.le_refl _) _).alloc (by simp) _
  rw [hW1]
  clear hW1
  have HBEL := Aside0.mk hbel
  have HB1 := Aside0.mk (blk_below HB.out hbel)
  clear hbel
  refine (must_yes g _ _ _ _ 70 W1 HB1.out).mono ?_
  rintro e w' ⟨rfl, rfl⟩
  go_wp2_with fail
  have hk1 := KeepG.of_below (g := g) HBEL.out
  refine (nums_calls B g A cap ws _ _ _ _ 0 W1 ⟨fun w' h => (HG.out w' ((hk1.below HPS.out.base HPS.out.size).trans h)).l.t⟩ HPS.out.base (Nat.le_trans HPS.out.size hk1.size) (.inl rfl) HB1.out (HR.out.below HBEL.out) ⟨fun s hs => by
    have := hw.out s hs
    omega⟩ (by omega)).mono ?_
  rintro e w5 ⟨vn, rfl, hrn, hb5, hk5⟩
  obtain ⟨gn, cn, rfl, hcn, hgn, hcells⟩ := ints_at hrn (by rw [List.length_map]; omega)
  rw [List.length_map] at hcn hcells
  have hrow : rI.M w5 B (fun k => w.heap.size ≤ k ∧ k < w5.heap.size) (ws.map numV) [.slice (some ⟨gn, 0, none⟩) ws.length cn] := by
    have h1 := R_mono (R_bound hrn) (ok' := fun k => w.heap.size ≤ k ∧ k < w5.heap.size) (fun k hk => ⟨Nat.le_trans HBEL.out.size hk.2.1, hk.2.2.1⟩)
    have h2 := ro_of_R (R_lower h1 (Nat.le_trans HPS.out.size HBEL.out.size))
    rwa [List.length_map] at h2
  obtain ⟨i0, hi0, hz0⟩ := info_int
  have hsl0 := cut_from (P := Tryd.prog) 33 3 .i64 under_ints hi0 1 hz0 (some ⟨gn, 0, none⟩) ws.length cn 1 (by omega) (by omega)
  have hto := ro_drop (m := 1) hrow (by rw [List.length_map]; omega)
  have harg := ro_take (m := 1) hrow (by rw [List.length_map]; omega) 1 (Nat.le_refl _)
  obtain ⟨A1, hA1⟩ : ∃ A1, (if cn = 1 then (some ⟨gn, 0, none⟩ : Option Addr) else (some ⟨gn, 0, none⟩ : Option Addr).map (·.add (1 * 1))) = A1 := ⟨_, rfl⟩
  have hto : rI.M w5 B (fun k => w.heap.size ≤ k ∧ k < w5.heap.size) ((ws.map numV).drop 1) [.slice A1 (ws.length - 1) (cn - 1)] := by rw [← hA1]; exact hto
  have hsl : ∀ W : World, (Instr.slice 33 (.slice (some ⟨gn, 0, none⟩) ws.length cn) (some (.int .i64 1)) none none).run Tryd.prog W = .ok (.slice A1 (ws.length - 1) (cn - 1)) W := fun W => by rw [hsl0 W, ← hA1]; rfl
  obtain ⟨m1, hm1⟩ : ∃ m1, ws.length - 1 = m1 := ⟨_, rfl⟩
  obtain ⟨c1, hc1⟩ : ∃ c1, cn - 1 = c1 := ⟨_, rfl⟩
  rw [hm1, hc1] at hsl hto
  have hcn1 : 1 ≤ cn := by omega
  clear hsl0 hA1 hm1 hc1
  have hk6 := hk1.trans hk5
  have HK5 := Aside0.mk hk6
  have HARG := Aside0.mk harg
  have HTO := Aside0.mk hto
  obtain ⟨e1, he1⟩ : ∃ e1, errN 0 ws = e1 := ⟨_, rfl⟩
  rw [he1] at hb5
  have HB5 := Aside0.mk hb5
  have HE := Lib.hid he1
  clear hk1 hk5 hk6 hb5 hrn harg hto he1 hrow
  rw [List.length_map]
  go_wp2
  go_region
  all_goals go_wp2
  obtain ⟨wr, hwr⟩ : ∃ wr, (w5.alloc (.cells #[.int .i64 2, .slice (some ⟨gn, 0, none⟩) 1 1, .slice A1 m1 c1, .int .i32 0] 49)).drew = wr := ⟨_, rfl⟩
  obtain ⟨gi, hgi⟩ : ∃ gi, w5.heap.size = gi := ⟨_, rfl⟩
  have hbel6 : Below w5.heap.size w5 wr := by rw [← hwr]; exact below_drew ((Below.refl _ _).alloc (Nat.le_refl _) _)
  have hxb : wr.heap[gi]? = some (.cells #[.int .i64 2, .slice (some ⟨gn, 0, none⟩) 1 1, .slice A1 m1 c1, .int .i32 0] 49 (0, 0)) := by rw [← hwr, ← hgi]; exact heap_alloc_new w5 _
  rw [hwr, hgi]
  clear hwr hgi
  have hkp : KeepG g w wr := HK5.out.trans (KeepG.of_below hbel6)
  have L := HL0.out.keepG hkp (by rw [HV.out]; exact blk_below HB5.out hbel6)
  have harg : rI.M wr B ok ((ws.map numV).take 1) [.slice (some ⟨gn, 0, none⟩) 1 1] := rI.M_mono (fun k hk => HL0.out.fresh k hk.1) (M_below HARG.out hbel6)
  have hto : rI.M wr B ok ((ws.map numV).drop 1) [.slice A1 m1 c1] := rI.M_mono (fun k hk => HL0.out.fresh k hk.1) (M_below HTO.out hbel6)
  have hmk : mkTerm 2 (ws.map numV) = ⟨2, ((ws.map numV).take 1), ((ws.map numV).drop 1), 0⟩ := by
    unfold mkTerm
    rw [if_neg (by decide), if_neg (by decide), if_neg (by decide)]
  have HMK := Lib.hid hmk
  have HL := Aside0.mk L
  obtain ⟨hcs, hfs⟩ := L.cells
  have c2 : wr.cell? ⟨gB, n * 6 + 2, none⟩ = some (.int .i64 x.f2.f0) := hcs 2 _ rfl
  have c3 : wr.cell? ⟨gB, n * 6 + 3, none⟩ = some v3 := hcs 3 _ rfl
  have c4 : wr.cell? ⟨gB, n * 6 + 4, none⟩ = some v4 := hcs 4 _ rfl
  have c5 : wr.cell? ⟨gB, n * 6 + 5, none⟩ = some (.int .i32 x.f2.f3) := hcs 5 _ rfl
  have f2 : wr.frozen? ⟨gB, n * 6 + 2, none⟩ = false := hfs 2
  have f3 : wr.frozen? ⟨gB, n * 6 + 3, none⟩ = false := hfs 3
  have f4 : wr.frozen? ⟨gB, n * 6 + 4, none⟩ = false := hfs 4
  have f5 : wr.frozen? ⟨gB, n * 6 + 5, none⟩ = false := hfs 5
  have x0 : wr.cell? ⟨gi, 0, none⟩ = some (.int .i64 2) := blk_cell hxb 0
  have x1 : wr.cell? ⟨gi, 1, none⟩ = some (.slice (some ⟨gn, 0, none⟩) 1 1) := blk_cell hxb 1
  have x2 : wr.cell? ⟨gi, 2, none⟩ = some (.slice A1 m1 c1) := blk_cell hxb 2
  have x3 : wr.cell? ⟨gi, 3, none⟩ = some (.int .i32 0) := blk_cell hxb 3
  have HKP := Aside0.mk hkp
  have hnb : n + 1 ≤ 9223372036854775807 := L.max
  obtain ⟨_, _, hv0, _⟩ := R_reads L.r0
  have HEND : Aside0 (Stepped B g (if errN 0 ws = 0 then .ok ⟨st.params, onLast (fun b => ⟨b.f0, b.f1, mkTerm 2 (ws.map numV)⟩) st.blocks, st.at_⟩ else .error 71) w ((((wr.setCell ⟨gB, n * 6 + 2, none⟩ (.int .i64 2)).setCell ⟨gB, n * 6 + 3, none⟩ (.slice (some ⟨gn, 0, none⟩) 1 1)).setCell ⟨gB, n * 6 + 4, none⟩ (.slice A1 m1 c1)).setCell ⟨gB, n * 6 + 5, none⟩ (.int .i32 0))) := ⟨by
    rw [HMK.out]
    have p1 := HL.out.put (seg := [.int .i64 2, .slice (some ⟨gn, 0, none⟩) 1 1, .slice A1 m1 c1, .int .i32 0]) (j := 2) (by simp) (x' := ⟨x.f0, x.f1, ⟨2, ((ws.map numV).take 1), ((ws.map numV).drop 1), 0⟩⟩) (st' := ⟨st.params, onLast (fun b => ⟨b.f0, b.f1, ⟨2, ((ws.map numV).take 1), ((ws.map numV).drop 1), 0⟩⟩) st.blocks, st.at_⟩) (kBlockP_mkM wr B ok ⟨x.f0, x.f1, ⟨2, ((ws.map numV).take 1), ((ws.map numV).drop 1), 0⟩⟩ HL.out.r0 HL.out.r1 harg hto) rfl rfl (by rw [← HX.out]; exact onLast_set (f := fun b => ⟨b.f0, b.f1, ⟨2, ((ws.map numV).take 1), ((ws.map numV).drop 1), 0⟩⟩) HNL.out)
    refine ⟨(HKP.out.below HPS.out.base HPS.out.size).trans (HL.out.keepB (n * 6 + 2) [.int .i64 2, .slice (some ⟨gn, 0, none⟩) 1 1, .slice A1 m1 c1, .int .i32 0]), (HKP.out.oth HB.out (by decide)).trans (HL.out.oth (n * 6 + 2) [.int .i64 2, .slice (some ⟨gn, 0, none⟩) 1 1, .slice A1 m1 c1, .int .i32 0]), ?_⟩
    rw [HE.out]
    exact out_of_err p1 (by have := HE.out; unfold errN at this; rw [if_pos rfl] at this; split at this <;> omega)⟩
  clear L hcs hfs hxb hkp harg hto hmk hv0
  have hlast : Aside0 (∀ W : World, W.heap[g]? = wr.heap[g]? → Calls Tryd.prog 54 #[.pointer (some ⟨g, 0, none⟩)] W fun en w' => en = .returned (.pointer (some ⟨gB, n * 6, none⟩)) ∧ ∃ k, W.drewN k = w') := ⟨fun W hW => last_calls g gB n capB _ _ _ _ W hnb (hW.trans HL.out.blk)⟩
  go_region_law (go_simp; go_at_call 54; refine (hlast.out _ (by rfl)).mono ?_; rintro e w8 ⟨rfl, kk, rfl⟩)
  all_goals
    go_end0
    refine ⟨rfl, ?_⟩
    first | exact HEND.out | exact HEND.out.drewN _

end Go.Proofs.YtlmkhllippobaaaDoor.Ps
end
section
/- text.parser.term, walked: Switch. -/
set_option linter.unusedVariables false
set_option linter.unusedSimpArgs false
namespace Go.Proofs.YtlmkhllippobaaaDoor.Ps
open Go.RowKit Go.Proofs.YtlmkhllippobaaaDoorW.PrintWords Go.Proofs.YtlmkhllippobaaaDoorW.PrintWords.Kd Go.Proofs.YtlmkhllippobaaaDoorW.PrintMore Go.Proofs.YtlmkhllippobaaaDoorW.PrintMore.Kd Go.Proofs.YtlmkhllippobaaaDoor.Wl Go.Proofs.YtlmkhllippobaaaDoor.Tx Go.Proofs.YtlmkhllippobaaaDoor.Kd Go.Proofs.YtlmkhllippobaaaDoor.Kp Go.Proofs.YtlmkhllippobaaaDoor.Mp
attribute [local go_sem ↓] Go.wp_at_zero Go.wp_at_succ

set_option maxHeartbeats 8000000 in
set_option maxRecDepth 1000000 in
theorem termSwitchFew (B g : Nat) (A : Option Addr) (cap n : Nat) (st : St) (w : World) (hps : PS B g st 0 w) (hn : n ≤ 1099511627776) (h : n < 2) :
    Calls Tryd.prog 39 #[.pointer (some ⟨g, 0, none⟩), .int .i64 3, .slice A n cap] w fun e w' => e = .returned (.tuple #[]) ∧ Stepped B g (.error 70) w w' := by
  obtain ⟨v, hb, _⟩ := hps.ex
  have HB := Aside0.mk hb
  have HPS := Aside0.mk hps
  have h1 : ¬ (2 : Int) ≤ (n : Int) := by omega
  have h1b : (n : Int) < 2 := by omega
  clear hps hb h
  have hmm := fun (w : World) => run_makeMap (P := Tryd.prog) 115 w
  go_enter Tryd.func39, Tryd.ntmps39
  go_wp2_with (first
    | ((with_reducible refine at_insert ?_); refine wpList_insert_int rfl _ _ _ 115 rfl under_cm under_i _ _ _ _ rfl (by rfl) rfl rfl ?_)
    | ((with_reducible refine at_lookup_ ?_); refine wpList_lookup_of rfl _ _ 115 false rfl (.int .i64 3) w.heap.size rfl rfl _ (look_int_hit1 under_cm under_i (heap_alloc_new w _) 3 2 _ rfl) ?_))
  obtain ⟨W1, hW1⟩ : ∃ W1, (w.alloc (.map #[⟨.int .i64 1, .agg #[.int .i64 1, .int .i64 1], 0⟩, ⟨.int .i64 2, .agg #[.int .i64 3, .int .i64 3], 1⟩, ⟨.int .i64 3, .agg #[.int .i64 2, .int .i64 (n : Nat)], 2⟩, ⟨.int .i64 4, .agg #[.int .i64 0, .int .i64 1], 3⟩, ⟨.int .i64 5, .agg #[.int .i64 1, .int .i64 1], 4⟩] 5)).alloc (.cells #[.int .i64 2, .int .i64 (n : Nat)] 114) = W1 := ⟨_, rfl⟩
  have hbel : Below w.heap.size w W1 := by rw [← hW1]; exact ((Below.refl _ _).alloc (Nat.le_refl _) _).alloc (by simp) _
  rw [hW1]
  clear hW1
  have HBEL := Aside0.mk hbel
  have HB1 := Aside0.mk (blk_below HB.out hbel)
  clear hbel
  refine (must_no g _ _ _ _ 70 (.inl rfl) W1 HB1.out).mono ?_
  rintro e w' ⟨rfl, rfl⟩
  go_wp2
  refine bodyPost_ret (results_none rfl _ _ _) rfl ?_
  exact ⟨rfl, (HBEL.out.mono HPS.out.size).setCell (p := ⟨g, 3, none⟩) HPS.out.base _, (Oth.below HBEL.out).trans (Oth.set_ HB1.out (by decide) _ _), ⟨_, _, _, _, blk_put HB1.out 3 _ rfl⟩, .inl rfl⟩

set_option maxHeartbeats 16000000 in
set_option maxRecDepth 1000000 in
theorem termSwitch (B g : Nat) (A : Option Addr) (cap : Nat) (ws : List ByteArray) (st : St) (w : World) (HG : Aside0 (∀ w', Below B w w' → LaidP w')) (hps : PS B g st 0 w) (hr : RdS w A ws)
    (hw : Aside0 (∀ s ∈ ws, s.size < 4294967281)) (hn : st.blocks ≠ []) (hla : 2 ≤ ws.length) (hlb : ws.length ≤ 1099511627776) :
    Calls Tryd.prog 39 #[.pointer (some ⟨g, 0, none⟩), .int .i64 3, .slice A ws.length cap] w fun e w' => e = .returned (.tuple #[]) ∧ Stepped B g (if errN 0 ws = 0 then .ok ⟨st.params, onLast (fun b => ⟨b.f0, b.f1, mkTerm 3 (ws.map numV)⟩) st.blocks, st.at_⟩ else .error 71) w w' := by
  obtain ⟨n, hnl⟩ : ∃ n, st.blocks.length = n + 1 := ⟨st.blocks.length - 1, by
    cases hh : st.blocks with
    | nil => exact absurd hh hn
    | cons _ _ => simp⟩
  obtain ⟨gB, capB, ok, v0, v1, v3, v4, L⟩ := hps.lend hnl
  obtain ⟨x, hx⟩ : ∃ x, st.blocks.getD n zBlock = x := ⟨_, rfl⟩
  rw [hx] at L
  have HX := Lib.hid hx
  have HL0 := Aside0.mk L
  have HNL := Lib.hid hnl
  obtain ⟨v, hv⟩ : ∃ v, Value.slice (some ⟨gB, 0, none⟩) (n + 1) capB = v := ⟨_, rfl⟩
  have hb : w.heap[g]? = some (.cells (pcells st v 0) 57 (0, 0)) := by rw [← hv]; exact L.blk
  have HV := Lib.hid hv
  have HB := Aside0.mk hb
  have hlt := blk_lt hb
  have HPS := Aside0.mk hps
  have HR := Aside0.mk hr
  have hl1 : (2 : Int) ≤ (ws.length : Int) := by omega
  clear hx L hnl hv hb hps hr hn
  have hmm := fun (w : World) => run_makeMap (P := Tryd.prog) 115 w
  go_enter Tryd.func39, Tryd.ntmps39
  go_wp2_with (first
    | ((with_reducible refine at_insert ?_); refine wpList_insert_int rfl _ _ _ 115 rfl under_cm under_i _ _ _ _ rfl (by rfl) rfl rfl ?_)
    | ((with_reducible refine at_lookup_ ?_); refine wpList_lookup_of rfl _ _ 115 false rfl (.int .i64 3) w.heap.size rfl rfl _ (look_int_hit1 under_cm under_i (heap_alloc_new w _) 3 2 _ rfl) ?_))
  obtain ⟨W1, hW1⟩ : ∃ W1, (w.alloc (.map #[⟨.int .i64 1, .agg #[.int .i64 1, .int .i64 1], 0⟩, ⟨.int .i64 2, .agg #[.int .i64 3, .int .i64 3], 1⟩, ⟨.int .i64 3, .agg #[.int .i64 2, .int .i64 (ws.length : Nat)], 2⟩, ⟨.int .i64 4, .agg #[.int .i64 0, .int .i64 1], 3⟩, ⟨.int .i64 5, .agg #[.int .i64 1, .int .i64 1], 4⟩] 5)).alloc (.cells #[.int .i64 2, .int .i64 (ws.length : Nat)] 114) = W1 := ⟨_, rfl⟩
  have hbel : Below w.heap.size w W1 := by rw [← hW1]; exact ((Below.refl _ _).alloc (Nat.le_refl _) _).alloc (by simp) _
  rw [hW1]
  clear hW1
  have HBEL := Aside0.mk hbel
  have HB1 := Aside0.mk (blk_below HB.out hbel)
  clear hbel
  refine (must_yes g _ _ _ _ 70 W1 HB1.out).mono ?_
  rintro e w' ⟨rfl, rfl⟩
  go_wp2_with fail
  have hk1 := KeepG.of_below (g := g) HBEL.out
  refine (nums_calls B g A cap ws _ _ _ _ 0 W1 ⟨fun w' h => (HG.out w' ((hk1.below HPS.out.base HPS.out.size).trans h)).l.t⟩ HPS.out.base (Nat.le_trans HPS.out.size hk1.size) (.inl rfl) HB1.out (HR.out.below HBEL.out) ⟨fun s hs => by
    have := hw.out s hs
    omega⟩ (by omega)).mono ?_
  rintro e w5 ⟨vn, rfl, hrn, hb5, hk5⟩
  obtain ⟨gn, cn, rfl, hcn, hgn, hcells⟩ := ints_at hrn (by rw [List.length_map]; omega)
  rw [List.length_map] at hcn hcells
  have hrow : rI.M w5 B (fun k => w.heap.size ≤ k ∧ k < w5.heap.size) (ws.map numV) [.slice (some ⟨gn, 0, none⟩) ws.length cn] := by
    have h1 := R_mono (R_bound hrn) (ok' := fun k => w.heap.size ≤ k ∧ k < w5.heap.size) (fun k hk => ⟨Nat.le_trans HBEL.out.size hk.2.1, hk.2.2.1⟩)
    have h2 := ro_of_R (R_lower h1 (Nat.le_trans HPS.out.size HBEL.out.size))
    rwa [List.length_map] at h2
  obtain ⟨i0, hi0, hz0⟩ := info_int
  have hsl0 := cut_from (P := Tryd.prog) 33 3 .i64 under_ints hi0 1 hz0 (some ⟨gn, 0, none⟩) ws.length cn 1 (by omega) (by omega)
  have hto := ro_drop (m := 1) hrow (by rw [List.length_map]; omega)
  have harg := ro_take (m := 1) hrow (by rw [List.length_map]; omega) 1 (Nat.le_refl _)
  obtain ⟨A1, hA1⟩ : ∃ A1, (if cn = 1 then (some ⟨gn, 0, none⟩ : Option Addr) else (some ⟨gn, 0, none⟩ : Option Addr).map (·.add (1 * 1))) = A1 := ⟨_, rfl⟩
  have hto : rI.M w5 B (fun k => w.heap.size ≤ k ∧ k < w5.heap.size) ((ws.map numV).drop 1) [.slice A1 (ws.length - 1) (cn - 1)] := by rw [← hA1]; exact hto
  have hsl : ∀ W : World, (Instr.slice 33 (.slice (some ⟨gn, 0, none⟩) ws.length cn) (some (.int .i64 1)) none none).run Tryd.prog W = .ok (.slice A1 (ws.length - 1) (cn - 1)) W := fun W => by rw [hsl0 W, ← hA1]; rfl
  obtain ⟨m1, hm1⟩ : ∃ m1, ws.length - 1 = m1 := ⟨_, rfl⟩
  obtain ⟨c1, hc1⟩ : ∃ c1, cn - 1 = c1 := ⟨_, rfl⟩
  rw [hm1, hc1] at hsl hto
  have hcn1 : 1 ≤ cn := by omega
  clear hsl0 hA1 hm1 hc1
  have hk6 := hk1.trans hk5
  have HK5 := Aside0.mk hk6
  have HARG := Aside0.mk harg
  have HTO := Aside0.mk hto
  obtain ⟨e1, he1⟩ : ∃ e1, errN 0 ws = e1 := ⟨_, rfl⟩
  rw [he1] at hb5
  have HB5 := Aside0.mk hb5
  have HE := Lib.hid he1
  clear hk1 hk5 hk6 hb5 hrn harg hto he1 hrow
  rw [List.length_map]
  go_wp2
  go_region
  all_goals go_wp2
  obtain ⟨wr, hwr⟩ : ∃ wr, (w5.alloc (.cells #[.int .i64 3, .slice (some ⟨gn, 0, none⟩) 1 1, .slice A1 m1 c1, .int .i32 0] 49)).drew = wr := ⟨_, rfl⟩
  obtain ⟨gi, hgi⟩ : ∃ gi, w5.heap.size = gi := ⟨_, rfl⟩
  have hbel6 : Below w5.heap.size w5 wr := by rw [← hwr]; exact below_drew ((Below.refl _ _).alloc (Nat.le_refl _) _)
  have hxb : wr.heap[gi]? = some (.cells #[.int .i64 3, .slice (some ⟨gn, 0, none⟩) 1 1, .slice A1 m1 c1, .int .i32 0] 49 (0, 0)) := by rw [← hwr, ← hgi]; exact heap_alloc_new w5 _
  rw [hwr, hgi]
  clear hwr hgi
  have hkp : KeepG g w wr := HK5.out.trans (KeepG.of_below hbel6)
  have L := HL0.out.keepG hkp (by rw [HV.out]; exact blk_below HB5.out hbel6)
  have harg : rI.M wr B ok ((ws.map numV).take 1) [.slice (some ⟨gn, 0, none⟩) 1 1] := rI.M_mono (fun k hk => HL0.out.fresh k hk.1) (M_below HARG.out hbel6)
  have hto : rI.M wr B ok ((ws.map numV).drop 1) [.slice A1 m1 c1] := rI.M_mono (fun k hk => HL0.out.fresh k hk.1) (M_below HTO.out hbel6)
  have hmk : mkTerm 3 (ws.map numV) = ⟨3, ((ws.map numV).take 1), ((ws.map numV).drop 1), 0⟩ := by
    unfold mkTerm
    rw [if_neg (by decide), if_neg (by decide), if_neg (by decide)]
  have HMK := Lib.hid hmk
  have HL := Aside0.mk L
  obtain ⟨hcs, hfs⟩ := L.cells
  have c2 : wr.cell? ⟨gB, n * 6 + 2, none⟩ = some (.int .i64 x.f2.f0) := hcs 2 _ rfl
  have c3 : wr.cell? ⟨gB, n * 6 + 3, none⟩ = some v3 := hcs 3 _ rfl
  have c4 : wr.cell? ⟨gB, n * 6 + 4, none⟩ = some v4 := hcs 4 _ rfl
  have c5 : wr.cell? ⟨gB, n * 6 + 5, none⟩ = some (.int .i32 x.f2.f3) := hcs 5 _ rfl
  have f2 : wr.frozen? ⟨gB, n * 6 + 2, none⟩ = false := hfs 2
  have f3 : wr.frozen? ⟨gB, n * 6 + 3, none⟩ = false := hfs 3
  have f4 : wr.frozen? ⟨gB, n * 6 + 4, none⟩ = false := hfs 4
  have f5 : wr.frozen? ⟨gB, n * 6 + 5, none⟩ = false := hfs 5
  have x0 : wr.cell? ⟨gi, 0, none⟩ = some (.int .i64 3) := blk_cell hxb 0
  have x1 : wr.cell? ⟨gi, 1, none⟩ = some (.slice (some ⟨gn, 0, none⟩) 1 1) := blk_cell hxb 1
  have x2 : wr.cell? ⟨gi, 2, none⟩ = some (.slice A1 m1 c1) := blk_cell hxb 2
  have x3 : wr.cell? ⟨gi, 3, none⟩ = some (.int .i32 0) := blk_cell hxb 3
  have HKP := Aside0.mk hkp
  have hnb : n + 1 ≤ 9223372036854775807 := L.max
  obtain ⟨_, _, hv0, _⟩ := R_reads L.r0
  have HEND : Aside0 (Stepped B g (if errN 0 ws = 0 then .ok ⟨st.params, onLast (fun b => ⟨b.f0, b.f1, mkTerm 3 (ws.map numV)⟩) st.blocks, st.at_⟩ else .error 71) w ((((wr.setCell ⟨gB, n * 6 + 2, none⟩ (.int .i64 3)).setCell ⟨gB, n * 6 + 3, none⟩ (.slice (some ⟨gn, 0, none⟩) 1 1)).setCell ⟨gB, n * 6 + 4, none⟩ (.slice A1 m1 c1)).setCell ⟨gB, n * 6 + 5, none⟩ (.int .i32 0))) := ⟨by
    rw [HMK.out]
    have p1 := HL.out.put (seg := [.int .i64 3, .slice (some ⟨gn, 0, none⟩) 1 1, .slice A1 m1 c1, .int .i32 0]) (j := 2) (by simp) (x' := ⟨x.f0, x.f1, ⟨3, ((ws.map numV).take 1), ((ws.map numV).drop 1), 0⟩⟩) (st' := ⟨st.params, onLast (fun b => ⟨b.f0, b.f1, ⟨3, ((ws.map numV).take 1), ((ws.map numV).drop 1), 0⟩⟩) st.blocks, st.at_⟩) (kBlockP_mkM wr B ok ⟨x.f0, x.f1, ⟨3, ((ws.map numV).take 1), ((ws.map numV).drop 1), 0⟩⟩ HL.out.r0 HL.out.r1 harg hto) rfl rfl (by rw [← HX.out]; exact onLast_set (f := fun b => ⟨b.f0, b.f1, ⟨3, ((ws.map numV).take 1), ((ws.map numV).drop 1), 0⟩⟩) HNL.out)
    refine ⟨(HKP.out.below HPS.out.base HPS.out.size).trans (HL.out.keepB (n * 6 + 2) [.int .i64 3, .slice (some ⟨gn, 0, none⟩) 1 1, .slice A1 m1 c1, .int .i32 0]), (HKP.out.oth HB.out (by decide)).trans (HL.out.oth (n * 6 + 2) [.int .i64 3, .slice (some ⟨gn, 0, none⟩) 1 1, .slice A1 m1 c1, .int .i32 0]), ?_⟩
    rw [HE.out]
    exact out_of_err p1 (by have := HE.out; unfold errN at this; rw [if_pos rfl] at this; split at this <;> omega)⟩
  clear L hcs hfs hxb hkp harg hto hmk hv0
  have hlast : Aside0 (∀ W : World, W.heap[g]? = wr.heap[g]? → Calls Tryd.prog 54 #[.pointer (some ⟨g, 0, none⟩)] W fun en w' => en = .returned (.pointer (some ⟨gB, n * 6, none⟩)) ∧ ∃ k, W.drewN k = w') := ⟨fun W hW => last_calls g gB n capB _ _ _ _ W hnb (hW.trans HL.out.blk)⟩
  go_region_law (go_simp; go_at_call 54; refine (hlast.out _ (by rfl)).mono ?_; rintro e w8 ⟨rfl, kk, rfl⟩)
  all_goals
    go_end0
    refine ⟨rfl, ?_⟩
    first | exact HEND.out | exact HEND.out.drewN _

end Go.Proofs.YtlmkhllippobaaaDoor.Ps
end
section
/- text.parser.term, walked: Ret. -/
set_option linter.unusedVariables false
set_option linter.unusedSimpArgs false
namespace Go.Proofs.YtlmkhllippobaaaDoor.Ps
open Go.RowKit Go.Proofs.YtlmkhllippobaaaDoorW.PrintWords Go.Proofs.YtlmkhllippobaaaDoorW.PrintWords.Kd Go.Proofs.YtlmkhllippobaaaDoorW.PrintMore Go.Proofs.YtlmkhllippobaaaDoorW.PrintMore.Kd Go.Proofs.YtlmkhllippobaaaDoor.Wl Go.Proofs.YtlmkhllippobaaaDoor.Tx Go.Proofs.YtlmkhllippobaaaDoor.Kd Go.Proofs.YtlmkhllippobaaaDoor.Kp Go.Proofs.YtlmkhllippobaaaDoor.Mp
attribute [local go_sem ↓] Go.wp_at_zero Go.wp_at_succ

set_option maxHeartbeats 8000000 in
set_option maxRecDepth 1000000 in
theorem termRetMany (B g : Nat) (A : Option Addr) (cap n : Nat) (st : St) (w : World) (hps : PS B g st 0 w) (hn : n ≤ 1099511627776) (h : 1 < n) :
    Calls Tryd.prog 39 #[.pointer (some ⟨g, 0, none⟩), .int .i64 4, .slice A n cap] w fun e w' => e = .returned (.tuple #[]) ∧ Stepped B g (.error 70) w w' := by
  obtain ⟨v, hb, _⟩ := hps.ex
  have HB := Aside0.mk hb
  have HPS := Aside0.mk hps
  have h1 : (0 : Int) ≤ (n : Int) := by omega
  have h2 : ¬ (n : Int) ≤ 1 := by omega
  have h2b : (1 : Int) < (n : Int) := by omega
  clear hps hb h
  have hmm := fun (w : World) => run_makeMap (P := Tryd.prog) 115 w
  go_enter Tryd.func39, Tryd.ntmps39
  go_wp2_with (first
    | ((with_reducible refine at_insert ?_); refine wpList_insert_int rfl _ _ _ 115 rfl under_cm under_i _ _ _ _ rfl (by rfl) rfl rfl ?_)
    | ((with_reducible refine at_lookup_ ?_); refine wpList_lookup_of rfl _ _ 115 false rfl (.int .i64 4) w.heap.size rfl rfl _ (look_int_hit1 under_cm under_i (heap_alloc_new w _) 4 3 _ rfl) ?_))
  obtain ⟨W1, hW1⟩ : ∃ W1, (w.alloc (.map #[⟨.int .i64 1, .agg #[.int .i64 1, .int .i64 1], 0⟩, ⟨.int .i64 2, .agg #[.int .i64 3, .int .i64 3], 1⟩, ⟨.int .i64 3, .agg #[.int .i64 2, .int .i64 (n : Nat)], 2⟩, ⟨.int .i64 4, .agg #[.int .i64 0, .int .i64 1], 3⟩, ⟨.int .i64 5, .agg #[.int .i64 1, .int .i64 1], 4⟩] 5)).alloc (.cells #[.int .i64 0, .int .i64 1] 114) = W1 := ⟨_, rfl⟩
  have hbel : Below w.heap.size w W1 := by rw [← hW1]; exact ((Below.refl _ _).alloc (Nat.le_refl _) _).alloc (by simp) _
  rw [hW1]
  clear hW1
  have HBEL := Aside0.mk hbel
  have HB1 := Aside0.mk (blk_below HB.out hbel)
  clear hbel
  refine (must_no g _ _ _ _ 70 (.inl rfl) W1 HB1.out).mono ?_
  rintro e w' ⟨rfl, rfl⟩
  go_wp2
  refine bodyPost_ret (results_none rfl _ _ _) rfl ?_
  exact ⟨rfl, (HBEL.out.mono HPS.out.size).setCell (p := ⟨g, 3, none⟩) HPS.out.base _, (Oth.below HBEL.out).trans (Oth.set_ HB1.out (by decide) _ _), ⟨_, _, _, _, blk_put HB1.out 3 _ rfl⟩, .inl rfl⟩

set_option maxHeartbeats 16000000 in
set_option maxRecDepth 1000000 in
theorem termRet (B g : Nat) (A : Option Addr) (cap : Nat) (ws : List ByteArray) (st : St) (w : World) (HG : Aside0 (∀ w', Below B w w' → LaidP w')) (hps : PS B g st 0 w) (hr : RdS w A ws)
    (hw : Aside0 (∀ s ∈ ws, s.size < 4294967281)) (hn : st.blocks ≠ []) (hla : 0 ≤ ws.length) (hlb : ws.length ≤ 1) :
    Calls Tryd.prog 39 #[.pointer (some ⟨g, 0, none⟩), .int .i64 4, .slice A ws.length cap] w fun e w' => e = .returned (.tuple #[]) ∧ Stepped B g (if errN 0 ws = 0 then .ok ⟨st.params, onLast (fun b => ⟨b.f0, b.f1, mkTerm 4 (ws.map numV)⟩) st.blocks, st.at_⟩ else .error 71) w w' := by
  obtain ⟨n, hnl⟩ : ∃ n, st.blocks.length = n + 1 := ⟨st.blocks.length - 1, by
    cases hh : st.blocks with
    | nil => exact absurd hh hn
    | cons _ _ => simp⟩
  obtain ⟨gB, capB, ok, v0, v1, v3, v4, L⟩ := hps.lend hnl
  obtain ⟨x, hx⟩ : ∃ x, st.blocks.getD n zBlock = x := ⟨_, rfl⟩
  rw [hx] at L
  have HX := Lib.hid hx
  have HL0 := Aside0.mk L
  have HNL := Lib.hid hnl
  obtain ⟨v, hv⟩ : ∃ v, Value.slice (some ⟨gB, 0, none⟩) (n + 1) capB = v := ⟨_, rfl⟩
  have hb : w.heap[g]? = some (.cells (pcells st v 0) 57 (0, 0)) := by rw [← hv]; exact L.blk
  have HV := Lib.hid hv
  have HB := Aside0.mk hb
  have hlt := blk_lt hb
  have HPS := Aside0.mk hps
  have HR := Aside0.mk hr
  have hl1 : (0 : Int) ≤ (ws.length : Int) := by omega
  have hl2 : (ws.length : Int) ≤ 1 := by omega
  clear hx L hnl hv hb hps hr hn
  have hmm := fun (w : World) => run_makeMap (P := Tryd.prog) 115 w
  go_enter Tryd.func39, Tryd.ntmps39
  go_wp2_with (first
    | ((with_reducible refine at_insert ?_); refine wpList_insert_int rfl _ _ _ 115 rfl under_cm under_i _ _ _ _ rfl (by rfl) rfl rfl ?_)
    | ((with_reducible refine at_lookup_ ?_); refine wpList_lookup_of rfl _ _ 115 false rfl (.int .i64 4) w.heap.size rfl rfl _ (look_int_hit1 under_cm under_i (heap_alloc_new w _) 4 3 _ rfl) ?_))
  obtain ⟨W1, hW1⟩ : ∃ W1, (w.alloc (.map #[⟨.int .i64 1, .agg #[.int .i64 1, .int .i64 1], 0⟩, ⟨.int .i64 2, .agg #[.int .i64 3, .int .i64 3], 1⟩, ⟨.int .i64 3, .agg #[.int .i64 2, .int .i64 (ws.length : Nat)], 2⟩, ⟨.int .i64 4, .agg #[.int .i64 0, .int .i64 1], 3⟩, ⟨.int .i64 5, .agg #[.int .i64 1, .int .i64 1], 4⟩] 5)).alloc (.cells #[.int .i64 0, .int .i64 1] 114) = W1 := ⟨_, rfl⟩
  have hbel : Below w.heap.size w W1 := by rw [← hW1]; exact ((Below.refl _ _).alloc (Nat.le_refl _) _).alloc (by simp) _
  rw [hW1]
  clear hW1
  have HBEL := Aside0.mk hbel
  have HB1 := Aside0.mk (blk_below HB.out hbel)
  clear hbel
  refine (must_yes g _ _ _ _ 70 W1 HB1.out).mono ?_
  rintro e w' ⟨rfl, rfl⟩
  go_wp2_with fail
  have hk1 := KeepG.of_below (g := g) HBEL.out
  refine (nums_calls B g A cap ws _ _ _ _ 0 W1 ⟨fun w' h => (HG.out w' ((hk1.below HPS.out.base HPS.out.size).trans h)).l.t⟩ HPS.out.base (Nat.le_trans HPS.out.size hk1.size) (.inl rfl) HB1.out (HR.out.below HBEL.out) ⟨fun s hs => by
    have := hw.out s hs
    omega⟩ (by omega)).mono ?_
  rintro e w5 ⟨vn, rfl, hrn, hb5, hk5⟩
  obtain ⟨An, cn, rfl, hcn, _⟩ := R_reads hrn
  rw [List.length_map] at hcn
  have hrow : rI.M w5 B (fun k => w.heap.size ≤ k ∧ k < w5.heap.size) (ws.map numV) [.slice An ws.length cn] := by
    have h1 := R_mono (R_bound hrn) (ok' := fun k => w.heap.size ≤ k ∧ k < w5.heap.size) (fun k hk => ⟨Nat.le_trans HBEL.out.size hk.2.1, hk.2.2.1⟩)
    have h2 := ro_of_R (R_lower h1 (Nat.le_trans HPS.out.size HBEL.out.size))
    rwa [List.length_map] at h2
  have harg : rI.M w5 B (fun k => w.heap.size ≤ k ∧ k < w5.heap.size) (ws.map numV) [.slice An ws.length cn] := hrow
  have hto : rI.M w5 B (fun k => w.heap.size ≤ k ∧ k < w5.heap.size) ([] : List Int) [.slice none 0 0] := ro_nil
  have hk6 := hk1.trans hk5
  have HK5 := Aside0.mk hk6
  have HARG := Aside0.mk harg
  have HTO := Aside0.mk hto
  obtain ⟨e1, he1⟩ : ∃ e1, errN 0 ws = e1 := ⟨_, rfl⟩
  rw [he1] at hb5
  have HB5 := Aside0.mk hb5
  have HE := Lib.hid he1
  clear hk1 hk5 hk6 hb5 hrn harg hto he1 hrow
  rw [List.length_map]
  go_wp2
  obtain ⟨wr, hwr⟩ : ∃ wr, w5.alloc (.cells #[.int .i64 4, .slice An ws.length cn, .slice none 0 0, .int .i32 0] 49) = wr := ⟨_, rfl⟩
  obtain ⟨gi, hgi⟩ : ∃ gi, w5.heap.size = gi := ⟨_, rfl⟩
  have hbel6 : Below w5.heap.size w5 wr := by rw [← hwr]; exact (Below.refl _ _).alloc (Nat.le_refl _) _
  have hxb : wr.heap[gi]? = some (.cells #[.int .i64 4, .slice An ws.length cn, .slice none 0 0, .int .i32 0] 49 (0, 0)) := by rw [← hwr, ← hgi]; exact heap_alloc_new w5 _
  rw [hwr, hgi]
  clear hwr hgi
  have hkp : KeepG g w wr := HK5.out.trans (KeepG.of_below hbel6)
  have L := HL0.out.keepG hkp (by rw [HV.out]; exact blk_below HB5.out hbel6)
  have harg : rI.M wr B ok (ws.map numV) [.slice An ws.length cn] := rI.M_mono (fun k hk => HL0.out.fresh k hk.1) (M_below HARG.out hbel6)
  have hto : rI.M wr B ok ([] : List Int) [.slice none 0 0] := rI.M_mono (fun k hk => HL0.out.fresh k hk.1) (M_below HTO.out hbel6)
  have hmk : mkTerm 4 (ws.map numV) = ⟨4, (ws.map numV), ([] : List Int), 0⟩ := by
    unfold mkTerm
    rw [if_neg (by decide), if_pos rfl]
  have HMK := Lib.hid hmk
  have HL := Aside0.mk L
  obtain ⟨hcs, hfs⟩ := L.cells
  have c2 : wr.cell? ⟨gB, n * 6 + 2, none⟩ = some (.int .i64 x.f2.f0) := hcs 2 _ rfl
  have c3 : wr.cell? ⟨gB, n * 6 + 3, none⟩ = some v3 := hcs 3 _ rfl
  have c4 : wr.cell? ⟨gB, n * 6 + 4, none⟩ = some v4 := hcs 4 _ rfl
  have c5 : wr.cell? ⟨gB, n * 6 + 5, none⟩ = some (.int .i32 x.f2.f3) := hcs 5 _ rfl
  have f2 : wr.frozen? ⟨gB, n * 6 + 2, none⟩ = false := hfs 2
  have f3 : wr.frozen? ⟨gB, n * 6 + 3, none⟩ = false := hfs 3
  have f4 : wr.frozen? ⟨gB, n * 6 + 4, none⟩ = false := hfs 4
  have f5 : wr.frozen? ⟨gB, n * 6 + 5, none⟩ = false := hfs 5
  have x0 : wr.cell? ⟨gi, 0, none⟩ = some (.int .i64 4) := blk_cell hxb 0
  have x1 : wr.cell? ⟨gi, 1, none⟩ = some (.slice An ws.length cn) := blk_cell hxb 1
  have x2 : wr.cell? ⟨gi, 2, none⟩ = some (.slice none 0 0) := blk_cell hxb 2
  have x3 : wr.cell? ⟨gi, 3, none⟩ = some (.int .i32 0) := blk_cell hxb 3
  have HKP := Aside0.mk hkp
  have hnb : n + 1 ≤ 9223372036854775807 := L.max
  obtain ⟨_, _, hv0, _⟩ := R_reads L.r0
  have HEND : Aside0 (Stepped B g (if errN 0 ws = 0 then .ok ⟨st.params, onLast (fun b => ⟨b.f0, b.f1, mkTerm 4 (ws.map numV)⟩) st.blocks, st.at_⟩ else .error 71) w ((((wr.setCell ⟨gB, n * 6 + 2, none⟩ (.int .i64 4)).setCell ⟨gB, n * 6 + 3, none⟩ (.slice An ws.length cn)).setCell ⟨gB, n * 6 + 4, none⟩ (.slice none 0 0)).setCell ⟨gB, n * 6 + 5, none⟩ (.int .i32 0))) := ⟨by
    rw [HMK.out]
    have p1 := HL.out.put (seg := [.int .i64 4, .slice An ws.length cn, .slice none 0 0, .int .i32 0]) (j := 2) (by simp) (x' := ⟨x.f0, x.f1, ⟨4, (ws.map numV), ([] : List Int), 0⟩⟩) (st' := ⟨st.params, onLast (fun b => ⟨b.f0, b.f1, ⟨4, (ws.map numV), ([] : List Int), 0⟩⟩) st.blocks, st.at_⟩) (kBlockP_mkM wr B ok ⟨x.f0, x.f1, ⟨4, (ws.map numV), ([] : List Int), 0⟩⟩ HL.out.r0 HL.out.r1 harg hto) rfl rfl (by rw [← HX.out]; exact onLast_set (f := fun b => ⟨b.f0, b.f1, ⟨4, (ws.map numV), ([] : List Int), 0⟩⟩) HNL.out)
    refine ⟨(HKP.out.below HPS.out.base HPS.out.size).trans (HL.out.keepB (n * 6 + 2) [.int .i64 4, .slice An ws.length cn, .slice none 0 0, .int .i32 0]), (HKP.out.oth HB.out (by decide)).trans (HL.out.oth (n * 6 + 2) [.int .i64 4, .slice An ws.length cn, .slice none 0 0, .int .i32 0]), ?_⟩
    rw [HE.out]
    exact out_of_err p1 (by have := HE.out; unfold errN at this; rw [if_pos rfl] at this; split at this <;> omega)⟩
  clear L hcs hfs hxb hkp harg hto hmk hv0
  have hlast : Aside0 (∀ W : World, W.heap[g]? = wr.heap[g]? → Calls Tryd.prog 54 #[.pointer (some ⟨g, 0, none⟩)] W fun en w' => en = .returned (.pointer (some ⟨gB, n * 6, none⟩)) ∧ ∃ k, W.drewN k = w') := ⟨fun W hW => last_calls g gB n capB _ _ _ _ W hnb (hW.trans HL.out.blk)⟩
  go_region_law (go_simp; go_at_call 54; refine (hlast.out _ (by rfl)).mono ?_; rintro e w8 ⟨rfl, kk, rfl⟩)
  all_goals
    go_end0
    refine ⟨rfl, ?_⟩
    first | exact HEND.out | exact HEND.out.drewN _

end Go.Proofs.YtlmkhllippobaaaDoor.Ps
end
section
/- text.parser.term, walked: Trap. -/
set_option linter.unusedVariables false
set_option linter.unusedSimpArgs false
namespace Go.Proofs.YtlmkhllippobaaaDoor.Ps
open Go.RowKit Go.Proofs.YtlmkhllippobaaaDoorW.PrintWords Go.Proofs.YtlmkhllippobaaaDoorW.PrintWords.Kd Go.Proofs.YtlmkhllippobaaaDoorW.PrintMore Go.Proofs.YtlmkhllippobaaaDoorW.PrintMore.Kd Go.Proofs.YtlmkhllippobaaaDoor.Wl Go.Proofs.YtlmkhllippobaaaDoor.Tx Go.Proofs.YtlmkhllippobaaaDoor.Kd Go.Proofs.YtlmkhllippobaaaDoor.Kp Go.Proofs.YtlmkhllippobaaaDoor.Mp
attribute [local go_sem ↓] Go.wp_at_zero Go.wp_at_succ

set_option maxHeartbeats 8000000 in
set_option maxRecDepth 1000000 in
theorem termTrapFew (B g : Nat) (A : Option Addr) (cap n : Nat) (st : St) (w : World) (hps : PS B g st 0 w) (hn : n ≤ 1099511627776) (h : n < 1) :
    Calls Tryd.prog 39 #[.pointer (some ⟨g, 0, none⟩), .int .i64 5, .slice A n cap] w fun e w' => e = .returned (.tuple #[]) ∧ Stepped B g (.error 70) w w' := by
  obtain ⟨v, hb, _⟩ := hps.ex
  have HB := Aside0.mk hb
  have HPS := Aside0.mk hps
  have h1 : ¬ (1 : Int) ≤ (n : Int) := by omega
  have h1b : (n : Int) < 1 := by omega
  clear hps hb h
  have hmm := fun (w : World) => run_makeMap (P := Tryd.prog) 115 w
  go_enter Tryd.func39, Tryd.ntmps39
  go_wp2_with (first
    | ((with_reducible refine at_insert ?_); refine wpList_insert_int rfl _ _ _ 115 rfl under_cm under_i _ _ _ _ rfl (by rfl) rfl rfl ?_)
    | ((with_reducible refine at_lookup_ ?_); refine wpList_lookup_of rfl _ _ 115 false rfl (.int .i64 5) w.heap.size rfl rfl _ (look_int_hit1 under_cm under_i (heap_alloc_new w _) 5 4 _ rfl) ?_))
  obtain ⟨W1, hW1⟩ : ∃ W1, (w.alloc (.map #[⟨.int .i64 1, .agg #[.int .i64 1, .int .i64 1], 0⟩, ⟨.int .i64 2, .agg #[.int .i64 3, .int .i64 3], 1⟩, ⟨.int .i64 3, .agg #[.int .i64 2, .int .i64 (n : Nat)], 2⟩, ⟨.int .i64 4, .agg #[.int .i64 0, .int .i64 1], 3⟩, ⟨.int .i64 5, .agg #[.int .i64 1, .int .i64 1], 4⟩] 5)).alloc (.cells #[.int .i64 1, .int .i64 1] 114) = W1 := ⟨_, rfl⟩
  have hbel : Below w.heap.size w W1 := by rw [← hW1]; exact ((Below.refl _ _).alloc (Nat.le_refl _) _).alloc (by simp) _
  rw [hW1]
  clear hW1
  have HBEL := Aside0.mk hbel
  have HB1 := Aside0.mk (blk_below HB.out hbel)
  clear hbel
  refine (must_no g _ _ _ _ 70 (.inl rfl) W1 HB1.out).mono ?_
  rintro e w' ⟨rfl, rfl⟩
  go_wp2
  refine bodyPost_ret (results_none rfl _ _ _) rfl ?_
  exact ⟨rfl, (HBEL.out.mono HPS.out.size).setCell (p := ⟨g, 3, none⟩) HPS.out.base _, (Oth.below HBEL.out).trans (Oth.set_ HB1.out (by decide) _ _), ⟨_, _, _, _, blk_put HB1.out 3 _ rfl⟩, .inl rfl⟩

set_option maxHeartbeats 8000000 in
set_option maxRecDepth 1000000 in
theorem termTrapMany (B g : Nat) (A : Option Addr) (cap n : Nat) (st : St) (w : World) (hps : PS B g st 0 w) (hn : n ≤ 1099511627776) (h : 1 < n) :
    Calls Tryd.prog 39 #[.pointer (some ⟨g, 0, none⟩), .int .i64 5, .slice A n cap] w fun e w' => e = .returned (.tuple #[]) ∧ Stepped B g (.error 70) w w' := by
  obtain ⟨v, hb, _⟩ := hps.ex
  have HB := Aside0.mk hb
  have HPS := Aside0.mk hps
  have h1 : (1 : Int) ≤ (n : Int) := by omega
  have h2 : ¬ (n : Int) ≤ 1 := by omega
  have h2b : (1 : Int) < (n : Int) := by omega
  clear hps hb h
  have hmm := fun (w : World) => run_makeMap (P := Tryd.prog) 115 w
  go_enter Tryd.func39, Tryd.ntmps39
  go_wp2_with (first
    | ((with_reducible refine at_insert ?_); refine wpList_insert_int rfl _ _ _ 115 rfl under_cm under_i _ _ _ _ rfl (by rfl) rfl rfl ?_)
    | ((with_reducible refine at_lookup_ ?_); refine wpList_lookup_of rfl _ _ 115 false rfl (.int .i64 5) w.heap.size rfl rfl _ (look_int_hit1 under_cm under_i (heap_alloc_new w _) 5 4 _ rfl) ?_))
  obtain ⟨W1, hW1⟩ : ∃ W1, (w.alloc (.map #[⟨.int .i64 1, .agg #[.int .i64 1, .int .i64 1], 0⟩, ⟨.int .i64 2, .agg #[.int .i64 3, .int .i64 3], 1⟩, ⟨.int .i64 3, .agg #[.int .i64 2, .int .i64 (n : Nat)], 2⟩, ⟨.int .i64 4, .agg #[.int .i64 0, .int .i64 1], 3⟩, ⟨.int .i64 5, .agg #[.int .i64 1, .int .i64 1], 4⟩] 5)).alloc (.cells #[.int .i64 1, .int .i64 1] 114) = W1 := ⟨_, rfl⟩
  have hbel : Below w.heap.size w W1 := by rw [← hW1]; exact ((Below.refl _ _).alloc (Nat.le_refl _) _).alloc (by simp) _
  rw [hW1]
  clear hW1
  have HBEL := Aside0.mk hbel
  have HB1 := Aside0.mk (blk_below HB.out hbel)
  clear hbel
  refine (must_no g _ _ _ _ 70 (.inl rfl) W1 HB1.out).mono ?_
  rintro e w' ⟨rfl, rfl⟩
  go_wp2
  refine bodyPost_ret (results_none rfl _ _ _) rfl ?_
  exact ⟨rfl, (HBEL.out.mono HPS.out.size).setCell (p := ⟨g, 3, none⟩) HPS.out.base _, (Oth.below HBEL.out).trans (Oth.set_ HB1.out (by decide) _ _), ⟨_, _, _, _, blk_put HB1.out 3 _ rfl⟩, .inl rfl⟩

set_option maxHeartbeats 16000000 in
set_option maxRecDepth 1000000 in
theorem termTrap (B g : Nat) (A : Option Addr) (cap : Nat) (ws : List ByteArray) (st : St) (w : World) (HG : Aside0 (∀ w', Below B w w' → LaidP w')) (hps : PS B g st 0 w) (hr : RdS w A ws)
    (hw : Aside0 (∀ s ∈ ws, s.size < 4294967281)) (hn : st.blocks ≠ []) (hla : 1 ≤ ws.length) (hlb : ws.length ≤ 1) :
    Calls Tryd.prog 39 #[.pointer (some ⟨g, 0, none⟩), .int .i64 5, .slice A ws.length cap] w fun e w' => e = .returned (.tuple #[]) ∧ Stepped B g (if errN 0 ws = 0 then .ok ⟨st.params, onLast (fun b => ⟨b.f0, b.f1, mkTerm 5 (ws.map numV)⟩) st.blocks, st.at_⟩ else .error 71) w w' := by
  obtain ⟨n, hnl⟩ : ∃ n, st.blocks.length = n + 1 := ⟨st.blocks.length - 1, by
    cases hh : st.blocks with
    | nil => exact absurd hh hn
    | cons _ _ => simp⟩
  obtain ⟨gB, capB, ok, v0, v1, v3, v4, L⟩ := hps.lend hnl
  obtain ⟨x, hx⟩ : ∃ x, st.blocks.getD n zBlock = x := ⟨_, rfl⟩
  rw [hx] at L
  have HX := Lib.hid hx
  have HL0 := Aside0.mk L
  have HNL := Lib.hid hnl
  obtain ⟨v, hv⟩ : ∃ v, Value.slice (some ⟨gB, 0, none⟩) (n + 1) capB = v := ⟨_, rfl⟩
  have hb : w.heap[g]? = some (.cells (pcells st v 0) 57 (0, 0)) := by rw [← hv]; exact L.blk
  have HV := Lib.hid hv
  have HB := Aside0.mk hb
  have hlt := blk_lt hb
  have HPS := Aside0.mk hps
  have HR := Aside0.mk hr
  have hl1 : (1 : Int) ≤ (ws.length : Int) := by omega
  have hl2 : (ws.length : Int) ≤ 1 := by omega
  clear hx L hnl hv hb hps hr hn
  have hmm := fun (w : World) => run_makeMap (P := Tryd.prog) 115 w
  go_enter Tryd.func39, Tryd.ntmps39
  go_wp2_with (first
    | ((with_reducible refine at_insert ?_); refine wpList_insert_int rfl _ _ _ 115 rfl under_cm under_i _ _ _ _ rfl (by rfl) rfl rfl ?_)
    | ((with_reducible refine at_lookup_ ?_); refine wpList_lookup_of rfl _ _ 115 false rfl (.int .i64 5) w.heap.size rfl rfl _ (look_int_hit1 under_cm under_i (heap_alloc_new w _) 5 4 _ rfl) ?_))
  obtain ⟨W1, hW1⟩ : ∃ W1, (w.alloc (.map #[⟨.int .i64 1, .agg #[.int .i64 1, .int .i64 1], 0⟩, ⟨.int .i64 2, .agg #[.int .i64 3, .int .i64 3], 1⟩, ⟨.int .i64 3, .agg #[.int .i64 2, .int .i64 (ws.length : Nat)], 2⟩, ⟨.int .i64 4, .agg #[.int .i64 0, .int .i64 1], 3⟩, ⟨.int .i64 5, .agg #[.int .i64 1, .int .i64 1], 4⟩] 5)).alloc (.cells #[.int .i64 1, .int .i64 1] 114) = W1 := ⟨_, rfl⟩
  have hbel : Below w.heap.size w W1 := by rw [← hW1]; exact ((Below.refl _ _).alloc (Nat.le_refl _) _).alloc (by simp) _
  rw [hW1]
  clear hW1
  have HBEL := Aside0.mk hbel
  have HB1 := Aside0.mk (blk_below HB.out hbel)
  clear hbel
  refine (must_yes g _ _ _ _ 70 W1 HB1.out).mono ?_
  rintro e w' ⟨rfl, rfl⟩
  go_wp2_with fail
  have hk1 := KeepG.of_below (g := g) HBEL.out
  refine (nums_calls B g A cap ws _ _ _ _ 0 W1 ⟨fun w' h => (HG.out w' ((hk1.below HPS.out.base HPS.out.size).trans h)).l.t⟩ HPS.out.base (Nat.le_trans HPS.out.size hk1.size) (.inl rfl) HB1.out (HR.out.below HBEL.out) ⟨fun s hs => by
    have := hw.out s hs
    omega⟩ (by omega)).mono ?_
  rintro e w5 ⟨vn, rfl, hrn, hb5, hk5⟩
  obtain ⟨gn, cn, rfl, hcn, hgn, hcells⟩ := ints_at hrn (by rw [List.length_map]; omega)
  rw [List.length_map] at hcn hcells
  have hr0 := numsV_range ws 0
  obtain ⟨n0, hn0⟩ : ∃ n0, (ws.map numV).getD 0 0 = n0 := ⟨_, rfl⟩
  rw [hn0] at hr0
  obtain ⟨hr0a, hr0b⟩ := hr0
  have q0 : w5.cell? ⟨gn, 0, none⟩ = some (.int .i64 n0) := by rw [← hn0]; exact hcells 0 (by omega)
  have q0b : ∀ o, (w5.alloc o).cell? ⟨gn, 0, none⟩ = some (.int .i64 n0) := fun o => pw_cell_below ((Below.refl _ _).alloc (Nat.le_refl _) _) q0
  have HN0 := Lib.hid hn0
  clear hn0
  have hrow : rI.M w5 B (fun k => w.heap.size ≤ k ∧ k < w5.heap.size) (ws.map numV) [.slice (some ⟨gn, 0, none⟩) ws.length cn] := by
    have h1 := R_mono (R_bound hrn) (ok' := fun k => w.heap.size ≤ k ∧ k < w5.heap.size) (fun k hk => ⟨Nat.le_trans HBEL.out.size hk.2.1, hk.2.2.1⟩)
    have h2 := ro_of_R (R_lower h1 (Nat.le_trans HPS.out.size HBEL.out.size))
    rwa [List.length_map] at h2
  have harg : rI.M w5 B (fun k => w.heap.size ≤ k ∧ k < w5.heap.size) ([] : List Int) [.slice none 0 0] := ro_nil
  have hto : rI.M w5 B (fun k => w.heap.size ≤ k ∧ k < w5.heap.size) ([] : List Int) [.slice none 0 0] := ro_nil
  have hk6 := hk1.trans hk5
  have HK5 := Aside0.mk hk6
  have HARG := Aside0.mk harg
  have HTO := Aside0.mk hto
  obtain ⟨e1, he1⟩ : ∃ e1, errN 0 ws = e1 := ⟨_, rfl⟩
  rw [he1] at hb5
  have HB5 := Aside0.mk hb5
  have HE := Lib.hid he1
  clear hk1 hk5 hk6 hb5 hrn harg hto he1 hrow
  rw [List.length_map]
  go_wp2
  obtain ⟨wr, hwr⟩ : ∃ wr, w5.alloc (.cells #[.int .i64 5, .slice none 0 0, .slice none 0 0, .int .i32 n0] 49) = wr := ⟨_, rfl⟩
  obtain ⟨gi, hgi⟩ : ∃ gi, w5.heap.size = gi := ⟨_, rfl⟩
  have hbel6 : Below w5.heap.size w5 wr := by rw [← hwr]; exact (Below.refl _ _).alloc (Nat.le_refl _) _
  have hxb : wr.heap[gi]? = some (.cells #[.int .i64 5, .slice none 0 0, .slice none 0 0, .int .i32 n0] 49 (0, 0)) := by rw [← hwr, ← hgi]; exact heap_alloc_new w5 _
  rw [hwr, hgi]
  clear hwr hgi
  have hkp : KeepG g w wr := HK5.out.trans (KeepG.of_below hbel6)
  have L := HL0.out.keepG hkp (by rw [HV.out]; exact blk_below HB5.out hbel6)
  have harg : rI.M wr B ok ([] : List Int) [.slice none 0 0] := rI.M_mono (fun k hk => HL0.out.fresh k hk.1) (M_below HARG.out hbel6)
  have hto : rI.M wr B ok ([] : List Int) [.slice none 0 0] := rI.M_mono (fun k hk => HL0.out.fresh k hk.1) (M_below HTO.out hbel6)
  have hmk : mkTerm 5 (ws.map numV) = ⟨5, ([] : List Int), ([] : List Int), n0⟩ := by
    unfold mkTerm
    rw [if_neg (by decide), if_neg (by decide), if_pos rfl, HN0.out]
  have HMK := Lib.hid hmk
  have HL := Aside0.mk L
  obtain ⟨hcs, hfs⟩ := L.cells
  have c2 : wr.cell? ⟨gB, n * 6 + 2, none⟩ = some (.int .i64 x.f2.f0) := hcs 2 _ rfl
  have c3 : wr.cell? ⟨gB, n * 6 + 3, none⟩ = some v3 := hcs 3 _ rfl
  have c4 : wr.cell? ⟨gB, n * 6 + 4, none⟩ = some v4 := hcs 4 _ rfl
  have c5 : wr.cell? ⟨gB, n * 6 + 5, none⟩ = some (.int .i32 x.f2.f3) := hcs 5 _ rfl
  have f2 : wr.frozen? ⟨gB, n * 6 + 2, none⟩ = false := hfs 2
  have f3 : wr.frozen? ⟨gB, n * 6 + 3, none⟩ = false := hfs 3
  have f4 : wr.frozen? ⟨gB, n * 6 + 4, none⟩ = false := hfs 4
  have f5 : wr.frozen? ⟨gB, n * 6 + 5, none⟩ = false := hfs 5
  have x0 : wr.cell? ⟨gi, 0, none⟩ = some (.int .i64 5) := blk_cell hxb 0
  have x1 : wr.cell? ⟨gi, 1, none⟩ = some (.slice none 0 0) := blk_cell hxb 1
  have x2 : wr.cell? ⟨gi, 2, none⟩ = some (.slice none 0 0) := blk_cell hxb 2
  have x3 : wr.cell? ⟨gi, 3, none⟩ = some (.int .i32 n0) := blk_cell hxb 3
  have HKP := Aside0.mk hkp
  have hnb : n + 1 ≤ 9223372036854775807 := L.max
  obtain ⟨_, _, hv0, _⟩ := R_reads L.r0
  have HEND : Aside0 (Stepped B g (if errN 0 ws = 0 then .ok ⟨st.params, onLast (fun b => ⟨b.f0, b.f1, mkTerm 5 (ws.map numV)⟩) st.blocks, st.at_⟩ else .error 71) w ((((wr.setCell ⟨gB, n * 6 + 2, none⟩ (.int .i64 5)).setCell ⟨gB, n * 6 + 3, none⟩ (.slice none 0 0)).setCell ⟨gB, n * 6 + 4, none⟩ (.slice none 0 0)).setCell ⟨gB, n * 6 + 5, none⟩ (.int .i32 n0))) := ⟨by
    rw [HMK.out]
    have p1 := HL.out.put (seg := [.int .i64 5, .slice none 0 0, .slice none 0 0, .int .i32 n0]) (j := 2) (by simp) (x' := ⟨x.f0, x.f1, ⟨5, ([] : List Int), ([] : List Int), n0⟩⟩) (st' := ⟨st.params, onLast (fun b => ⟨b.f0, b.f1, ⟨5, ([] : List Int), ([] : List Int), n0⟩⟩) st.blocks, st.at_⟩) (kBlockP_mkM wr B ok ⟨x.f0, x.f1, ⟨5, ([] : List Int), ([] : List Int), n0⟩⟩ HL.out.r0 HL.out.r1 harg hto) rfl rfl (by rw [← HX.out]; exact onLast_set (f := fun b => ⟨b.f0, b.f1, ⟨5, ([] : List Int), ([] : List Int), n0⟩⟩) HNL.out)
    refine ⟨(HKP.out.below HPS.out.base HPS.out.size).trans (HL.out.keepB (n * 6 + 2) [.int .i64 5, .slice none 0 0, .slice none 0 0, .int .i32 n0]), (HKP.out.oth HB.out (by decide)).trans (HL.out.oth (n * 6 + 2) [.int .i64 5, .slice none 0 0, .slice none 0 0, .int .i32 n0]), ?_⟩
    rw [HE.out]
    exact out_of_err p1 (by have := HE.out; unfold errN at this; rw [if_pos rfl] at this; split at this <;> omega)⟩
  clear L hcs hfs hxb hkp harg hto hmk hv0
  have hlast : Aside0 (∀ W : World, W.heap[g]? = wr.heap[g]? → Calls Tryd.prog 54 #[.pointer (some ⟨g, 0, none⟩)] W fun en w' => en = .returned (.pointer (some ⟨gB, n * 6, none⟩)) ∧ ∃ k, W.drewN k = w') := ⟨fun W hW => last_calls g gB n capB _ _ _ _ W hnb (hW.trans HL.out.blk)⟩
  go_region_law (go_simp; go_at_call 54; refine (hlast.out _ (by rfl)).mono ?_; rintro e w8 ⟨rfl, kk, rfl⟩)
  all_goals
    go_end0
    refine ⟨rfl, ?_⟩
    first | exact HEND.out | exact HEND.out.drewN _

end Go.Proofs.YtlmkhllippobaaaDoor.Ps
end
