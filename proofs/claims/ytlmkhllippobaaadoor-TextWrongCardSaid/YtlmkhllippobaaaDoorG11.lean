/- Parts of the proof, one behind the other: Pit, Pl0. -/
import Derived.Test.YtlmkhllippobaaaDoorG07
import Derived.Test.YtlmkhllippobaaaDoorG08
import Derived.Test.YtlmkhllippobaaaDoorG09
import Derived.Test.YtlmkhllippobaaaDoorG10
import Derived.Test.YtlmkhllippobaaaDoorG04
section
/- text.parser.ins, term: all ways in one. -/
set_option linter.unusedVariables false
set_option linter.unusedSimpArgs false
namespace Go.Proofs.YtlmkhllippobaaaDoor.Ps
open Go.RowKit Go.Proofs.YtlmkhllippobaaaDoorW.PrintWords Go.Proofs.YtlmkhllippobaaaDoorW.PrintWords.Kd Go.Proofs.YtlmkhllippobaaaDoorW.PrintMore Go.Proofs.YtlmkhllippobaaaDoorW.PrintMore.Kd Go.Proofs.YtlmkhllippobaaaDoor.Wl Go.Proofs.YtlmkhllippobaaaDoor.Tx Go.Proofs.YtlmkhllippobaaaDoor.Kd Go.Proofs.YtlmkhllippobaaaDoor.Kp Go.Proofs.YtlmkhllippobaaaDoor.Mp

theorem numsW_eq : ∀ l : List ByteArray, numsW l = if l.all okV then some (l.map numV) else none
  | [] => rfl
  | s :: t => by
    unfold numsW
    rw [numsW_eq t, numW_eq]
    simp only [List.all_cons, List.map_cons]
    by_cases h1 : okV s = true <;> by_cases h2 : t.all okV = true <;> simp [h1, h2]
theorem errN_zero (l : List ByteArray) : errN 0 l = if l.all okV then 0 else 71 := by unfold errN; rw [if_pos rfl]
/-- What a parse of one instruction makes of the state. -/
def insS (st : St) (op : Int) (ws : List ByteArray) : Except Int St := match insW op ws with
  | .ok x => .ok ⟨st.params, onLast (fun b => ⟨b.f0, b.f1 ++ [x], b.f2⟩) st.blocks, st.at_⟩
  | .error e => .error e
def termS (st : St) (kind : Int) (ws : List ByteArray) : Except Int St := match termW kind ws with
  | .ok x => .ok ⟨st.params, onLast (fun b => ⟨b.f0, b.f1, x⟩) st.blocks, st.at_⟩
  | .error e => .error e
def phiS (st : St) (ws : List ByteArray) : Except Int St := match phiW ws with
  | .ok x => .ok ⟨st.params, onLast (fun b => ⟨b.f0 ++ [x], b.f1, b.f2⟩) st.blocks, st.at_⟩
  | .error e => .error e
theorem insS_good (st : St) (op : Int) (ws : List ByteArray) (h : (counts op).1 ≤ ws.length ∧ (ws.length : Int) ≤ (counts op).2) :
    insS st op ws = if errN 0 ws = 0 then .ok ⟨st.params, onLast (fun b => ⟨b.f0, b.f1 ++ [mkIns op (ws.map numV)], b.f2⟩) st.blocks, st.at_⟩ else .error 71 := by
  unfold insS insW
  rw [if_pos h, numsW_eq, errN_zero]
  by_cases h1 : ws.all okV = true <;> simp [h1]
theorem insS_bad (st : St) (op : Int) (ws : List ByteArray) (h : ¬ ((counts op).1 ≤ ws.length ∧ (ws.length : Int) ≤ (counts op).2)) : insS st op ws = .error 70 := by
  unfold insS insW
  rw [if_neg h]
theorem termS_good (st : St) (k : Int) (ws : List ByteArray) (h : (tcounts k ws.length).1 ≤ ws.length ∧ (ws.length : Int) ≤ (tcounts k ws.length).2) :
    termS st k ws = if errN 0 ws = 0 then .ok ⟨st.params, onLast (fun b => ⟨b.f0, b.f1, mkTerm k (ws.map numV)⟩) st.blocks, st.at_⟩ else .error 71 := by
  unfold termS termW
  rw [if_pos h, numsW_eq, errN_zero]
  by_cases h1 : ws.all okV = true <;> simp [h1]
theorem termS_bad (st : St) (k : Int) (ws : List ByteArray) (h : ¬ ((tcounts k ws.length).1 ≤ ws.length ∧ (ws.length : Int) ≤ (tcounts k ws.length).2)) : termS st k ws = .error 70 := by
  unfold termS termW
  rw [if_neg h]

theorem phi_calls (B g : Nat) (A : Option Addr) (cap : Nat) (ws : List ByteArray) (st : St) (w : World) (HG : Aside0 (∀ w', Below B w w' → LaidP w')) (hps : PS B g st 0 w) (hr : RdS w A ws) (hc : ws.length ≤ cap) (hl : ws.length ≤ 1099511627776)
    (hw : Aside0 (∀ s ∈ ws, s.size < 4294967281)) (hn : st.blocks ≠ []) (hm : ∀ b ∈ st.blocks, b.f0.length ≤ 1099511627776 ∧ b.f1.length ≤ 1099511627776) :
    Calls Tryd.prog 37 #[.pointer (some ⟨g, 0, none⟩), .slice A ws.length cap] w fun e w' => e = .returned (.tuple #[]) ∧ Stepped B g (phiS st ws) w w' := by
  cases ws with
  | nil => exact phi_nil B g A cap st w hps
  | cons d t =>
    rw [List.length_cons] at hc hl ⊢
    unfold phiS
    rw [phiW_cons]
    by_cases h1 : t.all oneColon = true
    · rw [if_pos h1]
      have := phi_cons B g A cap d t st w HG hps hr hc (by omega) h1 hw hn (fun b hb => (hm b hb).1)
      by_cases h2 : phiE d t = 0
      · rw [if_pos h2] at this ⊢; exact this
      · rw [if_neg h2] at this ⊢; exact this
    · rw [if_neg h1]
      exact phi_odd B g A cap d t st w hps hr hc (by omega) (by simpa using h1)

theorem ins_calls (B g : Nat) (A : Option Addr) (cap : Nat) (op : Int) (ws : List ByteArray) (st : St) (w : World) (HG : Aside0 (∀ w', Below B w w' → LaidP w')) (hps : PS B g st 0 w) (hr : RdS w A ws) (hl : ws.length ≤ 1099511627776)
    (hw : Aside0 (∀ s ∈ ws, s.size < 4294967281)) (hn : st.blocks ≠ []) (hm : ∀ b ∈ st.blocks, b.f0.length ≤ 1099511627776 ∧ b.f1.length ≤ 1099511627776) (h1 : 1 ≤ op) (h18 : op ≤ 18) :
    Calls Tryd.prog 38 #[.pointer (some ⟨g, 0, none⟩), .int .i64 op, .slice A ws.length cap] w fun e w' => e = .returned (.tuple #[]) ∧ Stepped B g (insS st op ws) w w' := by
  have hm2 : ∀ b ∈ st.blocks, b.f1.length ≤ 1099511627776 := fun b hb => (hm b hb).2
  by_cases hop : op = 1
  · subst hop
    by_cases hc : (counts 1).1 ≤ ws.length ∧ (ws.length : Int) ≤ (counts 1).2
    · rw [insS_good st 1 ws hc]
      have hc : (2 : Int) ≤ ws.length ∧ (ws.length : Int) ≤ 2 := hc
      exact insConst B g A cap ws st w HG hps hr hw hn hm2 (by omega) (by omega)
    · rw [insS_bad st 1 ws hc]
      have hc : ¬ ((2 : Int) ≤ ws.length ∧ (ws.length : Int) ≤ 2) := hc
      rcases Nat.lt_or_ge ws.length 2 with h | h
      · exact insConstFew B g A cap _ st w hps hl h
      · exact insConstMany B g A cap _ st w hps hl (by omega)
  by_cases hop2 : op = 15
  · subst hop2
    by_cases hc : (counts 15).1 ≤ ws.length ∧ (ws.length : Int) ≤ (counts 15).2
    · rw [insS_good st 15 ws hc]
      have hc : (3 : Int) ≤ ws.length ∧ (ws.length : Int) ≤ 3 := hc
      exact insLoad B g A cap ws st w HG hps hr hw hn hm2 (by omega) (by omega)
    · rw [insS_bad st 15 ws hc]
      have hc : ¬ ((3 : Int) ≤ ws.length ∧ (ws.length : Int) ≤ 3) := hc
      rcases Nat.lt_or_ge ws.length 3 with h | h
      · exact insLoadFew B g A cap _ st w hps hl h
      · exact insLoadMany B g A cap _ st w hps hl (by omega)
  by_cases hop3 : op = 16
  · subst hop3
    by_cases hc : (counts 16).1 ≤ ws.length ∧ (ws.length : Int) ≤ (counts 16).2
    · rw [insS_good st 16 ws hc]
      have hc : (3 : Int) ≤ ws.length ∧ (ws.length : Int) ≤ 3 := hc
      exact insStore B g A cap ws st w HG hps hr hw hn hm2 (by omega) (by omega)
    · rw [insS_bad st 16 ws hc]
      have hc : ¬ ((3 : Int) ≤ ws.length ∧ (ws.length : Int) ≤ 3) := hc
      rcases Nat.lt_or_ge ws.length 3 with h | h
      · exact insStoreFew B g A cap _ st w hps hl h
      · exact insStoreMany B g A cap _ st w hps hl (by omega)
  by_cases hop4 : op = 17
  · subst hop4
    by_cases hc : (counts 17).1 ≤ ws.length ∧ (ws.length : Int) ≤ (counts 17).2
    · rw [insS_good st 17 ws hc]
      have hc : (2 : Int) ≤ ws.length ∧ (ws.length : Int) ≤ 6 := hc
      exact insCall B g A cap ws st w HG hps hr hw hn hm2 (by omega) (by omega)
    · rw [insS_bad st 17 ws hc]
      have hc : ¬ ((2 : Int) ≤ ws.length ∧ (ws.length : Int) ≤ 6) := hc
      rcases Nat.lt_or_ge ws.length 2 with h | h
      · exact insCallFew B g A cap _ st w hps hl h
      · exact insCallMany B g A cap _ st w hps hl (by omega)
  by_cases hop5 : op = 18
  · subst hop5
    by_cases hc : (counts 18).1 ≤ ws.length ∧ (ws.length : Int) ≤ (counts 18).2
    · rw [insS_good st 18 ws hc]
      have hc : (4 : Int) ≤ ws.length ∧ (ws.length : Int) ≤ 4 := hc
      exact insMulw B g A cap ws st w HG hps hr hw hn hm2 (by omega) (by omega)
    · rw [insS_bad st 18 ws hc]
      have hc : ¬ ((4 : Int) ≤ ws.length ∧ (ws.length : Int) ≤ 4) := hc
      rcases Nat.lt_or_ge ws.length 4 with h | h
      · exact insMulwFew B g A cap _ st w hps hl h
      · exact insMulwMany B g A cap _ st w hps hl (by omega)
  have hcs : counts op = (3, 3) := by unfold counts; rw [if_neg hop, if_neg hop4, if_neg hop5]
  by_cases hc : (counts op).1 ≤ ws.length ∧ (ws.length : Int) ≤ (counts op).2
  · rw [insS_good st op ws hc]
    rw [hcs] at hc
    exact insPlain B g A cap ws op (by omega) (by omega) st w HG hps hr hw hn hm2 (by omega) (by omega)
  · rw [insS_bad st op ws hc]
    rw [hcs] at hc
    have hc : ¬ ((3 : Int) ≤ ws.length ∧ (ws.length : Int) ≤ 3) := hc
    rcases Nat.lt_or_ge ws.length 3 with h | h
    · exact insPlainFew B g A cap _ op (by omega) (by omega) st w hps hl h
    · exact insPlainMany B g A cap _ op (by omega) (by omega) st w hps hl (by omega)

theorem term_calls (B g : Nat) (A : Option Addr) (cap : Nat) (k : Int) (ws : List ByteArray) (st : St) (w : World) (HG : Aside0 (∀ w', Below B w w' → LaidP w')) (hps : PS B g st 0 w) (hr : RdS w A ws) (hl : ws.length ≤ 1099511627776)
    (hw : Aside0 (∀ s ∈ ws, s.size < 4294967281)) (hn : st.blocks ≠ []) (h1 : 1 ≤ k) (h5 : k ≤ 5) :
    Calls Tryd.prog 39 #[.pointer (some ⟨g, 0, none⟩), .int .i64 k, .slice A ws.length cap] w fun e w' => e = .returned (.tuple #[]) ∧ Stepped B g (termS st k ws) w w' := by
  have hk : k = 1 ∨ k = 2 ∨ k = 3 ∨ k = 4 ∨ k = 5 := by omega
  rcases hk with rfl | rfl | rfl | rfl | rfl
  · by_cases hc : (tcounts 1 ws.length).1 ≤ ws.length ∧ (ws.length : Int) ≤ (tcounts 1 ws.length).2
    · rw [termS_good st 1 ws hc]
      have hc : (1 : Int) ≤ ws.length ∧ (ws.length : Int) ≤ 1 := hc
      exact termJump B g A cap ws st w HG hps hr hw hn (by omega) (by omega)
    · rw [termS_bad st 1 ws hc]
      have hc : ¬ ((1 : Int) ≤ ws.length ∧ (ws.length : Int) ≤ 1) := hc
      rcases Nat.lt_or_ge ws.length 1 with h | h
      · exact termJumpFew B g A cap _ st w hps hl h
      · exact termJumpMany B g A cap _ st w hps hl (by omega)
  · by_cases hc : (tcounts 2 ws.length).1 ≤ ws.length ∧ (ws.length : Int) ≤ (tcounts 2 ws.length).2
    · rw [termS_good st 2 ws hc]
      have hc : (3 : Int) ≤ ws.length ∧ (ws.length : Int) ≤ 3 := hc
      exact termBranch B g A cap ws st w HG hps hr hw hn (by omega) (by omega)
    · rw [termS_bad st 2 ws hc]
      have hc : ¬ ((3 : Int) ≤ ws.length ∧ (ws.length : Int) ≤ 3) := hc
      rcases Nat.lt_or_ge ws.length 3 with h | h
      · exact termBranchFew B g A cap _ st w hps hl h
      · exact termBranchMany B g A cap _ st w hps hl (by omega)
  · by_cases hc : (tcounts 3 ws.length).1 ≤ ws.length ∧ (ws.length : Int) ≤ (tcounts 3 ws.length).2
    · rw [termS_good st 3 ws hc]
      have hc : (2 : Int) ≤ ws.length ∧ (ws.length : Int) ≤ ws.length := hc
      exact termSwitch B g A cap ws st w HG hps hr hw hn (by omega) hl
    · rw [termS_bad st 3 ws hc]
      have hc : ¬ ((2 : Int) ≤ ws.length ∧ (ws.length : Int) ≤ ws.length) := hc
      exact termSwitchFew B g A cap _ st w hps hl (by omega)
  · by_cases hc : (tcounts 4 ws.length).1 ≤ ws.length ∧ (ws.length : Int) ≤ (tcounts 4 ws.length).2
    · rw [termS_good st 4 ws hc]
      have hc : (0 : Int) ≤ ws.length ∧ (ws.length : Int) ≤ 1 := hc
      exact termRet B g A cap ws st w HG hps hr hw hn (by omega) (by omega)
    · rw [termS_bad st 4 ws hc]
      have hc : ¬ ((0 : Int) ≤ ws.length ∧ (ws.length : Int) ≤ 1) := hc
      exact termRetMany B g A cap _ st w hps hl (by omega)
  · by_cases hc : (tcounts 5 ws.length).1 ≤ ws.length ∧ (ws.length : Int) ≤ (tcounts 5 ws.length).2
    · rw [termS_good st 5 ws hc]
      have hc : (1 : Int) ≤ ws.length ∧ (ws.length : Int) ≤ 1 := hc
      exact termTrap B g A cap ws st w HG hps hr hw hn (by omega) (by omega)
    · rw [termS_bad st 5 ws hc]
      have hc : ¬ ((1 : Int) ≤ ws.length ∧ (ws.length : Int) ≤ 1) := hc
      rcases Nat.lt_or_ge ws.length 1 with h | h
      · exact termTrapFew B g A cap _ st w hps hl h
      · exact termTrapMany B g A cap _ st w hps hl (by omega)
end Go.Proofs.YtlmkhllippobaaaDoor.Ps
end
section
/- text.parser.line: what its ways share. -/
set_option linter.unusedVariables false
set_option linter.unusedSimpArgs false
namespace Go.Proofs.YtlmkhllippobaaaDoor.Ps
open Go.RowKit Go.Proofs.YtlmkhllippobaaaDoorW.PrintWords Go.Proofs.YtlmkhllippobaaaDoorW.PrintWords.Kd Go.Proofs.YtlmkhllippobaaaDoorW.PrintMore Go.Proofs.YtlmkhllippobaaaDoorW.PrintMore.Kd Go.Proofs.YtlmkhllippobaaaDoor.Wl Go.Proofs.YtlmkhllippobaaaDoor.Tx Go.Proofs.YtlmkhllippobaaaDoor.Kd Go.Proofs.YtlmkhllippobaaaDoor.Kp Go.Proofs.YtlmkhllippobaaaDoor.Mp
attribute [local go_sem ↓] Go.wp_at_zero Go.wp_at_succ

theorem under_fm : Tryd.prog.underlying 87 = some (.map 9 22) := by kernel_rfl
theorem under_s : Tryd.prog.underlying 9 = some .string := by kernel_rfl
theorem zero_fn (w : World) : (zeroValue 22).run Tryd.prog w = .ok .nilFunc w := by kernel_rfl

theorem termStrs_len : termStrs.length = 5 := by unfold termStrs; rw [List.length_map, Wb.termList_len]
theorem termStrs_at (j : Nat) (h : j < 5) : termStrs.getD j ByteArray.empty = ⟨(termList.getD j []).toArray⟩ := by
  have h1 : j < termList.length := by rw [Wb.termList_len]; exact h
  unfold termStrs
  rw [List.getD_eq_getElem?_getD, List.getElem?_map, List.getElem?_eq_getElem h1, List.getD_eq_getElem?_getD, List.getElem?_eq_getElem h1]
  rfl
theorem terms_cells (w : World) : ∀ j, j < termStrs.length → (w.alloc (.cells Wb.termVals.toArray 9)).cell? ⟨w.heap.size, 0 + j, none⟩ = some (.string (termStrs.getD j ByteArray.empty)) := by
  intro j hj
  rw [termStrs_len] at hj
  rw [Nat.zero_add, Wb.term_cell w j hj, termStrs_at j hj]
theorem op_bounds (s : ByteArray) : 0 ≤ opOf s ∧ opOf s ≤ 18 := by
  have := idx_bounds nameStrs s
  rw [nameStrs_len] at this
  unfold opOf
  omega

set_option maxHeartbeats 1000000 in
set_option maxRecDepth 100000 in
theorem ok_func (g gp gr : Nat) (A : Option Addr) (n c : Nat) (k : Int) (W : World) (hp : W.cell? ⟨gp, 0, none⟩ = some (.pointer (some ⟨g, 0, none⟩))) (hr : W.cell? ⟨gr, 0, none⟩ = some (.slice A n c)) (ha : W.cell? ⟨g, 2, none⟩ = some (.int .i64 k)) :
    Calls Tryd.prog 30 #[.pointer (some ⟨gp, 0, none⟩), .pointer (some ⟨gr, 0, none⟩)] W fun e w' => e = .returned (.bool (decide (k = 0 ∧ n = 1))) ∧ W = w' := by
  by_cases h1 : k = 0
  · subst h1
    by_cases h2 : n = 1
    · subst h2
      go_enter Tryd.func30, Tryd.ntmps30
      go_wp2
      go_ret
      exact ⟨rfl, rfl⟩
    · have h3 : ((n : Int) == 1) = false := by simp; omega
      have H2 := Lib.hid h2
      clear h2
      go_enter Tryd.func30, Tryd.ntmps30
      go_wp2
      go_ret
      exact ⟨by rw [decide_eq_false (fun h => H2.out h.2)]; rfl, rfl⟩
  · have h3 : (k == 0) = false := by simpa using h1
    have H1 := Lib.hid h1
    clear h1
    go_enter Tryd.func30, Tryd.ntmps30
    go_wp2
    go_ret
    exact ⟨by rw [decide_eq_false (fun h => H1.out h.1)]; rfl, rfl⟩

set_option maxHeartbeats 1000000 in
set_option maxRecDepth 100000 in
theorem ok_block (g gp gr : Nat) (A : Option Addr) (n c : Nat) (k : Int) (W : World) (hp : W.cell? ⟨gp, 0, none⟩ = some (.pointer (some ⟨g, 0, none⟩))) (hr : W.cell? ⟨gr, 0, none⟩ = some (.slice A n c)) (ha : W.cell? ⟨g, 2, none⟩ = some (.int .i64 k)) :
    Calls Tryd.prog 31 #[.pointer (some ⟨gp, 0, none⟩), .pointer (some ⟨gr, 0, none⟩)] W fun e w' => e = .returned (.bool (decide (k = 1 ∧ n = 1))) ∧ W = w' := by
  by_cases h1 : k = 1
  · subst h1
    by_cases h2 : n = 1
    · subst h2
      go_enter Tryd.func31, Tryd.ntmps31
      go_wp2
      go_ret
      exact ⟨rfl, rfl⟩
    · have h3 : ((n : Int) == 1) = false := by simp; omega
      have H2 := Lib.hid h2
      clear h2
      go_enter Tryd.func31, Tryd.ntmps31
      go_wp2
      go_ret
      exact ⟨by rw [decide_eq_false (fun h => H2.out h.2)]; rfl, rfl⟩
  · have h3 : (k == 1) = false := by simpa using h1
    have H1 := Lib.hid h1
    clear h1
    go_enter Tryd.func31, Tryd.ntmps31
    go_wp2
    go_ret
    exact ⟨by rw [decide_eq_false (fun h => H1.out h.1)]; rfl, rfl⟩

set_option maxHeartbeats 1000000 in
set_option maxRecDepth 100000 in
theorem ok_phi (g gp : Nat) (k : Int) (W : World) (hp : W.cell? ⟨gp, 0, none⟩ = some (.pointer (some ⟨g, 0, none⟩))) (ha : W.cell? ⟨g, 2, none⟩ = some (.int .i64 k)) :
    Calls Tryd.prog 32 #[.pointer (some ⟨gp, 0, none⟩)] W fun e w' => e = .returned (.bool (decide (k = 2))) ∧ W = w' := by
  by_cases h1 : k = 2
  · subst h1
    go_enter Tryd.func32, Tryd.ntmps32
    go_wp2
    go_ret
    exact ⟨rfl, rfl⟩
  · have h3 : (k == 2) = false := by simpa using h1
    have H1 := Lib.hid h1
    clear h1
    go_enter Tryd.func32, Tryd.ntmps32
    go_wp2
    go_ret
    exact ⟨by rw [decide_eq_false H1.out]; rfl, rfl⟩
theorem cell_heap {W W' : World} (h : W.heap = W'.heap) (a : Addr) : W.cell? a = W'.cell? a := by simp only [World.cell?, h]
theorem Stepped.drew {B g : Nat} {r : Except Int St} {w w' : World} (h : Stepped B g r w w') : Stepped B g r w w'.drew := by
  refine ⟨below_drew h.bel, h.oth, ?_⟩
  have := h.out
  cases r with
  | ok st => exact PS.below this (below_drew (Below.refl _ _))
  | error e => exact this

/-- What nums leaves, called within line. -/
structure AfterNums (B g gp gr : Nat) (st : St) (v : Value) (e : Int) (A : Option Addr) (n c : Nat) (w w' : World) : Prop where
  bel : Below B w w'
  oth : Oth w w'
  blk : w'.heap[g]? = some (.cells (pcells st v e) 57 (0, 0))
  row : S kB 52 w' B (fun k => k ≠ g) v st.blocks
  p : w'.heap[gp]? = some (.cells #[.pointer (some ⟨g, 0, none⟩)] 55 (0, 0))
  r : w'.heap[gr]? = some (.cells #[.slice A n c] 63 (0, 0))
theorem nums_line (B g gp gr : Nat) (A : Option Addr) (c : Nat) (t : List ByteArray) (st : St) (v : Value) (w W : World) (HG : Aside0 (∀ w', Below B w w' → LaidP w')) (hB : B ≤ g) (hs : B ≤ w.heap.size) (hbel : Below w.heap.size w W)
    (hblk : W.heap[g]? = some (.cells (pcells st v 0) 57 (0, 0))) (hS : S kB 52 W B (fun k => k ≠ g) v st.blocks)
    (hp : W.heap[gp]? = some (.cells #[.pointer (some ⟨g, 0, none⟩)] 55 (0, 0))) (hr : W.heap[gr]? = some (.cells #[.slice A t.length c] 63 (0, 0)))
    (hrt : RdS W A t) (hw : ∀ s' ∈ t, s'.size < 4294967281) (hl : t.length = 1) :
    Calls Tryd.prog 36 #[.pointer (some ⟨g, 0, none⟩), .slice A t.length c] W fun e w' => ∃ gn cn n0, e = .returned (.slice (some ⟨gn, 0, none⟩) 1 cn) ∧ w'.cell? ⟨gn, 0, none⟩ = some (.int .i64 n0) ∧ n0 = numV (t.getD 0 ByteArray.empty) ∧
      w'.cell? ⟨gp, 0, none⟩ = some (.pointer (some ⟨g, 0, none⟩)) ∧ w'.cell? ⟨gr, 0, none⟩ = some (.slice A t.length c) ∧ (∀ j u, (pcells st v (errN 0 t))[j]? = some u → w'.cell? ⟨g, j, none⟩ = some u) ∧ (∀ j, w'.frozen? ⟨g, j, none⟩ = false) ∧ AfterNums B g gp gr st v (errN 0 t) A t.length c w w' := by
  have hgp : gp ≠ g := blk_ne hp hblk (by decide)
  have hgr : gr ≠ g := blk_ne hr hblk (by decide)
  have hbd : Below w.heap.size w W := hbel
  refine (nums_calls B g A c t _ _ _ _ 0 W ⟨fun w' h => (HG.out w' ((hbd.mono hs).trans h)).l.t⟩ hB (Nat.le_trans hs hbd.size) (.inl rfl) hblk hrt ⟨fun s' h => by have := hw s' h; omega⟩ (by omega)).mono ?_
  rintro e w' ⟨vn, rfl, hrn, hb8, hk8⟩
  obtain ⟨gn, cn, rfl, _, _, hcn⟩ := ints_at hrn (by rw [List.length_map]; omega)
  rw [List.length_map, hl] at hcn ⊢
  have e0 : (t.map numV).getD 0 0 = numV (t.getD 0 ByteArray.empty) := by
    match t, hl with
    | [x], _ => rfl
  have hp8 : w'.heap[gp]? = some (.cells #[.pointer (some ⟨g, 0, none⟩)] 55 (0, 0)) := (hk8.block gp (blk_lt hp) hgp).trans hp
  have hr8 : w'.heap[gr]? = some (.cells #[.slice A t.length c] 63 (0, 0)) := (hk8.block gr (blk_lt hr) hgr).trans hr
  refine ⟨gn, cn, _, rfl, by rw [← e0]; exact hcn 0 (by omega), rfl, blk_cell hp8 0, by rw [← hl]; exact blk_cell hr8 0, fun j u hu => by rw [blk_cell hb8 j]; exact hu, fun j => blk_frozen hb8 j, ?_⟩
  rw [← hl]
  exact ⟨(hbd.mono hs).trans (hk8.below hB (Nat.le_trans hs hbd.size)), (Oth.below hbd).trans (hk8.oth hblk (by decide)), hb8, S_keepG hS hk8, hp8, hr8⟩
theorem AfterNums.func {B g gp gr n c : Nat} {st : St} {v : Value} {e : Int} {A : Option Addr} {w w' : World} (h : AfterNums B g gp gr st v e A n c w w') (hB : B ≤ g) (hs : B ≤ w.heap.size) (he : e = 0 ∨ e = 71) (p : Int) :
    Stepped B g (if e = 0 then .ok ⟨p, st.blocks, 1⟩ else .error 71) w ((w'.setCell ⟨g, 0, none⟩ (.int .i64 p)).setCell ⟨g, 2, none⟩ (.int .i64 1)) := by
  have b1 := blk_put h.blk 0 (.int .i64 p) rfl
  have b2 := blk_put b1 2 (.int .i64 1) rfl
  have hS : S kB 52 ((w'.setCell ⟨g, 0, none⟩ (.int .i64 p)).setCell ⟨g, 2, none⟩ (.int .i64 1)) B (fun k => k ≠ g) v st.blocks :=
    S_far (p := ⟨g, 2, none⟩) (S_far (p := ⟨g, 0, none⟩) h.row (fun _ hk => hk) _) (fun _ hk => hk) _
  have hz : w'.heap.size = ((w'.setCell ⟨g, 0, none⟩ (.int .i64 p)).setCell ⟨g, 2, none⟩ (.int .i64 1)).heap.size := by simp [World.setCell]
  have hps : PS B g ⟨p, st.blocks, 1⟩ e ((w'.setCell ⟨g, 0, none⟩ (.int .i64 p)).setCell ⟨g, 2, none⟩ (.int .i64 1)) :=
    ⟨hB, by rw [← hz]; exact Nat.le_trans hs h.bel.size, v, b2, hS⟩
  exact ⟨(h.bel.setCell (p := ⟨g, 0, none⟩) hB _).setCell (p := ⟨g, 2, none⟩) hB _, (h.oth.trans (Oth.set_ h.blk (by decide) _ _)).trans (Oth.set_ b1 (by decide) _ _), out_of_err hps he⟩
theorem errN_or (l : List ByteArray) : errN 0 l = 0 ∨ errN 0 l = 71 := by rw [errN_zero]; split <;> simp
/-- What a line makes of the state, way by way. -/
def funcS (st : St) (t : List ByteArray) : Except Int St := if errN 0 t = 0 then .ok ⟨numV (t.getD 0 ByteArray.empty), st.blocks, 1⟩ else .error 71
def blockS (st : St) (t : List ByteArray) : Except Int St := if errN 0 t = 0 then (if numV (t.getD 0 ByteArray.empty) = st.blocks.length then .ok ⟨st.params, st.blocks ++ [zBlock], 2⟩ else .error 70) else .error 71
def atS (r : Except Int St) (k : Int) : Except Int St := match r with
  | .ok st => .ok ⟨st.params, st.blocks, k⟩
  | .error e => .error e
theorem AfterNums.func' {B g gp gr n c : Nat} {st : St} {v : Value} {t : List ByteArray} {A : Option Addr} {w w' : World} (h : AfterNums B g gp gr st v (errN 0 t) A n c w w') (hB : B ≤ g) (hs : B ≤ w.heap.size) (n0 : Int) (hn : n0 = numV (t.getD 0 ByteArray.empty)) :
    Stepped B g (funcS st t) w ((w'.setCell ⟨g, 0, none⟩ (.int .i64 n0)).setCell ⟨g, 2, none⟩ (.int .i64 1)) := by
  subst hn
  exact h.func hB hs (errN_or t) _
theorem AfterNums.must {B g gp gr n c : Nat} {st : St} {v : Value} {e e2 : Int} {A : Option Addr} {w w8 w9 : World} (h : AfterNums B g gp gr st v e A n c w w8) (hB : B ≤ g) (hs : B ≤ w.heap.size) (hk : KeepG g w8 w9) (hb : w9.heap[g]? = some (.cells (pcells st v e2) 57 (0, 0))) : AfterNums B g gp gr st v e2 A n c w w9 :=
  ⟨h.bel.trans (hk.below hB (Nat.le_trans hs h.bel.size)), h.oth.trans (hk.oth h.blk (by decide)), hb, S_keepG h.row hk, (hk.block gp (blk_lt h.p) (blk_ne h.p h.blk (by decide))).trans h.p, (hk.block gr (blk_lt h.r) (blk_ne h.r h.blk (by decide))).trans h.r⟩
theorem AfterNums.block {B g gp gr n c : Nat} {st : St} {v v1 : Value} {e : Int} {A : Option Addr} {w w9 w10 : World} (h : AfterNums B g gp gr st v e A n c w w9) (hB : B ≤ g) (hs : B ≤ w.heap.size) (he : e = 0 ∨ e = 70 ∨ e = 71 ∨ e = 72) (hg : w9.grownBy w10 v.ownBlock)
    (hS : S kB 52 w10 B (fun k => k ≠ g) v1 (st.blocks ++ [zBlock])) :
    Stepped B g (if e = 0 then .ok ⟨st.params, st.blocks ++ [zBlock], 2⟩ else .error e) w ((w10.setCell ⟨g, 1, none⟩ v1).setCell ⟨g, 2, none⟩ (.int .i64 2)) := by
  have hne : some g ≠ v.ownBlock := S_ne h.row h.blk (by decide)
  have b0 := blk_grown h.blk hg hne
  have b1 := blk_put b0 1 v1 rfl
  have b2 := blk_put b1 2 (.int .i64 2) rfl
  have hS2 : S kB 52 ((w10.setCell ⟨g, 1, none⟩ v1).setCell ⟨g, 2, none⟩ (.int .i64 2)) B (fun k => k ≠ g) v1 (st.blocks ++ [zBlock]) :=
    S_far (p := ⟨g, 2, none⟩) (S_far (p := ⟨g, 1, none⟩) hS (fun _ hk => hk) _) (fun _ hk => hk) _
  have hz : w10.heap.size = ((w10.setCell ⟨g, 1, none⟩ v1).setCell ⟨g, 2, none⟩ (.int .i64 2)).heap.size := by simp [World.setCell]
  have hbel : Below B w w10 := h.bel.grown hg (Nat.le_trans hs h.bel.size) (fun k hk => S_base h.row k hk)
  have hoth : Oth w w10 := h.oth.trans (Oth.grown hg (fun k hk => by
    obtain ⟨c, hc⟩ := S_typed h.row k hk
    exact ⟨c, _, _, hc, by decide⟩))
  refine ⟨(hbel.setCell (p := ⟨g, 1, none⟩) hB _).setCell (p := ⟨g, 2, none⟩) hB _, (hoth.trans (Oth.set_ b0 (by decide) _ _)).trans (Oth.set_ b1 (by decide) _ _), ?_⟩
  have hps : PS B g ⟨st.params, st.blocks ++ [zBlock], 2⟩ e ((w10.setCell ⟨g, 1, none⟩ v1).setCell ⟨g, 2, none⟩ (.int .i64 2)) := ⟨hB, by rw [← hz]; exact Nat.le_trans hs hbel.size, v1, b2, hS2⟩
  by_cases h0 : e = 0
  · rw [if_pos h0]; subst h0; exact hps
  · rw [if_neg h0]; exact ⟨⟨_, _, _, _, b2⟩, he.resolve_left h0⟩
theorem blockS_eq (st : St) (t : List ByteArray) (is : Bool) (h : is = decide (numV (t.getD 0 ByteArray.empty) = st.blocks.length)) :
    blockS st t = (if mustE is (errN 0 t) 70 = 0 then .ok ⟨st.params, st.blocks ++ [zBlock], 2⟩ else .error (mustE is (errN 0 t) 70)) := by
  unfold blockS mustE
  rcases errN_or t with he | he
  · rw [he, if_pos rfl, if_pos rfl]
    by_cases hd : numV (t.getD 0 ByteArray.empty) = st.blocks.length
    · rw [if_pos hd, h, decide_eq_true hd]; rfl
    · rw [if_neg hd, h, decide_eq_false hd]; rfl
  · rw [he]
    simp
theorem mustE_is {is : Bool} {e : Int} (h : e = 0 ∨ e = 71) : mustE is e 70 = 0 ∨ mustE is e 70 = 70 ∨ mustE is e 70 = 71 ∨ mustE is e 70 = 72 := by
  unfold mustE
  rcases h with rfl | rfl
  · rw [if_pos rfl]; cases is <;> simp
  · rw [if_neg (by decide)]; simp
theorem zBlock_M (w : World) (B : Nat) (ok : Nat → Prop) : kB.M w B ok zBlock [.slice none 0 0, .slice none 0 0, .int .i64 0, .slice none 0 0, .slice none 0 0, .int .i32 0] :=
  kBlockP_mkM w B ok zBlock (R_nil _ _ _ _ _) (R_nil _ _ _ _ _) ro_nil ro_nil
theorem Stepped.later {B g : Nat} {r : Except Int St} {w W w' : World} (hb : Below w.heap.size w W) (hs : B ≤ w.heap.size) (h : Stepped B g r W w') : Stepped B g r w w' :=
  ⟨(hb.mono hs).trans h.bel, (Oth.below hb).trans h.oth, h.out⟩
theorem Out.cells {B g : Nat} {r : Except Int St} {w : World} (h : Out B g r w) : ∃ a b c e d, w.heap[g]? = some (.cells #[a, b, c, .int .i64 e, d] 57 (0, 0)) := by
  cases r with
  | ok st =>
    obtain ⟨v, hv, _⟩ := PS.ex h
    exact ⟨_, _, _, _, _, hv⟩
  | error e =>
    obtain ⟨⟨a, b, c, d, h⟩, _⟩ := h
    exact ⟨_, _, _, _, _, h⟩
theorem Stepped.at {B g : Nat} {r : Except Int St} {w w' : World} (h : Stepped B g r w w') (hB : B ≤ g) (k : Int) : Stepped B g (atS r k) w (w'.setCell ⟨g, 2, none⟩ (.int .i64 k)) := by
  obtain ⟨a, b, c, e, d, hb⟩ := h.out.cells
  refine ⟨h.bel.setCell (p := ⟨g, 2, none⟩) hB _, h.oth.trans (Oth.set_ hb (by decide) _ _), ?_⟩
  have ho := h.out
  cases r with
  | ok st =>
    obtain ⟨v, hv, hS⟩ := PS.ex ho
    exact ⟨PS.base ho, by have := PS.size ho; simpa [World.setCell] using this, v, blk_put hv 2 _ rfl, S_far (p := ⟨g, 2, none⟩) hS (fun _ hk => hk) _⟩
  | error e =>
    obtain ⟨⟨a, b, c, d, hc⟩, he⟩ := ho
    exact ⟨⟨_, _, _, _, blk_put hc 2 _ rfl⟩, he⟩
theorem lit_ne {s : ByteArray} (l : List UInt8) (h : s ≠ ⟨l.toArray⟩) : (s.toList == l) = false := by
  rw [beq_eq_false_iff_ne, ByteArray.toList_eq]
  intro e
  apply h
  cases s with
  | mk d => exact congrArg ByteArray.mk (Array.toList_inj.1 e)
end Go.Proofs.YtlmkhllippobaaaDoor.Ps
end
