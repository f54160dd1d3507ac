/- Parts of the proof, one behind the other: Ps, Nums, Kp, Lent, Cf. -/
import Derived.Test.YtlmkhllippobaaaDoorG04
import Derived.Test.YtlmkhllippobaaaDoorG05
import Derived.Test.YtlmkhllippobaaaDoorG03
import Derived.Test.YtlmkhllippobaaaDoorG01
import Derived.Test.YtlmkhllippobaaaDoorG02
import Derived.Lib.Hide
import Derived.Deep.LoopGhost
import Derived.Deep.QuietTactic
import Derived.BigQuiet
import Derived.RegionTactic
import Derived.Outline
import Derived.Deep.AppendLies
section
/- The parser's state, as the heap holds it: text.parser; its must, last and nums, walked. -/
set_option linter.unusedVariables false
set_option linter.unusedSimpArgs false
namespace Go.Proofs.YtlmkhllippobaaaDoor.Ps
open Go.RowKit Go.Proofs.YtlmkhllippobaaaDoorW.PrintWords Go.Proofs.YtlmkhllippobaaaDoorW.PrintWords.Kd Go.Proofs.YtlmkhllippobaaaDoorW.PrintMore.Kd Go.Proofs.YtlmkhllippobaaaDoor.Wl Go.Proofs.YtlmkhllippobaaaDoor.Tx Go.Proofs.YtlmkhllippobaaaDoor.Kd

abbrev tP := 57
abbrev tB := 52
abbrev tS := 9
/-- The types of the blocks that a parser writes. -/
def muts : List Nat := [57, 52, 76, 46, 37]
/-- All other blocks stay. -/
def Oth (w w' : World) : Prop := ∀ (k : Nat) (o : Obj), w.heap[k]? = some o → (∀ (c : Array Value) (t : Nat) (fz : Nat × Nat), o = .cells c t fz → t ∉ muts) → w'.heap[k]? = some o
theorem Oth.refl (w : World) : Oth w w := fun _ _ h _ => h
theorem Oth.trans {a b c : World} (h : Oth a b) (k : Oth b c) : Oth a c := fun i o hi ho => k i o (h i o hi ho) ho
theorem Oth.below {w w' : World} (h : Below w.heap.size w w') : Oth w w' := fun _ _ hk _ => blk_below hk h
theorem Oth.blk {w w' : World} {k : Nat} {c : Array Value} {t : TypeId} {fz : Nat × Nat} (h : Oth w w') (hk : w.heap[k]? = some (.cells c t fz)) (ht : t ∉ muts) : w'.heap[k]? = some (.cells c t fz) :=
  h k _ hk (fun c' t' fz' e => by injection e with _ e; rw [← e]; exact ht)
theorem Oth.set_ {w : World} {g : Nat} {c : Array Value} {t : TypeId} {fz : Nat × Nat} (hg : w.heap[g]? = some (.cells c t fz)) (ht : t ∈ muts) (j : Nat) (v : Value) : Oth w (w.setCell ⟨g, j, none⟩ v) := by
  intro k o hk ho
  by_cases e : k = g
  · subst e
    rw [hg] at hk
    injection hk with hk
    exact absurd ht (ho _ _ _ hk.symm)
  · exact (Below.heap_setCell w ⟨g, j, none⟩ v k e).trans hk
theorem Oth.grown {w w' : World} {row : Option Nat} (hg : w.grownBy w' row) (hr : ∀ g, row = some g → ∃ c t fz, w.heap[g]? = some (.cells c t fz) ∧ t ∈ muts) : Oth w w' := by
  intro k o hk ho
  refine (hg.block k (blk_lt hk) (fun e => ?_)).trans hk
  obtain ⟨c, t, fz, hc, ht⟩ := hr k e.symm
  rw [hc] at hk
  injection hk with hk
  exact ho _ _ _ hk.symm ht

/-- All blocks but g stay. -/
structure KeepG (g : Nat) (w w' : World) : Prop where
  os : w'.os = w.os
  tape : w'.tape = w.tape
  output : w'.output = w.output
  size : w.heap.size ≤ w'.heap.size
  block : ∀ k, k < w.heap.size → k ≠ g → w'.heap[k]? = w.heap[k]?
theorem KeepG.refl (g : Nat) (w : World) : KeepG g w w := ⟨rfl, rfl, rfl, Nat.le_refl _, fun _ _ _ => rfl⟩
theorem KeepG.trans {g : Nat} {a b c : World} (h : KeepG g a b) (k : KeepG g b c) : KeepG g a c :=
  ⟨k.os.trans h.os, k.tape.trans h.tape, k.output.trans h.output, Nat.le_trans h.size k.size, fun i hi hn => (k.block i (Nat.lt_of_lt_of_le hi h.size) hn).trans (h.block i hi hn)⟩
theorem KeepG.of_below {g : Nat} {w w' : World} (h : Below w.heap.size w w') : KeepG g w w' := ⟨h.os, h.tape, h.output, h.size, fun k hk _ => h.block k hk⟩
theorem KeepG.set_ (g : Nat) (w : World) (j : Nat) (v : Value) : KeepG g w (w.setCell ⟨g, j, none⟩ v) :=
  ⟨rfl, rfl, rfl, by simp [World.setCell], fun k _ hn => Below.heap_setCell w ⟨g, j, none⟩ v k hn⟩
theorem KeepG.below {g B : Nat} {w w' : World} (h : KeepG g w w') (hB : B ≤ g) (hs : B ≤ w.heap.size) : Below B w w' :=
  ⟨h.os, h.tape, h.output, h.size, fun k hk => h.block k (Nat.lt_of_lt_of_le hk hs) (by omega)⟩
theorem KeepG.oth {g : Nat} {w w' : World} {c : Array Value} {t : TypeId} {fz : Nat × Nat} (h : KeepG g w w') (hg : w.heap[g]? = some (.cells c t fz)) (ht : t ∈ muts) : Oth w w' := by
  intro k o hk ho
  refine (h.block k (blk_lt hk) (fun e => ?_)).trans hk
  subst e
  rw [hg] at hk
  injection hk with hk
  exact ho _ _ _ hk.symm ht

theorem KeepG.grown {g : Nat} {w w1 w2 : World} {row : Option Nat} (h : KeepG g w w1) (hg : w1.grownBy w2 row) (hr : ∀ k, row = some k → w.heap.size ≤ k) : KeepG g w w2 :=
  ⟨hg.os.trans h.os, hg.tape.trans h.tape, hg.output.trans h.output, Nat.le_trans h.size hg.size, fun k hk hn => (hg.block k (Nat.lt_of_lt_of_le hk h.size) (fun e => by have := hr k e.symm; omega)).trans (h.block k hk hn)⟩

theorem KeepG.drew {g : Nat} {w w1 : World} (h : KeepG g w w1) : KeepG g w w1.drew := ⟨h.os, h.tape, h.output, h.size, h.block⟩
theorem KeepG.drewN {g : Nat} {w w1 : World} (h : KeepG g w w1) (n : Nat) : KeepG g w (w1.drewN n) := ⟨h.os, h.tape, h.output, h.size, h.block⟩
theorem KeepG.far {g gx : Nat} {w w1 : World} (h : KeepG g w w1) (hx : w.heap.size ≤ gx) (j : Nat) (u : Value) : KeepG g w (w1.setCell ⟨gx, j, none⟩ u) :=
  ⟨h.os, h.tape, h.output, by simpa [World.setCell] using h.size, fun k hk hn => (Below.heap_setCell w1 ⟨gx, j, none⟩ u k (by show k ≠ gx; omega)).trans (h.block k hk hn)⟩

/-- Words that are only read: they lie in a block of strings. -/
def tyS (w : World) (k : Nat) : Prop := ∃ c fz, w.heap[k]? = some (.cells c 9 fz)
def RdS (w : World) (A : Option Addr) (ws : List ByteArray) : Prop := F Kd.string w (tyS w) A ws.length ws
theorem RdS.oth {w w' : World} {A : Option Addr} {ws : List ByteArray} (h : RdS w A ws) (ho : Oth w w') : RdS w' A ws := by
  refine F_mono (F_step h (fun k hk _ => ?_)) (fun k hk => ?_)
  · obtain ⟨c, fz, hc⟩ := hk
    rw [hc]
    exact ho.blk hc (by decide)
  · obtain ⟨c, fz, hc⟩ := hk
    exact ⟨c, fz, ho.blk hc (by decide)⟩
theorem RdS.now {w : World} {A : Option Addr} {ws : List ByteArray} (h : RdS w A ws) : Kd.string.C w A ws.length ws := F_now h
theorem RdS.below {w w' : World} {A : Option Addr} {ws : List ByteArray} (h : RdS w A ws) (hb : Below w.heap.size w w') : RdS w' A ws := h.oth (Oth.below hb)
theorem RdS.of_R {w : World} {base : Nat} {ok : Nat → Prop} {A : Option Addr} {n c : Nat} {ws : List ByteArray} (h : Kd.string.R 9 w base ok (.slice A n c) ws) : n = ws.length ∧ n ≤ c ∧ RdS w A ws := by
  obtain ⟨h1, h2, _⟩ := R_reads' h
  refine ⟨h1, h2, fun W' hW => ?_⟩
  have := R_step (w1 := W') (R_bound h) (fun k hk _ => hW k (by
    obtain ⟨_, _, _, q, hq, cells, hc⟩ := hk
    have : q = 9 := by simpa [Kd.string, Kd.scalar] using hq
    subst this
    exact ⟨cells, (0, 0), hc⟩) hk.2.2.1)
  exact (R_reads' this).2.2

/-! ### must -/
set_option maxHeartbeats 1000000 in
set_option maxRecDepth 100000 in
theorem must_yes (g : Nat) (a b c d : Value) (e : Int) (w : World) (hb : w.heap[g]? = some (.cells #[a, b, c, .int .i64 0, d] 57 (0, 0))) :
    Calls Tryd.prog 35 #[.pointer (some ⟨g, 0, none⟩), .bool true, .int .i64 e] w fun en w' => en = .returned (.bool true) ∧ w = w' := by
  have c3 : w.cell? ⟨g, 3, none⟩ = some (.int .i64 0) := by rw [Lib.cell_of_heap hb]; rfl
  clear hb
  go_enter Tryd.func35, Tryd.ntmps35
  go_wp2
  go_ret
  exact ⟨rfl, rfl⟩
set_option maxHeartbeats 1000000 in
set_option maxRecDepth 100000 in
theorem must_no (g : Nat) (a b c d : Value) (e : Int) (he : e = 70 ∨ e = 71 ∨ e = 72) (w : World) (hb : w.heap[g]? = some (.cells #[a, b, c, .int .i64 0, d] 57 (0, 0))) :
    Calls Tryd.prog 35 #[.pointer (some ⟨g, 0, none⟩), .bool false, .int .i64 e] w fun en w' => en = .returned (.bool false) ∧ w.setCell ⟨g, 3, none⟩ (.int .i64 e) = w' := by
  have c3 : w.cell? ⟨g, 3, none⟩ = some (.int .i64 0) := by rw [Lib.cell_of_heap hb]; rfl
  have f3 : w.frozen? ⟨g, 3, none⟩ = false := Lib.frozen_of_heap hb 3
  have hb2 := blk_set hb 3 (.int .i64 e)
  have c4 : (w.setCell ⟨g, 3, none⟩ (.int .i64 e)).cell? ⟨g, 3, none⟩ = some (.int .i64 e) := by rw [Lib.cell_of_heap hb2]; rfl
  clear hb hb2
  rcases he with rfl | rfl | rfl
  all_goals
    go_enter Tryd.func35, Tryd.ntmps35
    go_wp2
    go_ret
    exact ⟨rfl, rfl⟩
set_option maxHeartbeats 1000000 in
set_option maxRecDepth 100000 in
theorem must_off (g : Nat) (a b c d : Value) (e e0 : Int) (is : Bool) (h0 : e0 = 70 ∨ e0 = 71 ∨ e0 = 72) (w : World) (hb : w.heap[g]? = some (.cells #[a, b, c, .int .i64 e0, d] 57 (0, 0))) :
    Calls Tryd.prog 35 #[.pointer (some ⟨g, 0, none⟩), .bool is, .int .i64 e] w fun en w' => en = .returned (.bool false) ∧ w = w' := by
  have c3 : w.cell? ⟨g, 3, none⟩ = some (.int .i64 e0) := by rw [Lib.cell_of_heap hb]; rfl
  clear hb
  rcases h0 with rfl | rfl | rfl <;> cases is
  all_goals
    go_enter Tryd.func35, Tryd.ntmps35
    go_wp2
    go_ret
    exact ⟨rfl, rfl⟩

/-! ### last -/
set_option maxHeartbeats 1000000 in
set_option maxRecDepth 100000 in
theorem last_calls (g gB n cap : Nat) (a c e d : Value) (w : World) (hn : n + 1 ≤ 9223372036854775807) (hb : w.heap[g]? = some (.cells #[a, .slice (some ⟨gB, 0, none⟩) (n + 1) cap, c, e, d] 57 (0, 0))) :
    Calls Tryd.prog 54 #[.pointer (some ⟨g, 0, none⟩)] w fun en w' => en = .returned (.pointer (some ⟨gB, n * 6, none⟩)) ∧ ∃ k, w.drewN k = w' := by
  have c1 : w.cell? ⟨g, 1, none⟩ = some (.slice (some ⟨gB, 0, none⟩) (n + 1) cap) := by rw [Lib.cell_of_heap hb]; rfl
  clear hb
  have hsub : IntKind.i64.wrap (((n + 1 : Nat) : Int) - 1) = (n : Int) := by rw [IntWalk.i64_in _ (by omega)]; omega
  have hsub2 : wrap64 (((n + 1 : Nat) : Int) - 1) = (n : Int) := by unfold wrap64; omega
  go_enter Tryd.func54, Tryd.ntmps54
  go_wp2
  go_quiet (fail)
  go_wp2
  go_ret
  exact ⟨rfl, _, rfl⟩
end Go.Proofs.YtlmkhllippobaaaDoor.Ps
end
section
/- text.parser.nums: numbers of words, walked. -/
set_option linter.unusedVariables false
set_option linter.unusedSimpArgs false
namespace Go.Proofs.YtlmkhllippobaaaDoor.Ps
open Go.RowKit Go.Proofs.YtlmkhllippobaaaDoorW.PrintWords Go.Proofs.YtlmkhllippobaaaDoorW.PrintWords.Kd Go.Proofs.YtlmkhllippobaaaDoorW.PrintMore.Kd Go.Proofs.YtlmkhllippobaaaDoor.Wl Go.Proofs.YtlmkhllippobaaaDoor.Tx Go.Proofs.YtlmkhllippobaaaDoor.Kd

def numV (s : ByteArray) : Int := (parseW s.data.toList).1
def okV (s : ByteArray) : Bool := (parseW s.data.toList).2
theorem numV_range (s : ByteArray) : -2147483648 ≤ numV s ∧ numV s ≤ 2147483647 := by
  unfold numV
  cases hb : (parseW s.data.toList).2
  · have : parseW s.data.toList = ((parseW s.data.toList).1, false) := by rw [← hb]
    rw [Dec.parseW_false this]
    omega
  · have : parseW s.data.toList = ((parseW s.data.toList).1, true) := by rw [← hb]
    exact (Dec.parseW_true this).2
def errN (e0 : Int) (l : List ByteArray) : Int := if e0 = 0 then (if l.all okV then 0 else 71) else e0
theorem errN_nil (e0 : Int) : errN e0 [] = e0 := by unfold errN; split <;> simp_all
theorem errN_snoc (e0 : Int) (l : List ByteArray) (s : ByteArray) : errN e0 (l ++ [s]) = if errN e0 l = 0 then (if okV s then 0 else 71) else errN e0 l := by
  unfold errN
  by_cases h : e0 = 0
  · simp only [h, if_true, List.all_append, List.all_cons, List.all_nil, Bool.and_true]
    cases h1 : l.all okV <;> cases h2 : okV s <;> simp
  · simp [h]
def isErr (e : Int) : Prop := e = 0 ∨ e = 70 ∨ e = 71 ∨ e = 72
theorem errN_is {e0 : Int} (h : isErr e0) (l : List ByteArray) : isErr (errN e0 l) := by
  unfold errN
  split
  · split
    · exact .inl rfl
    · exact .inr (.inr (.inl rfl))
  · exact h
def mustE (is : Bool) (e0 e : Int) : Int := if e0 = 0 then (if is then 0 else e) else e0
theorem must_any (g : Nat) (a b c d : Value) (e e0 : Int) (is : Bool) (h0 : isErr e0) (he : e = 70 ∨ e = 71 ∨ e = 72) (w : World) (hb : w.heap[g]? = some (.cells #[a, b, c, .int .i64 e0, d] 57 (0, 0))) :
    Calls Tryd.prog 35 #[.pointer (some ⟨g, 0, none⟩), .bool is, .int .i64 e] w fun en w' => (∃ r, en = .returned (.bool r)) ∧ w'.heap[g]? = some (.cells #[a, b, c, .int .i64 (mustE is e0 e), d] 57 (0, 0)) ∧ KeepG g w w' := by
  by_cases h : e0 = 0
  · subst h
    cases is
    · refine (must_no g a b c d e he w hb).mono ?_
      rintro en w' ⟨rfl, rfl⟩
      exact ⟨⟨_, rfl⟩, blk_put hb 3 _ rfl, KeepG.set_ _ _ _ _⟩
    · refine (must_yes g a b c d e w hb).mono ?_
      rintro en w' ⟨rfl, rfl⟩
      exact ⟨⟨_, rfl⟩, hb, KeepG.refl _ _⟩
  · refine (must_off g a b c d e e0 is (h0.resolve_left h) w hb).mono ?_
    rintro en w' ⟨rfl, rfl⟩
    exact ⟨⟨_, rfl⟩, by unfold mustE; rw [if_neg h]; exact hb, KeepG.refl _ _⟩

set_option maxHeartbeats 4000000 in
set_option maxRecDepth 100000 in
theorem nums_calls (B g : Nat) (A : Option Addr) (cap : Nat) (ws : List ByteArray) (a b c d : Value) (e0 : Int) (w : World)
    (HG : Aside0 (∀ w', Below B w w' → LaidT w')) (hB : B ≤ g) (hs : B ≤ w.heap.size) (h0 : isErr e0)
    (hb : w.heap[g]? = some (.cells #[a, b, c, .int .i64 e0, d] 57 (0, 0))) (hr : RdS w A ws)
    (hw : Aside0 (∀ s ∈ ws, s.size ≤ 281474976710656)) (hl : ws.length ≤ 1099511627776) :
    Calls Tryd.prog 36 #[.pointer (some ⟨g, 0, none⟩), .slice A ws.length cap] w fun en w' => ∃ v, en = .returned v ∧
      (Kd.int .i64).R 3 w' w.heap.size (fun _ => True) v (ws.map numV) ∧ w'.heap[g]? = some (.cells #[a, b, c, .int .i64 (errN e0 ws), d] 57 (0, 0)) ∧ KeepG g w w' := by
  have HR := Aside0.mk hr
  have H0 := Aside0.mk h0
  have HB := Aside0.mk hb
  have hlt := blk_lt hb
  clear hr h0 hb
  go_enter Tryd.func36, Tryd.ntmps36
  go_wp2
  go_loopg [5, 13] ws.length (fun gk s5 s13 wx => ∃ k : Nat, s13 = .int .i64 (k : Int) ∧ k + gk = ws.length ∧ wx.ownsRow w.heap.size 3 1 s5 ((ws.take k).map numV).length (nums .i64 ((ws.take k).map numV)) ∧ wx.heap[g]? = some (.cells #[a, b, c, .int .i64 (errN e0 (ws.take k)), d] 57 (0, 0)) ∧ KeepG g w wx)
  case atStart =>
    refine ⟨0, rfl, by omega, ?_, ?_, ?_⟩
    · exact own_weaken (own_lit_of (enc := Value.int .i64) w w.heap.size 3 ([] : List Int) (Nat.le_refl _) (by simp)) (Nat.le_refl _)
    · rw [List.take_zero, errN_nil]; exact blk_alloc HB.out _
    · exact KeepG.of_below ((Below.refl _ _).alloc (Nat.le_refl _) _)
  case round =>
    obtain ⟨k, rfl, hk, hown, hbk, hkeep⟩ := hrel
    by_cases hlt : k < ws.length
    · obtain ⟨g', rfl⟩ : ∃ g', gk = g' + 1 := ⟨gk - 1, by omega⟩
      have hrd := HR.out.oth (hkeep.oth HB.out (by decide))
      obtain ⟨ad, rfl, hc⟩ := at_string hrd.now (k : Int) (by omega) (by omega)
      rw [Int.toNat_natCast] at hc
      obtain ⟨s, hsk⟩ : ∃ s, rdOf ByteArray.empty ws (k : Int) = s := ⟨_, rfl⟩
      have hget : ws[k]? = some s := by
        rw [← hsk, List.getElem?_eq_getElem hlt]
        simp [rdOf, List.getD_eq_getElem?_getD, List.getElem?_eq_getElem hlt]
      rw [hsk] at hc
      have hrange := numV_range s
      have HGET := Lib.hid hget
      have HOWN := Aside0.mk hown
      have HBK := Aside0.mk hbk
      have HKEEP := Aside0.mk hkeep
      clear hsk hget hrd hown hbk hkeep
      go_wp2_with fail
      refine (word_Parse.calls s (numV s) (okV s) wr ⟨HG.out _ (HKEEP.out.below hB hs)⟩ (by unfold word_Parse.f; rw [if_pos (hw.out s (List.mem_of_getElem? HGET.out))]; rfl)).mono ?_
      rintro e w1 ⟨rfl, hb1⟩
      have HK1 := Aside0.mk (HKEEP.out.trans (KeepG.of_below hb1))
      have HOWN1 := Aside0.mk (pw_own_below HOWN.out hb1)
      have HBK1 := Aside0.mk (blk_below HBK.out hb1)
      clear hb1
      go_wp2_with fail
      refine (must_any g a b c d 71 (errN e0 (ws.take k)) (okV s) (errN_is H0.out _) (.inr (.inl rfl)) w1 HBK1.out).mono ?_
      rintro e w2 ⟨⟨r2, rfl⟩, hbk2, hk2⟩
      have HK2 := Aside0.mk (HK1.out.trans hk2)
      have HOWN2 := Aside0.mk (own_move (w1 := w2) HOWN1.out (fun k' hk' => hk2.block k' (own_lt HOWN1.out k' hk') (by have := own_base HOWN1.out k' hk'; omega)))
      have HBK2 := Aside0.mk hbk2
      clear hk2 hbk2
      have hcap : (((ws.take k).map numV).length + 1) * 8 ≤ 140737488355328 := by rw [List.length_map, List.length_take]; omega
      have HCAP := Lib.hid hcap
      clear hcap
      go_wp2_with (at_builtin; refine print_append_num (w0 := w2) w.heap.size rfl (.tmp 25) (.tmp 28) 33 3 .i64 8 rfl (by kernel_rfl) (by kernel_rfl) (by decide) u5 ((ws.take k).map numV) (numV s) rfl rfl HOWN2.out (Below.refl _ _) HK2.out.size HCAP.out ?_; intro v3 w3 hown3 hb3 hg3 hat3; have HOWN3 := Aside0.mk hown3; have HG3 := Aside0.mk hg3; clear hown3 hb3 hg3 hat3)
      go_wp2
      go_roundg g'
      case measure => omega
      case rel =>
        have hst : (ws.take (k + 1)) = ws.take k ++ [s] := by rw [List.take_add_one, HGET.out]; rfl
        have hmap : (ws.take (k + 1)).map numV = (ws.take k).map numV ++ [numV s] := by rw [hst, List.map_append]; rfl
        have he : errN e0 (ws.take (k + 1)) = mustE (okV s) (errN e0 (ws.take k)) 71 := by rw [hst, errN_snoc]; rfl
        refine ⟨k + 1, by first | (simp; done) | (simp; unfold wrap64; omega), by omega, ?_, ?_, ?_⟩
        · rw [hmap]; exact HOWN3.out
        · rw [he]
          refine blk_grown HBK2.out HG3.out (fun e => ?_)
          have := own_base HOWN2.out g e.symm
          omega
        · exact HK2.out.grown HG3.out (fun k' hk' => own_base HOWN2.out k' hk')
    · have hke : k = ws.length := by omega
      subst hke
      rw [List.take_length] at hown hbk
      have HOWN := Aside0.mk hown
      have HBK := Aside0.mk hbk
      have HKEEP := Aside0.mk hkeep
      clear hown hbk hkeep
      go_wp2
      go_ret
      exact ⟨_, rfl, R_of_own HOWN.out (fun _ _ => trivial), HBK.out, HKEEP.out⟩
end Go.Proofs.YtlmkhllippobaaaDoor.Ps
end
section
/- Kinds of a parser's own: its rows of operands may begin inside a block. -/
set_option linter.unusedVariables false
namespace Go.Proofs.YtlmkhllippobaaaDoor.Kp
open Go.RowKit Go.Proofs.YtlmkhllippobaaaDoorW.PrintWords Go.Proofs.YtlmkhllippobaaaDoorW.PrintWords.Kd Go.Proofs.YtlmkhllippobaaaDoorW.PrintMore Go.Proofs.YtlmkhllippobaaaDoor.Kd

def tyOf (E : List Nat) (w : World) (k : Nat) : Prop := ∃ q, q ∈ E ∧ ∃ cells, w.heap[k]? = some (.cells cells q (0, 0))
/-- A row that is never written again, made by the call: it may begin inside its block. -/
def ro {α : Type} (e : Nat) (d : Kd α) : Kd (List α) where
  sz := 1
  E := e :: d.E
  K := (Kd.slice e d).K
  M := fun w base ok xs cs => ∃ A c, cs = [.slice A xs.length c] ∧ xs.length ≤ c ∧ F d w (fun k => ok k ∧ base ≤ k ∧ tyOf (e :: d.E) w k) A xs.length xs
  K_len := (Kd.slice e d).K_len
  K_one := (Kd.slice e d).K_one
  K_below := (Kd.slice e d).K_below
  K_of_M := by
    rintro w base ok x cs ⟨A, c, rfl, hl, h⟩
    exact ⟨A, c, rfl, hl, F_now h⟩
  M_mono := by
    rintro w base ok ok' x cs hok ⟨A, c, rfl, hl, h⟩
    exact ⟨A, c, rfl, hl, F_mono h (fun k hk => ⟨hok k hk.1, hk.2⟩)⟩
  M_bound := by
    rintro w base ok x cs ⟨A, c, rfl, hl, h⟩
    refine ⟨A, c, rfl, hl, F_mono (F_bound h) (fun k hk => ?_)⟩
    obtain ⟨⟨h1, h2, h3⟩, h4⟩ := hk
    exact ⟨⟨h1, h2, h4, h3⟩, h2, h3⟩
  M_move := by
    rintro w w1 base ok x cs hm ⟨A, c, rfl, hl, h⟩
    refine ⟨A, c, rfl, hl, F_mono (F_step h (fun k hk _ => hm k hk.1)) (fun k hk => ?_)⟩
    obtain ⟨h1, h2, q, hq, cells, hc⟩ := hk
    exact ⟨h1, h2, q, hq, cells, (hm k h1).trans hc⟩
  M_lower := by
    rintro w base base' ok x cs hb ⟨A, c, rfl, hl, h⟩
    exact ⟨A, c, rfl, hl, F_mono h (fun k hk => ⟨hk.1, Nat.le_trans hb hk.2.1, hk.2.2⟩)⟩
section
variable {α : Type} {d : Kd α} {e : Nat} {w : World} {base : Nat} {ok : Nat → Prop} {xs : List α}
theorem ro_of_R {A : Option Addr} {n c : Nat} (h : d.R e w base ok (.slice A n c) xs) : (ro e d).M w base ok xs [.slice A n c] := by
  obtain ⟨h1, h2, _⟩ := R_reads' h
  subst h1
  refine ⟨A, c, rfl, h2, fun W' hW => ?_⟩
  have := R_step (w1 := W') (R_bound h) (fun k hk hlt => hW k ⟨hk.1, hk.2.1, hk.2.2.2⟩ hlt)
  exact (R_reads' this).2.2
theorem ro_nil : (ro e d).M w base ok ([] : List α) [.slice none 0 0] := ⟨none, 0, rfl, Nat.le_refl _, F_nil d w _⟩
theorem ro_slice {v : Value} (h : (ro e d).M w base ok xs [v]) : ∃ A c, v = .slice A xs.length c := by
  obtain ⟨A, c, hv, _⟩ := h
  injection hv with hv
  exact ⟨A, c, hv⟩
/-- xs[m:] -/
theorem ro_drop {A : Option Addr} {n c m : Nat} (h : (ro e d).M w base ok xs [.slice A n c]) (hm : m ≤ xs.length) : (ro e d).M w base ok (xs.drop m) [.slice (if c = m then A else A.map (·.add (m * d.sz))) (n - m) (c - m)] := by
  obtain ⟨A', c', hv, hl, hF⟩ := h
  injection hv with hv
  injection hv with h1 h2 h3
  subst h1 h2 h3
  refine ⟨_, c - m, ?_, ?_, F_cut hF hm hl⟩
  · rw [List.length_drop]
  · rw [List.length_drop]; omega
/-- xs[:m] -/
theorem ro_take {A : Option Addr} {n c m : Nat} (h : (ro e d).M w base ok xs [.slice A n c]) (hm : m ≤ xs.length) (c' : Nat) (hc : m ≤ c') : (ro e d).M w base ok (xs.take m) [.slice A m c'] := by
  obtain ⟨A', c0, hv, hl, hF⟩ := h
  injection hv with hv
  injection hv with h1 h2 h3
  subst h1 h2 h3
  have hlen : (xs.take m).length = m := by rw [List.length_take]; omega
  refine ⟨A, c', by rw [hlen], by rw [hlen]; exact hc, F_take hF hm⟩
end
abbrev rI := ro 3 (Kd.int .i64)
def kInsP : Kd S46 := Kd.iso (Kd.pair (Kd.int .i64) (Kd.pair (Kd.int .i64) (Kd.pair (Kd.int .i64) (Kd.pair rI (Kd.int .i32))))) (fun x => (x.f0, x.f1, x.f2, x.f3, x.f4))
def kTermP : Kd S49 := Kd.iso (Kd.pair (Kd.int .i64) (Kd.pair rI (Kd.pair rI (Kd.int .i32)))) (fun x => (x.f0, x.f1, x.f2, x.f3))
def kBlockP : Kd S52 := Kd.iso (Kd.pair (Kd.slice 76 k76) (Kd.pair (Kd.slice 46 kInsP) kTermP)) (fun x => (x.f0, x.f1, x.f2))
theorem kInsP_openM {w : World} {base : Nat} {ok : Nat → Prop} {x : S46} {cs : List Value} (h : kInsP.M w base ok x cs) : ∃ v3, cs = [.int .i64 x.f0, .int .i64 x.f1, .int .i64 x.f2, v3, .int .i32 x.f4] ∧ rI.M w base ok x.f3 [v3] := by
  obtain ⟨_, _, rfl, rfl, ⟨_, _, rfl, rfl, ⟨_, _, rfl, rfl, ⟨_, _, rfl, h3, rfl⟩⟩⟩⟩ := h
  obtain ⟨A, c, rfl, hl, hF⟩ := h3
  exact ⟨_, rfl, A, c, rfl, hl, hF⟩
theorem kInsP_mkM (w : World) (base : Nat) (ok : Nat → Prop) (x : S46) {v3 : Value} (g3 : rI.M w base ok x.f3 [v3]) : kInsP.M w base ok x [.int .i64 x.f0, .int .i64 x.f1, .int .i64 x.f2, v3, .int .i32 x.f4] :=
  ⟨[.int .i64 x.f0], [.int .i64 x.f1, .int .i64 x.f2, v3, .int .i32 x.f4], rfl, rfl, ⟨[.int .i64 x.f1], [.int .i64 x.f2, v3, .int .i32 x.f4], rfl, rfl, ⟨[.int .i64 x.f2], [v3, .int .i32 x.f4], rfl, rfl, ⟨[v3], [.int .i32 x.f4], rfl, g3, rfl⟩⟩⟩⟩
theorem kTermP_openM {w : World} {base : Nat} {ok : Nat → Prop} {x : S49} {cs : List Value} (h : kTermP.M w base ok x cs) : ∃ v1 v2, cs = [.int .i64 x.f0, v1, v2, .int .i32 x.f3] ∧ rI.M w base ok x.f1 [v1] ∧ rI.M w base ok x.f2 [v2] := by
  obtain ⟨_, _, rfl, rfl, ⟨_, _, rfl, h1, ⟨_, _, rfl, h2, rfl⟩⟩⟩ := h
  obtain ⟨A, c, rfl, hl, hF⟩ := h1
  obtain ⟨A2, c2, rfl, hl2, hF2⟩ := h2
  exact ⟨_, _, rfl, ⟨A, c, rfl, hl, hF⟩, ⟨A2, c2, rfl, hl2, hF2⟩⟩
theorem kTermP_mkM (w : World) (base : Nat) (ok : Nat → Prop) (x : S49) {v1 : Value} (g1 : rI.M w base ok x.f1 [v1]) {v2 : Value} (g2 : rI.M w base ok x.f2 [v2]) : kTermP.M w base ok x [.int .i64 x.f0, v1, v2, .int .i32 x.f3] :=
  ⟨[.int .i64 x.f0], [v1, v2, .int .i32 x.f3], rfl, rfl, ⟨[v1], [v2, .int .i32 x.f3], rfl, g1, ⟨[v2], [.int .i32 x.f3], rfl, g2, rfl⟩⟩⟩
theorem kBlockP_openM {w : World} {base : Nat} {ok : Nat → Prop} {x : S52} {cs : List Value} (h : kBlockP.M w base ok x cs) : ∃ v0 v1 v3 v4, cs = [v0, v1, .int .i64 x.f2.f0, v3, v4, .int .i32 x.f2.f3] ∧ k76.R 76 w base ok v0 x.f0 ∧ kInsP.R 46 w base ok v1 x.f1 ∧ rI.M w base ok x.f2.f1 [v3] ∧ rI.M w base ok x.f2.f2 [v4] := by
  obtain ⟨_, _, rfl, ⟨v0, rfl, g0⟩, ⟨_, _, rfl, ⟨v1, rfl, g1⟩, s2⟩⟩ := h
  obtain ⟨v3, v4, rfl, g3, g4⟩ := kTermP_openM s2
  exact ⟨v0, v1, v3, v4, rfl, g0, g1, g3, g4⟩
theorem kBlockP_mkM (w : World) (base : Nat) (ok : Nat → Prop) (x : S52) {v0 : Value} (g0 : k76.R 76 w base ok v0 x.f0) {v1 : Value} (g1 : kInsP.R 46 w base ok v1 x.f1) {v3 : Value} (g3 : rI.M w base ok x.f2.f1 [v3]) {v4 : Value} (g4 : rI.M w base ok x.f2.f2 [v4]) : kBlockP.M w base ok x [v0, v1, .int .i64 x.f2.f0, v3, v4, .int .i32 x.f2.f3] :=
  ⟨[v0], [v1, .int .i64 x.f2.f0, v3, v4, .int .i32 x.f2.f3], rfl, ⟨v0, rfl, g0⟩, ⟨[v1], [.int .i64 x.f2.f0, v3, v4, .int .i32 x.f2.f3], rfl, ⟨v1, rfl, g1⟩, kTermP_mkM w base ok x.f2 g3 g4⟩⟩
/-- Read, they are the kit's kinds. -/
theorem ins_C {w : World} {A : Option Addr} {n : Nat} {xs : List S46} (h : kInsP.C w A n xs) : k46.C w A n xs := h
theorem ins_K {w : World} {x : S46} {cs : List Value} (h : kInsP.K w x cs) : k46.K w x cs := h
theorem term_K {w : World} {x : S49} {cs : List Value} (h : kTermP.K w x cs) : k49.K w x cs := h
theorem block_K {w : World} {x : S52} {cs : List Value} (h : kBlockP.K w x cs) : k52.K w x cs := h
theorem block_C {w : World} {A : Option Addr} {n : Nat} {xs : List S52} (h : kBlockP.C w A n xs) : k52.C w A n xs := h
end Go.Proofs.YtlmkhllippobaaaDoor.Kp
end
section
/- The parser's state with its blocks; the last block lent and put back: plain words on heaps, no walk. -/
set_option linter.unusedVariables false
set_option linter.unusedSimpArgs false
namespace Go.Proofs.YtlmkhllippobaaaDoor.Ps
open Go.RowKit Go.Proofs.YtlmkhllippobaaaDoorW.PrintWords Go.Proofs.YtlmkhllippobaaaDoorW.PrintWords.Kd Go.Proofs.YtlmkhllippobaaaDoorW.PrintMore.Kd Go.Proofs.YtlmkhllippobaaaDoor.Wl Go.Proofs.YtlmkhllippobaaaDoor.Tx Go.Proofs.YtlmkhllippobaaaDoor.Kd Go.Proofs.YtlmkhllippobaaaDoor.Kp

section
variable {P : Program} {ops : Array Oper} {o : Oper} {a : Act} {Q : Exit → Act → World → Prop} {Kc : Act → World → Prop} {E : Prop} {α : Type}
theorem grown_later {w W w1 : World} {row : Option Nat} (hW : Below w.heap.size w W) (hg : W.grownBy w1 row) : w.grownBy w1 row :=
  ⟨hg.os.trans hW.os, hg.tape.trans hW.tape, hg.output.trans hW.output, Nat.le_trans hW.size hg.size, fun k hk hn => (hg.block k (Nat.lt_of_lt_of_le hk hW.size) hn).trans (hW.block k hk)⟩
/-- append(v, x) in a drawn region, some way behind the box of x (made at w); what was told of v, x at w. -/
theorem R_append_far (d : Kd α) {w W : World} (base : Nat) (hgd : o.guard = none) (s x : Operand) (t e : TypeId) (z : Value) (bytes : Nat)
    (ho : o.op = .call { callee := .builtin .append, args := #[s, x], argTypes := #[t, t] })
    (ht : P.underlying t = some (.slice e)) (hinfo : (P.info? e).map (fun i => (i.zero, i.size, i.bytes)) = some (some z, d.sz, bytes)) (hz : z.cells.size = d.sz) (hs0 : 0 < d.sz)
    (v : Value) (xs : List α) (p : α) (cs : List Value) (ok okp : Nat → Prop) (hs : a.eval s = v) (hx : a.eval x = .slice (some ⟨w.heap.size, 0, none⟩) 1 1) (hp : d.M w base okp p cs) (hokp : ∀ k, okp k → ok k ∧ some k ≠ v.ownBlock) (hfresh : ∀ k, w.heap.size ≤ k → ok k)
    (HO : d.R e w base ok v xs) (hW : Below w.heap.size w W) (hbox : W.heap[w.heap.size]? = some (.cells cs.toArray e (0, 0))) (hbase : base ≤ w.heap.size) (hl : (xs.length + 1) * bytes ≤ 140737488355328) (h63 : xs.length + 1 ≤ 9223372036854775807)
    (h : ∀ A1 n1 c1 w1, d.R e w1 base ok (.slice A1 n1 c1) (xs ++ [p]) → w.grownBy w1 v.ownBlock → Kc (a.put o.dst (.slice A1 n1 c1)) w1) :
    if Region.wanted o (yielded ops a.tmps) = true then Oper.wp P o a W Kc Q else E := by
  obtain ⟨i0, hi, hzz⟩ := Option.map_eq_some_iff.1 hinfo
  simp only [Prod.mk.injEq] at hzz
  obtain ⟨hz0, hz1, hz2⟩ := hzz
  obtain ⟨h0, inner, hown, hr⟩ := R_below HO hW
  have hpW := M_below hp hW
  refine step_append_lies W hgd s x t ho base e i0 z d.sz bytes ht hi hz0 hz1 hz2 hz hs0 v xs.length inner hs hown ⟨w.heap.size, 0, none⟩ 1 1 cs hx (by rw [d.K_len (d.K_of_M hp), Nat.one_mul]) ?_ (d.K_one (d.K_of_M hp)) (by omega) (by unfold maxLen; exact h63) hl (Nat.le_trans hbase hW.size) W.heap.size rfl ?_
  · intro j u hu
    rw [show (⟨w.heap.size, 0, none⟩ : Addr).add j = ⟨w.heap.size, j, none⟩ from add_plain _ _]
    rw [blk_cell hbox j, List.getElem?_toArray]
    exact hu
  · intro g cap w1 hown1 hg1 hat hlt
    refine h _ _ _ w1 (R_appended h0 hr hpW hokp (fun k hk => hfresh k (Nat.le_trans hW.size hk)) hown1 hg1 ?_) (grown_later hW hg1)
    rcases hat with hat | hat
    · exact .inl (by rw [hat]; rfl)
    · exact .inr ⟨g, rfl, by omega⟩
/-- The same for elements whose blocks lie apart. -/
theorem S_append_far (d : Kd α) {w W : World} (base : Nat) (hgd : o.guard = none) (s x : Operand) (t e : TypeId) (z : Value) (bytes : Nat)
    (ho : o.op = .call { callee := .builtin .append, args := #[s, x], argTypes := #[t, t] })
    (ht : P.underlying t = some (.slice e)) (hinfo : (P.info? e).map (fun i => (i.zero, i.size, i.bytes)) = some (some z, d.sz, bytes)) (hz : z.cells.size = d.sz) (hs0 : 0 < d.sz)
    (v : Value) (xs : List α) (p : α) (cs : List Value) (ok okp : Nat → Prop) (hs : a.eval s = v) (hx : a.eval x = .slice (some ⟨w.heap.size, 0, none⟩) 1 1) (hp : d.M w base okp p cs) (hokp : ∀ k, okp k → ok k ∧ some k ≠ v.ownBlock) (hfresh : ∀ k, w.heap.size ≤ k → ok k)
    (HO : S d e w base (fun k => ok k ∧ ¬ okp k) v xs) (hW : Below w.heap.size w W) (hbox : W.heap[w.heap.size]? = some (.cells cs.toArray e (0, 0))) (hbase : base ≤ w.heap.size) (hl : (xs.length + 1) * bytes ≤ 140737488355328) (h63 : xs.length + 1 ≤ 9223372036854775807)
    (h : ∀ A1 n1 c1 w1, S d e w1 base ok (.slice A1 n1 c1) (xs ++ [p]) → w.grownBy w1 v.ownBlock → Kc (a.put o.dst (.slice A1 n1 c1)) w1) :
    if Region.wanted o (yielded ops a.tmps) = true then Oper.wp P o a W Kc Q else E := by
  obtain ⟨f, hf, hR⟩ := S_tag HO xs.length okp (fun _ hk h2 => h2.2 hk)
  refine R_append_far (tag f d) base hgd s x t e z bytes ho ht hinfo hz hs0 v xs.zipIdx (p, xs.length) cs ok okp hs hx (d.M_mono (fun k hk => ⟨hk, hf k hk⟩) hp) hokp hfresh (R_mono hR (fun _ hk => hk.1)) hW hbox hbase (by rw [List.length_zipIdx]; exact hl) (by rw [List.length_zipIdx]; exact h63) ?_
  intro A1 n1 c1 w1 hr hg
  rw [← zip_snoc] at hr
  exact h A1 n1 c1 w1 ⟨f, hr⟩ hg
end
abbrev kB := kBlockP
abbrev kPhi := k76
abbrev kIn := k79
abbrev kIns := kInsP
abbrev kInt := Kd.int .i64
/-- A parser's block: tp its type, more its cells behind the error. -/
def pcells (st : St) (v : Value) (e : Int) : Array Value := #[.int .i64 st.params, v, .int .i64 st.at_, .int .i64 e, .slice none 0 0]
structure PS (B g : Nat) (st : St) (e : Int) (w : World) : Prop where
  base : B ≤ g
  size : B ≤ w.heap.size
  ex : ∃ v, w.heap[g]? = some (.cells (pcells st v e) 57 (0, 0)) ∧ S kB 52 w B (fun k => k ≠ g) v st.blocks
theorem S_keepG {w w' : World} {B g : Nat} {v : Value} {xs : List TBlock} (h : S kB 52 w B (fun k => k ≠ g) v xs) (hk : KeepG g w w') : S kB 52 w' B (fun k => k ≠ g) v xs :=
  S_step h (fun k hk1 hlt => hk.block k hlt hk1)
theorem PS.keepG {B g : Nat} {st : St} {e e' : Int} {w w' : World} (h : PS B g st e w) (hk : KeepG g w w') (hb : ∀ v, w.heap[g]? = some (.cells (pcells st v e) 57 (0, 0)) → w'.heap[g]? = some (.cells (pcells st v e') 57 (0, 0))) : PS B g st e' w' := by
  obtain ⟨v, h1, h2⟩ := h.ex
  exact ⟨h.base, Nat.le_trans h.size hk.size, v, hb v h1, S_keepG h2 hk⟩
theorem PS.below {B g : Nat} {st : St} {e : Int} {w w' : World} (h : PS B g st e w) (hb : Below w.heap.size w w') : PS B g st e w' :=
  h.keepG (KeepG.of_below hb) (fun _ h1 => blk_below h1 hb)

/-- The last block, lent: N: what is new is from there on. -/
structure Lent (B g gB n cap N : Nat) (st : St) (e : Int) (ok : Nat → Prop) (v0 v1 v3 v4 : Value) (x : TBlock) (w : World) : Prop where
  base : B ≤ g
  size : B ≤ w.heap.size
  blk : w.heap[g]? = some (.cells (pcells st (.slice (some ⟨gB, 0, none⟩) (n + 1) cap) e) 57 (0, 0))
  len : st.blocks.length = n + 1
  max : n + 1 ≤ 9223372036854775807
  hole : H kB 52 w B (fun k => k ≠ g) (.slice (some ⟨gB, 0, none⟩) (n + 1) cap) st.blocks (n : Int) ok [v0, v1, .int .i64 x.f2.f0, v3, v4, .int .i32 x.f2.f3]
  r0 : kPhi.R 76 w B ok v0 x.f0
  r1 : kIns.R 46 w B ok v1 x.f1
  r3 : rI.M w B ok x.f2.f1 [v3]
  r4 : rI.M w B ok x.f2.f2 [v4]
  fresh : ∀ k, N ≤ k → ok k
  new : N ≤ w.heap.size
  old : gB < N
  away : ∀ k, ok k → k ≠ gB
  awayg : ∀ k, ok k → k ≠ g
  row : ∃ cs, w.heap[gB]? = some (.cells cs 52 (0, 0))
  bB : B ≤ gB

theorem PS.lend {B g n : Nat} {st : St} {e : Int} {w : World} (h : PS B g st e w) (hn : st.blocks.length = n + 1) :
    ∃ gB cap ok v0 v1 v3 v4, Lent B g gB n cap w.heap.size st e ok v0 v1 v3 v4 (st.blocks.getD n zBlock) w := by
  obtain ⟨v, h1, h2⟩ := h.ex
  obtain ⟨gB, cap, rfl, hbB, hlt, cells, hcells⟩ := S_form h2 (by omega)
  rw [hn] at h1 h2
  obtain ⟨oki, c, hcl, hM, hcc, hfr, hoki, hH⟩ := S_elem h2 zBlock (n : Int) (by omega) (by omega)
  rw [Int.toNat_natCast] at hM
  obtain ⟨v0, v1, v3, v4, rfl, r0, r1, r3, r4⟩ := kBlockP_openM hM
  have hok : ∀ k, oki k → (oki k ∨ k ≠ g ∧ w.heap.size ≤ k) := fun k hk => .inl hk
  have hgl := blk_lt h1
  refine ⟨gB, cap, (fun k => oki k ∨ k ≠ g ∧ w.heap.size ≤ k), v0, v1, v3, v4, h.base, h.size, h1, hn, hn ▸ C_max (S_reads' h2).2.2, H_widen hH, R_mono r0 hok, R_mono r1 hok, rI.M_mono hok r3, rI.M_mono hok r4, fun k hk => .inr ⟨by omega, hk⟩, Nat.le_refl _, hlt, fun k hk => ?_, fun k hk => ?_, ⟨_, hcells⟩, hbB⟩
  · rcases hk with hk | hk
    · exact (hoki k hk).2
    · have := hk.2
      omega
  · rcases hk with hk | hk
    · exact (hoki k hk).1
    · exact hk.1

section
variable {B g gB n cap N : Nat} {st : St} {e : Int} {ok : Nat → Prop} {v0 v1 v3 v4 : Value} {x : TBlock} {w w1 : World}
theorem Lent.below (h : Lent B g gB n cap N st e ok v0 v1 v3 v4 x w) (hb : Below w.heap.size w w1) : Lent B g gB n cap N st e ok v0 v1 v3 v4 x w1 :=
  ⟨h.base, Nat.le_trans h.size hb.size, blk_below h.blk hb, h.len, h.max, H_below h.hole hb, R_below h.r0 hb, R_below h.r1 hb, M_below h.r3 hb, M_below h.r4 hb, h.fresh, Nat.le_trans h.new hb.size, h.old, h.away, h.awayg, by
    obtain ⟨cs, hc⟩ := h.row
    exact ⟨cs, blk_below hc hb⟩, h.bB⟩
theorem Lent.cells (h : Lent B g gB n cap N st e ok v0 v1 v3 v4 x w) : (∀ j u, [v0, v1, .int .i64 x.f2.f0, v3, v4, .int .i32 x.f2.f3][j]? = some u → w.cell? ⟨gB, n * 6 + j, none⟩ = some u) ∧ ∀ j, w.frozen? ⟨gB, n * 6 + j, none⟩ = false := by
  have := H_at h.hole (by omega) (by omega)
  rw [Int.toNat_natCast] at this
  exact this
theorem Lent.gne (h : Lent B g gB n cap N st e ok v0 v1 v3 v4 x w) : g ≠ gB := by
  obtain ⟨cs, hc⟩ := h.row
  exact blk_ne h.blk hc (by decide)
/-- A store into the last block: it is x' then, its rows told at the world of the store. -/
theorem Lent.put (h : Lent B g gB n cap N st e ok v0 v1 v3 v4 x w) {seg : List Value} {j : Nat} (hj : j + seg.length ≤ 6) {x' : TBlock} {st' : St}
    (hM : kB.M w B ok x' ([v0, v1, .int .i64 x.f2.f0, v3, v4, .int .i32 x.f2.f3].take j ++ seg ++ [v0, v1, .int .i64 x.f2.f0, v3, v4, .int .i32 x.f2.f3].drop (j + seg.length)))
    (hp : st'.params = st.params) (ha : st'.at_ = st.at_) (hbl : st'.blocks = st.blocks.set n x') : PS B g st' e (w.setCells gB (n * 6 + j) seg) := by
  obtain ⟨h1, h2⟩ := S_seg0 h.hole (by omega) (by omega) hj hM (fun _ hk => hk)
  rw [Int.toNat_natCast] at h1 h2
  refine ⟨h.base, by rw [(setCells_same _ _ _ _).2.2.2]; exact h.size, .slice (some ⟨gB, 0, none⟩) (n + 1) cap, ?_, by rw [hbl]; exact h1⟩
  have := blk_grown h.blk h2 (fun he => h.gne (by injection he))
  unfold pcells at this ⊢
  rw [hp, ha]
  exact this
theorem Lent.keepG {e' : Int} (h : Lent B g gB n cap N st e ok v0 v1 v3 v4 x w) (hk : KeepG g w w1) (hb : w1.heap[g]? = some (.cells (pcells st (.slice (some ⟨gB, 0, none⟩) (n + 1) cap) e') 57 (0, 0))) : Lent B g gB n cap N st e' ok v0 v1 v3 v4 x w1 := by
  have mv : ∀ k, ok k → k < w.heap.size → w1.heap[k]? = w.heap[k]? := fun k hk1 hlt => hk.block k hlt (h.awayg k hk1)
  obtain ⟨cs, hc⟩ := h.row
  exact ⟨h.base, Nat.le_trans h.size hk.size, hb, h.len, h.max, H_step h.hole (fun k hk1 _ hlt => hk.block k hlt hk1), R_step h.r0 mv, R_step h.r1 mv, M_step h.r3 mv, M_step h.r4 mv, h.fresh, Nat.le_trans h.new hk.size, h.old, h.away, h.awayg,
    ⟨cs, (hk.block gB (blk_lt hc) (Ne.symm h.gne)).trans hc⟩, h.bB⟩
theorem Lent.keepB (h : Lent B g gB n cap N st e ok v0 v1 v3 v4 x w) (o : Nat) (seg : List Value) : Below B w (w.setCells gB o seg) := by
  obtain ⟨s1, s2, s3, s4⟩ := setCells_same gB seg o w
  exact ⟨s1, s2, s3, by rw [s4]; exact Nat.le_refl _, fun k hk => setCells_far seg o k (by have := h.bB; omega)⟩
theorem Lent.oth (h : Lent B g gB n cap N st e ok v0 v1 v3 v4 x w) (o : Nat) (seg : List Value) : Oth w (w.setCells gB o seg) := by
  intro k ob hk ho
  refine (setCells_far seg o k (fun e => ?_)).trans hk
  subst e
  obtain ⟨cs, hc⟩ := h.row
  rw [hc] at hk
  injection hk with hk
  exact ho _ _ _ hk.symm (by decide)
end
/-- Behind an append to the last block's phis, and the store of what it gave. -/
theorem Lent.afterPhi {B g gB n cap N : Nat} {st st' : St} {e : Int} {ok : Nat → Prop} {v0 v1 v3 v4 : Value} {x : TBlock} {w w1 : World} (h : Lent B g gB n cap N st e ok v0 v1 v3 v4 x w) (hg : w.grownBy w1 v0.ownBlock) {u : Value} {ys : List TPhi}
    (hu : kPhi.R 76 w1 B ok u ys) (hp : st'.params = st.params) (ha : st'.at_ = st.at_) (hbl : st'.blocks = st.blocks.set n ⟨ys, x.f1, x.f2⟩) :
    PS B g st' e (w1.setCell ⟨gB, n * 6, none⟩ u) ∧ Below B w (w1.setCell ⟨gB, n * 6, none⟩ u) ∧ Oth w (w1.setCell ⟨gB, n * 6, none⟩ u) := by
  have hrow : ∀ k, v0.ownBlock = some k → ok k := h.r0.1
  obtain ⟨cs, hcs⟩ := h.row
  have h1 : Lent B g gB n cap N st e ok v0 v1 v3 v4 x w := h
  have hcs1 := blk_grown hcs hg (fun he => h.away gB (hrow gB he.symm) rfl)
  have hblk1 := blk_grown h.blk hg (R_ne h.r0 h.blk (by decide))
  have r1 := R_over h.r1 h.r0 (by decide) hg
  have r3 := M_over h.r3 h.r0 (by decide) hg
  have r4 := M_over h.r4 h.r0 (by decide) hg
  have hH := H_grown h.hole hg hrow
  obtain ⟨k1, k2⟩ := S_seg0 (x' := ⟨ys, x.f1, x.f2⟩) (seg := [u]) (j := 0) (okp := ok) hH (by omega) (by omega) (by show 0 + 1 ≤ 6; omega) (kBlockP_mkM w1 B ok ⟨ys, x.f1, x.f2⟩ hu r1 r3 r4) (fun _ hk => hk)
  rw [Int.toNat_natCast] at k1 k2
  have es : w1.setCells gB (n * kB.sz + 0) [u] = w1.setCell ⟨gB, n * 6, none⟩ u := rfl
  rw [es] at k1 k2
  refine ⟨⟨h.base, Nat.le_trans h.size (Nat.le_trans hg.size k2.size), _, ?_, by rw [hbl]; exact k1⟩, ?_, ?_⟩
  · have := blk_grown hblk1 k2 (fun he => h.gne (by injection he))
    unfold pcells at this ⊢
    rw [hp, ha]
    exact this
  · exact ((Below.refl B w).grown hg h.size (fun k hk => R_base h.r0 k hk)).setCell (p := ⟨gB, n * 6, none⟩) h.bB _
  · exact (Oth.grown hg (fun k hk => by
      obtain ⟨c, hc⟩ := R_typed h.r0 k hk
      exact ⟨c, _, _, hc, by decide⟩)).trans (Oth.set_ hcs1 (by decide) _ _)
/-- What stands behind such an append. -/
theorem Lent.stands {B g gB n cap N : Nat} {st : St} {e : Int} {ok : Nat → Prop} {v0 v1 v3 v4 : Value} {x : TBlock} {w w1 : World} (h : Lent B g gB n cap N st e ok v0 v1 v3 v4 x w) {row : Option Nat} (hg : w.grownBy w1 row) (hr : ∀ k, row = some k → ok k ∧ k ≠ g) :
    (∀ j u, w.cell? ⟨gB, j, none⟩ = some u → w1.cell? ⟨gB, j, none⟩ = some u) ∧ (∀ j, w1.frozen? ⟨gB, j, none⟩ = false) ∧ w1.heap[g]? = w.heap[g]? := by
  obtain ⟨cs, hcs⟩ := h.row
  have hcs1 := blk_grown hcs hg (fun he => h.away gB (hr gB he.symm).1 rfl)
  refine ⟨fun j u hu => ?_, fun j => blk_frozen hcs1 j, ?_⟩
  · rw [blk_cell hcs1 j, ← blk_cell hcs j]
    exact hu
  · exact hg.block g (blk_lt h.blk) (fun he => (hr g he.symm).2 rfl)
theorem Lent.afterIns {B g gB n cap N : Nat} {st st' : St} {e : Int} {ok : Nat → Prop} {v0 v1 v3 v4 : Value} {x : TBlock} {w w1 : World} (h : Lent B g gB n cap N st e ok v0 v1 v3 v4 x w) (hg : w.grownBy w1 v1.ownBlock) {u : Value} {ys : List TIns}
    (hu : kIns.R 46 w1 B ok u ys) (hp : st'.params = st.params) (ha : st'.at_ = st.at_) (hbl : st'.blocks = st.blocks.set n ⟨x.f0, ys, x.f2⟩) :
    PS B g st' e (w1.setCell ⟨gB, n * 6 + 1, none⟩ u) ∧ Below B w (w1.setCell ⟨gB, n * 6 + 1, none⟩ u) ∧ Oth w (w1.setCell ⟨gB, n * 6 + 1, none⟩ u) := by
  have hrow : ∀ k, v1.ownBlock = some k → ok k := h.r1.1
  obtain ⟨cs, hcs⟩ := h.row
  have hcs1 := blk_grown hcs hg (fun he => h.away gB (hrow gB he.symm) rfl)
  have hblk1 := blk_grown h.blk hg (R_ne h.r1 h.blk (by decide))
  have r0 := R_over h.r0 h.r1 (by decide) hg
  have r3 := M_over h.r3 h.r1 (by decide) hg
  have r4 := M_over h.r4 h.r1 (by decide) hg
  have hH := H_grown h.hole hg hrow
  obtain ⟨k1, k2⟩ := S_seg0 (x' := ⟨x.f0, ys, x.f2⟩) (seg := [u]) (j := 1) (okp := ok) hH (by omega) (by omega) (by show 1 + 1 ≤ 6; omega) (kBlockP_mkM w1 B ok ⟨x.f0, ys, x.f2⟩ r0 hu r3 r4) (fun _ hk => hk)
  rw [Int.toNat_natCast] at k1 k2
  have es : w1.setCells gB (n * kB.sz + 1) [u] = w1.setCell ⟨gB, n * 6 + 1, none⟩ u := rfl
  rw [es] at k1 k2
  refine ⟨⟨h.base, Nat.le_trans h.size (Nat.le_trans hg.size k2.size), _, ?_, by rw [hbl]; exact k1⟩, ?_, ?_⟩
  · have := blk_grown hblk1 k2 (fun he => h.gne (by injection he))
    unfold pcells at this ⊢
    rw [hp, ha]
    exact this
  · exact ((Below.refl B w).grown hg h.size (fun k hk => R_base h.r1 k hk)).setCell (p := ⟨gB, n * 6 + 1, none⟩) h.bB _
  · exact (Oth.grown hg (fun k hk => by
      obtain ⟨c, hc⟩ := R_typed h.r1 k hk
      exact ⟨c, _, _, hc, by decide⟩)).trans (Oth.set_ hcs1 (by decide) _ _)
theorem onLast_set {f : TBlock → TBlock} {l : List TBlock} {n : Nat} (h : l.length = n + 1) : onLast f l = l.set n (f (l.getD n zBlock)) := by
  unfold onLast
  rw [h]
  rfl
end Go.Proofs.YtlmkhllippobaaaDoor.Ps
end
section
/- slices.ContainsFunc at phi's test of colons; phi$1. -/
set_option linter.unusedVariables false
set_option linter.unusedSimpArgs false
namespace Go.Proofs.YtlmkhllippobaaaDoor.Ps
open Go.RowKit Go.Proofs.YtlmkhllippobaaaDoorW.PrintWords Go.Proofs.YtlmkhllippobaaaDoorW.PrintWords.Kd Go.Proofs.YtlmkhllippobaaaDoorW.PrintMore.Kd Go.Proofs.YtlmkhllippobaaaDoor.Wl Go.Proofs.YtlmkhllippobaaaDoor.Tx Go.Proofs.YtlmkhllippobaaaDoor.Kd

def odd (s : ByteArray) : Bool := !(oneColon s)
set_option maxHeartbeats 1000000 in
set_option maxRecDepth 100000 in
theorem odd_calls (s : ByteArray) (w : World) :
    Calls Tryd.prog 51 #[.string s] w fun e w' => e = .returned (.bool (odd s)) ∧ w = w' := by
  obtain ⟨n, hn⟩ : ∃ n : Nat, Lib.countByte s.data.toList 58 = n := ⟨_, rfl⟩
  have ho : odd s = !decide (n = 1) := by unfold odd oneColon; rw [hn]; rfl
  by_cases h1 : n = 1
  · subst h1
    rw [ho]
    go_enter Tryd.func51, Tryd.ntmps51
    go_wp2_with fail
    refine (Tryd.strings_Count_one s 58 w).mono ?_
    rw [hn]
    rintro e w' ⟨rfl, rfl⟩
    go_wp2
    go_ret
    exact ⟨rfl, rfl⟩
  · have h2 : decide (n = 1) = false := by simpa using h1
    have h3 : ((n : Int) == 1) = false := by simp; omega
    have h4 : ((n : Int) != 1) = true := by simp [bne, h3]
    rw [ho, h2]
    go_enter Tryd.func51, Tryd.ntmps51
    go_wp2_with fail
    refine (Tryd.strings_Count_one s 58 w).mono ?_
    rw [hn]
    rintro e w' ⟨rfl, rfl⟩
    go_wp2
    go_ret
    exact ⟨rfl, rfl⟩

/-- Where the first one is. -/
def firstOdd (l : List ByteArray) : Int := if l.any odd then (l.findIdx odd : Int) else -1
theorem any_take {l : List ByteArray} {k : Nat} {s : ByteArray} (h : l[k]? = some s) (h0 : (l.take k).any odd = false) (hs : odd s = false) : (l.take (k + 1)).any odd = false := by
  rw [List.take_add_one, h, List.any_append, h0]
  simp [hs]
theorem first_at {l : List ByteArray} {k : Nat} {s : ByteArray} (h : l[k]? = some s) (h0 : (l.take k).any odd = false) (hs : odd s = true) : l.any odd = true ∧ l.findIdx odd = k := by
  obtain ⟨hl, rfl⟩ := List.getElem?_eq_some_iff.1 h
  refine ⟨List.any_eq_true.2 ⟨_, List.getElem_mem hl, hs⟩, ?_⟩
  rw [List.findIdx_eq hl]
  refine ⟨hs, fun j hj => ?_⟩
  have := List.any_eq_false.1 h0 (l[j]) (by rw [List.mem_take_iff_getElem]; exact ⟨j, by omega, rfl⟩)
  simpa using this
set_option maxHeartbeats 1000000 in
set_option maxRecDepth 100000 in
theorem indexFunc_calls (A : Option Addr) (cap : Nat) (ws : List ByteArray) (w : World) (hr : Kd.string.C w A ws.length ws) :
    Calls Tryd.prog 65 #[.slice A ws.length cap, .func (.func 51) #[] #[]] w fun e w' => e = .returned (.int .i64 (firstOdd ws)) ∧ w = w' := by
  have hmax := Kd.C_max hr
  have HR := Aside0.mk hr
  clear hr
  go_enter Tryd.func65, Tryd.ntmps65
  go_wp2
  go_loop [8] (fun s8 => ∃ k : Nat, k ≤ ws.length ∧ s8 = .int .i64 (k : Int) ∧ (ws.take k).any odd = false) (fun s8 => ws.length - (intOf s8).toNat)
  case atStart => exact ⟨0, by omega, rfl, rfl⟩
  case round =>
    obtain ⟨k, hk, rfl, hany⟩ := hrel
    have HANY := Lib.hid hany
    clear hany
    by_cases hlt : k < ws.length
    · obtain ⟨ad, rfl, hc⟩ := at_string HR.out (k : Int) (by omega) (by omega)
      rw [Int.toNat_natCast] at hc
      obtain ⟨s, hsk⟩ : ∃ s, rdOf ByteArray.empty ws (k : Int) = s := ⟨_, rfl⟩
      have hget : ws[k]? = some s := by
        rw [← hsk, List.getElem?_eq_getElem hlt]
        simp [rdOf, List.getD_eq_getElem?_getD, List.getElem?_eq_getElem hlt]
      rw [hsk] at hc
      have HGET := Lib.hid hget
      clear hsk hget
      obtain ⟨o, ho⟩ : ∃ o, odd s = o := ⟨_, rfl⟩
      have HO := Lib.hid ho
      clear ho
      cases o
      · go_wp2_with fail
        refine (odd_calls s _).mono ?_
        rw [HO.out]
        rintro e w' ⟨rfl, rfl⟩
        go_wp2
        go_round
        case rel => exact ⟨k + 1, by omega, by first | (simp; done) | (simp; unfold wrap64; omega), any_take HGET.out HANY.out HO.out⟩
        case measure => simp [intOf]; first | done | omega | (unfold wrap64; omega)
      · obtain ⟨h1, h2⟩ := first_at HGET.out HANY.out HO.out
        have hf : firstOdd ws = (k : Int) := by unfold firstOdd; rw [if_pos h1, h2]
        have HF := Lib.hid hf
        clear h1 h2 hf
        go_wp2_with fail
        refine (odd_calls s _).mono ?_
        rw [HO.out]
        rintro e w' ⟨rfl, rfl⟩
        go_wp2
        go_ret
        exact ⟨by rw [HF.out]; rfl, rfl⟩
    · have hke : k = ws.length := by omega
      subst hke
      have hf : firstOdd ws = -1 := by
        have := HANY.out
        rw [List.take_length] at this
        unfold firstOdd
        rw [if_neg (by simp [this])]
      have HF := Lib.hid hf
      clear hf
      go_wp2
      go_ret
      exact ⟨by rw [HF.out]; rfl, rfl⟩
set_option maxHeartbeats 1000000 in
set_option maxRecDepth 100000 in
theorem containsFunc_calls (A : Option Addr) (cap : Nat) (ws : List ByteArray) (w : World) (hr : Kd.string.C w A ws.length ws) :
    Calls Tryd.prog 53 #[.slice A ws.length cap, .func (.func 51) #[] #[]] w fun e w' => e = .returned (.bool (ws.any odd)) ∧ w = w' := by
  have hc := indexFunc_calls A cap ws w hr
  clear hr
  obtain ⟨i, hi⟩ : ∃ i, firstOdd ws = i := ⟨_, rfl⟩
  have hb : decide (0 ≤ i) = ws.any odd := by
    rw [← hi]
    unfold firstOdd
    split
    · rename_i h; rw [h]; simp
    · rename_i h; simp at h; simpa using h
  rw [← hb]
  rw [hi] at hc
  clear hi hb
  go_enter Tryd.func53, Tryd.ntmps53
  go_wp2_with fail
  refine hc.mono ?_
  rintro e w' ⟨rfl, rfl⟩
  go_wp2
  go_ret
  exact ⟨rfl, rfl⟩
end Go.Proofs.YtlmkhllippobaaaDoor.Ps
end
