/- Parts of the proof, one behind the other: Laid, WorldT, Bld, Word, Line. -/
import Derived.Test.YtlmkhllippobaaaDoorG01
import Derived.Test.YtlmkhllippobaaaDoorProg
import Derived.WalkSmall
import Derived.Lib.AppendIntMem
import Derived.Test.YtlmkhllippobaaaDoorRows
import Derived.ProofKit
import Derived.OpenShut
import Derived.LaidLaws
import Derived.MakeChecks
import Derived.Lib.LaidTab
import Derived.Stop.LaidErr
import Derived.Deep.DeepHandedRow
import Derived.Deep.DeepWitnessRowRef
import Derived.WalkKit
import Derived.KernelRfl
import Derived.Lib.Builder
import Derived.Lib.AppendStr
import Derived.Lib.UnsafeStr
import Derived.Lib.OthersKept
import Derived.Lib.FrozenHead2
import Derived.Lib.Walk
import Derived.Laws.Externs
import Derived.Lib.Hide
import Derived.Outline
import Derived.WideLaws
import Derived.MapKept
import Derived.Laws.Slices
import Derived.Test.YtlmkhllippobaaaDoorG02
import Derived.Deep.LoopGhost
section
/- What the laid package-level variables give a walk, and that it stays through whatever the call does. -/
namespace Go.Proofs.YtlmkhllippobaaaDoor.Wl
open Go.RowKit Go.Proofs.YtlmkhllippobaaaDoorW.PrintWords

/-- The variables that a word's text reads. -/
structure LaidT (w : World) : Prop where
  pow10 : Lib.TabIs Tryd.prog w "internal/strconv.uint64pow10" .u64 Lib.pow10Tab
  syn : ∃ tp p, w.var? Tryd.prog "strconv.ErrSyntax" = some #[.iface tp p]
  ran : ∃ tp p, w.var? Tryd.prog "strconv.ErrRange" = some #[.iface tp p]
/-- The variables that a word's text and names read. -/
structure Laid (w : World) : Prop where
  t : LaidT w
  asc : Lib.TabIs Tryd.prog w "strings.asciiSpace" .u8 Lib.asciiSpaceTab

theorem var_below {W W' : World} {n : String} {cs : Array Value} (h : Below W.heap.size W W') (hv : W.var? Tryd.prog n = some cs) : W'.var? Tryd.prog n = some cs := by
  have hv' := hv
  unfold World.var? at hv
  cases hg : Tryd.prog.globalNamed n with
  | none => simp [hg] at hv
  | some g =>
    simp only [hg, Option.bind_some] at hv
    have hlt : g < W.heap.size := by
      rcases Nat.lt_or_ge g W.heap.size with h1 | h1
      · exact h1
      · rw [Array.getElem?_eq_none h1] at hv; simp at hv
    exact var?_below h hg hlt hv'
theorem LaidT.below {W W' : World} (h : LaidT W) (hb : Below W.heap.size W W') : LaidT W' := by
  obtain ⟨h1, ⟨a, b, h2⟩, ⟨c, d, h3⟩⟩ := h
  exact ⟨var_below hb h1, ⟨a, b, var_below hb h2⟩, ⟨c, d, var_below hb h3⟩⟩
theorem Laid.below {W W' : World} (h : Laid W) (hb : Below W.heap.size W W') : Laid W' := ⟨h.t.below hb, var_below hb h.asc⟩
end Go.Proofs.YtlmkhllippobaaaDoor.Wl
end
section
/- A start that fits: the settled world, the listed variables holding what their initialisers lay; and what a row's list gives a walk. -/
namespace Go.Proofs.YtlmkhllippobaaaDoor.Wd
open Go.ChangeShapes Go.WideShapes Go.ChangeAt Go.RowKit Go.Proofs.YtlmkhllippobaaaDoor.Wl

abbrev synS : ByteArray := { data := #[105, 110, 118, 97, 108, 105, 100, 32, 115, 121, 110, 116, 97, 120] }
abbrev rngS : ByteArray := { data := #[118, 97, 108, 117, 101, 32, 111, 117, 116, 32, 111, 102, 32, 114, 97, 110, 103, 101] }
def ints (k : IntKind) : List (DataW Unit) → List Value
  | .lit (.int _ n) :: r => .int k n :: ints k r
  | _ => []
def cellsOf (k : IntKind) : DataW Unit → Array Value
  | .agg l => (ints k l).toArray
  | _ => #[]
def cells2 (k : IntKind) : DataW Unit → Array Value
  | .agg l => (l.flatMap fun x => match x with | .agg r => ints k r | _ => []).toArray
  | _ => #[]
/-- So many blocks has the settled world. -/
noncomputable def low : Nat := (World.holding Tryd.prog default ⟨#[], #[], []⟩).heap.size
def whites : List Value := [9, 13, 1, 32, 133, 101, 160, 5760, 5600, 8192, 8202, 1, 8232, 8233, 1, 8239, 8287, 48, 12288, 12288, 1].map (Value.int .u16)
def lay (g : Nat) (cs : Array Value) (h : Array Obj) : Array Obj := h.modify g fun
  | .cells _ t frozen => .cells cs t frozen
  | o => o
noncomputable def freshWorld (os : Os) : World := World.holding Tryd.prog os ⟨#[.cells #[.string rngS] 179, .cells #[.string synS] 179, .cells whites.toArray 133, .cells #[.slice (some ⟨low + 2, 0, none⟩) 7 7, .slice none 0 0, .int .i64 2] 130], #[], []⟩
noncomputable def laidHeap (h0 : Array Obj) : Array Obj :=
  have h1 := lay 0 (cellsOf .u8 Rows.laid_strings_asciiSpace) h0
  have h3 := lay 1 #[.pointer (some ⟨low + 3, 0, none⟩)] h1
  have h4 := lay 6 #[.iface 177 (.pointer (some ⟨low + 1, 0, none⟩))] h3
  have h5 := lay 7 #[.iface 177 (.pointer (some ⟨low, 0, none⟩))] h4
  have h6 := lay 3 (cellsOf .u64 Rows.laid_internal_strconv_uint64pow10) h5
  have h7 := lay 9 (cellsOf .u8 Rows.laid_math_bits_deBruijn64tab) h6
  have h8 := lay 8 (cellsOf .u8 Rows.laid_math_bits_deBruijn32tab) h7
  have h9 := lay 5 (cells2 .u8 Rows.laid_unicode_utf8_acceptRanges) h8
  lay 4 (cellsOf .u8 Rows.laid_unicode_utf8_first) h9
noncomputable def laidWorld (os : Os) : World := { freshWorld os with heap := laidHeap (freshWorld os).heap }

/-! ### What a row's list gives -/
theorem gSyn : Tryd.prog.globalNamed "strconv.ErrSyntax" = some 6 := by kernel_rfl
theorem gRan : Tryd.prog.globalNamed "strconv.ErrRange" = some 7 := by kernel_rfl
theorem gPow : Tryd.prog.globalNamed "internal/strconv.uint64pow10" = some 3 := by kernel_rfl
theorem gAsc : Tryd.prog.globalNamed "strings.asciiSpace" = some 0 := by kernel_rfl
theorem tPow : (Tryd.prog.globals[3]?).map (·.type) = some 154 := by kernel_rfl
theorem tAsc : (Tryd.prog.globals[0]?).map (·.type) = some 94 := by kernel_rfl
theorem tSyn : (Tryd.prog.globals[6]?).map (·.type) = some 97 := by kernel_rfl
theorem tRan : (Tryd.prog.globals[7]?).map (·.type) = some 97 := by kernel_rfl
theorem uPow : Tryd.prog.underlying 154 = some (.array 20 139) := by kernel_rfl
theorem uAsc : Tryd.prog.underlying 94 = some (.array 256 5) := by kernel_rfl
theorem u64 : Tryd.prog.underlying 139 = some (.int .u64) := by kernel_rfl
theorem u8 : Tryd.prog.underlying 5 = some (.int .u8) := by kernel_rfl
theorem cPow : Tryd.prog.cellsOf 154 = 20 := by kernel_rfl
theorem cAsc : Tryd.prog.cellsOf 94 = 256 := by kernel_rfl
theorem c64 : Tryd.prog.cellsOf 139 = 1 := by kernel_rfl
theorem c8 : Tryd.prog.cellsOf 5 = 1 := by kernel_rfl
/-- A list that names a variable tells what it holds: the variable's own row can be brought to its head. -/
theorem laid_at {l : List (String × DataW Unit)} {W : World} {n : String} {d : DataW Unit} (h : laidMet Tryd.prog l W) (hm : ∃ k : Nat, l[k]? = some (n, d)) : ∃ r, laidMet Tryd.prog ((n, d) :: r) W := by
  induction l with
  | nil => obtain ⟨k, hk⟩ := hm; simp at hk
  | cons x r ih =>
    obtain ⟨k, hk⟩ := hm
    cases k with
    | zero => rw [List.getElem?_cons_zero] at hk; exact ⟨r, (Option.some.inj hk) ▸ h⟩
    | succ k => rw [List.getElem?_cons_succ] at hk; exact ih h.tail ⟨k, hk⟩
theorem star : "*" ++ "errors.errorString" = "*errors.errorString" := by decide
theorem row_err (u : TypeId) (h : Tryd.prog.typeName? 3 u = some "*errors.errorString") : u = 177 :=
  typeName_ptr_named (nm := "errors.errorString") (by rw [star]; kernel_rfl) (by kernel_rfl) (by decide) u (by rw [star]; exact h)
theorem uErr : Tryd.prog.underlying 177 = some (.pointer 179) := by kernel_rfl
theorem uIface : Tryd.prog.underlying 97 = some (.interface #[("Error", 73)]) := by kernel_rfl
theorem laidT_of {l : List (String × DataW Unit)} {W : World} (h : laidMetH Tryd.prog l W) (hp : (l.all fun x => x.2.handleName?.isNone) = true)
    (m1 : ∃ k : Nat, l[k]? = some ("internal/strconv.uint64pow10", Lib.tabData .u64 Lib.pow10Tab)) (m2 : ∃ k : Nat, l[k]? = some ("strconv.ErrSyntax", Rows.laid_strconv_ErrSyntax))
    (m3 : ∃ k : Nat, l[k]? = some ("strconv.ErrRange", Rows.laid_strconv_ErrRange)) : LaidT W := by
  rw [MakeChecks.laidMetH_plain _ _ _ hp] at h
  obtain ⟨r1, h1⟩ := laid_at h m1
  obtain ⟨r2, h2⟩ := laid_at h m2
  obtain ⟨r3, h3⟩ := laid_at h m3
  have q1 := Lib.tabIs_of_head gPow tPow uPow u64 c64 cPow h1
  obtain ⟨a0, s0, hv0, -, -, -⟩ := laid_sentinel h2 gSyn tSyn uIface row_err uErr Tryd.underlying179 rfl rfl Tryd.underlying9 (by kernel_rfl) (by kernel_rfl)
  obtain ⟨a1, s1, hv1, -, -, -⟩ := laid_sentinel h3 gRan tRan uIface row_err uErr Tryd.underlying179 rfl rfl Tryd.underlying9 (by kernel_rfl) (by kernel_rfl)
  exact ⟨q1, ⟨_, _, hv0⟩, ⟨_, _, hv1⟩⟩
theorem laid_of {l : List (String × DataW Unit)} {W : World} (h : laidMetH Tryd.prog l W) (hp : (l.all fun x => x.2.handleName?.isNone) = true)
    (m1 : ∃ k : Nat, l[k]? = some ("internal/strconv.uint64pow10", Lib.tabData .u64 Lib.pow10Tab)) (m2 : ∃ k : Nat, l[k]? = some ("strconv.ErrSyntax", Rows.laid_strconv_ErrSyntax))
    (m3 : ∃ k : Nat, l[k]? = some ("strconv.ErrRange", Rows.laid_strconv_ErrRange)) (m4 : ∃ k : Nat, l[k]? = some ("strings.asciiSpace", Lib.tabData .u8 Lib.asciiSpaceTab)) : Laid W := by
  refine ⟨laidT_of h hp m1 m2 m3, ?_⟩
  rw [MakeChecks.laidMetH_plain _ _ _ hp] at h
  obtain ⟨r4, h4⟩ := laid_at h m4
  exact Lib.tabIs_of_head gAsc tAsc uAsc u8 c8 cAsc h4
end Go.Proofs.YtlmkhllippobaaaDoor.Wd
end
section
/- The strings.Builder inside text.writer: copyCheck, WriteString, WriteByte, String, walked at a block of the writer's type. -/
set_option linter.unusedVariables false
namespace Go.Proofs.YtlmkhllippobaaaDoor.Wb
open Go.RowKit

abbrev T := 71
abbrev T5 := 5
theorem infoByte : (Tryd.prog.info? 5).map (fun i => (i.zero, i.size, i.bytes)) = some (some (.int .u8 0), 1, 1) := by kernel_rfl
theorem sizeBuilder : (Tryd.prog.info? 69).map (·.size) = some 2 := by kernel_rfl
theorem liesBuilder : liesAt Tryd.prog Tryd.prog.depth 71 (2 / Tryd.prog.cellsOf 71) 0 69 1 = true := by kernel_rfl
theorem u70 : Tryd.prog.underlying 66 = some (.pointer 69) := by kernel_rfl
theorem u164 : Tryd.prog.underlying 144 = some .unsafePointer := by kernel_rfl
theorem u37 : Tryd.prog.underlying 67 = some (.slice 5) := by kernel_rfl
theorem u9 : Tryd.prog.underlying 9 = some .string := by kernel_rfl
theorem u127 : Tryd.prog.underlying 101 = some (.pointer 5) := by kernel_rfl

set_option maxHeartbeats 1000000 in
set_option maxRecDepth 100000 in
theorem copyCheck_used (b : Nat) (w : World) (h0 : w.cell? ⟨b, 0, none⟩ = some (.pointer (some ⟨b, 0, none⟩))) :
    Calls Tryd.prog 58 #[.pointer (some ⟨b, 0, none⟩)] w fun e w' => e = .returned (.tuple #[]) ∧ w' = w := by
  obtain ⟨j, hj, _⟩ := Option.map_eq_some_iff.1 sizeBuilder
  go_enter Tryd.func58, Tryd.ntmps58
  go_wp2
  rw [Lib.run_neq_ptr_same w _ u70 hj]
  go_wp2
  go_end0
  exact ⟨rfl, rfl⟩

set_option maxHeartbeats 1000000 in
set_option maxRecDepth 100000 in
theorem copyCheck_fresh (b : Nat) (w : World) (h0 : w.cell? ⟨b, 0, none⟩ = some (.pointer none)) (hsh : w.shape? b = some (71, 2)) (hfz : w.frozen? ⟨b, 0, none⟩ = false) :
    Calls Tryd.prog 58 #[.pointer (some ⟨b, 0, none⟩)] w fun e w' => e = .returned (.tuple #[]) ∧ w' = w.setCell ⟨b, 0, none⟩ (.pointer (some ⟨b, 0, none⟩)) := by
  obtain ⟨j, hj, hjs⟩ := Option.map_eq_some_iff.1 sizeBuilder
  go_enter Tryd.func58, Tryd.ntmps58
  go_wp2
  rw [Lib.run_to_unsafe w ⟨b, 0, none⟩ u70 u164 hj (by rw [hjs]; decide) hsh (Nat.zero_lt_succ 1)]
  simp only [Result.andThen]
  rw [Oper.upon_value]
  go_wp2
  rw [run_callFunc_extern Tryd.func72 (by kernel_rfl) (by kernel_rfl) (by kernel_rfl) (e := Extern.AbiNoEscape.same) (by kernel_rfl)]
  rw [Lib.run_noEscape]
  simp only [Result.andThen]
  rw [Oper.upon_value]
  go_wp2
  rw [Lib.run_from_unsafe w ⟨b, 0, none⟩ u164 u70 hj hsh liesBuilder]
  simp only [Result.andThen]
  rw [Oper.upon_value]
  go_wp2
  go_end0
  exact ⟨rfl, rfl⟩

/-- The writer holds l. -/
def Wr (B b : Nat) (l : List UInt8) (w : World) : Prop := Lib.IsBuilder 71 5 B b (Lib.byteCells l) w

theorem copyCheck (B b : Nat) (bs : List Value) (w : World) (h : Lib.IsBuilder 71 5 B b bs w) :
    Calls Tryd.prog 58 #[.pointer (some ⟨b, 0, none⟩)] w fun e w' => e = .returned (.tuple #[]) ∧ (Lib.BuilderAt 71 5 B b (.pointer (some ⟨b, 0, none⟩)) bs w' ∧ Below B w w' ∧ Lib.OthersKept 5 (some b) w w') := by
  rcases h with h | h
  · refine (copyCheck_fresh b w h.cell0 h.shape h.frozen0).mono ?_
    rintro e w' ⟨rfl, rfl⟩
    exact ⟨rfl, h.used _, (Below.refl B w).setCell (p := ⟨b, 0, none⟩) h.1 _, (Lib.OthersKept.refl _ _ w).setCell ⟨b, 0, none⟩ rfl _⟩
  · refine (copyCheck_used b w h.cell0).mono ?_
    rintro e w' ⟨rfl, rfl⟩
    exact ⟨rfl, h, Below.refl B _, Lib.OthersKept.refl _ _ _⟩

theorem own_kind {w : World} {B : Nat} {e : TypeId} {v : Value} {n : Nat} {xs : List Value} (h : w.ownsRow B e 1 v n xs) : ∀ g, v.ownBlock = some g → ∃ c fz, w.heap[g]? = some (.cells c e fz) := by
  intro g hg
  rcases h.2 with ⟨rfl, _⟩ | ⟨k, cap, cur, rfl, _, hh, _⟩
  · simp [Value.ownBlock] at hg
  · have : k = g := by simpa [Value.ownBlock] using hg
    subst this
    exact ⟨_, _, hh⟩

set_option maxHeartbeats 2000000 in
set_option maxRecDepth 100000 in
theorem writeByte (B b : Nat) (l : List UInt8) (c : UInt8) (w : World) (h : Wr B b l w) (hlen : l.length + 1 ≤ 140737488355328) (hBw : B ≤ w.heap.size) :
    Calls Tryd.prog 44 #[.pointer (some ⟨b, 0, none⟩), .int .u8 c.toNat] w fun e w' => e = .returned .nilIface ∧ Wr B b (l ++ [c]) w' ∧ Below B w w' ∧ Lib.OthersKept 5 (some b) w w' := by
  obtain ⟨i0, hi, hz0, hz1, hz2⟩ := info_parts infoByte
  go_enter Tryd.func44, Tryd.ntmps44
  go_wp2_with (go_at_call 58; refine (copyCheck B b (Lib.byteCells l) _ h).mono ?_)
  rintro e w1 ⟨rfl, h1, hb1, hk1⟩
  obtain ⟨hB, v, hbk, hown, hne⟩ := h1
  rw [Lib.byteCells_length] at hown
  have c0 : w1.cell? ⟨b, 0, none⟩ = some (.pointer (some ⟨b, 0, none⟩)) := by rw [Lib.cell_of_heap hbk]; rfl
  have c1 : w1.cell? ⟨b, 1, none⟩ = some v := by rw [Lib.cell_of_heap hbk]; rfl
  go_wp2_with (at_builtin; refine wpList_append_own _ rfl _ _ 67 rfl B 5 i0 (.int .u8 0) 1 1 u37 hi hz0 hz1 hz2 rfl (by decide) _ _ _ rfl (hown.alloc _) ⟨w1.heap.size, 0, none⟩ 1 1 [.int .u8 c.toNat] rfl rfl ?c1 ?c2 ?c3 ?c4 ?c5 ?_)
  case c1 =>
    intro j u hj
    match j, hj with
    | 0, hj => simp at hj; subst hj; simp [Addr.add]
  case c2 => intro u hu; simp at hu; subst hu; rfl
  case c3 => unfold maxLen; omega
  case c4 => omega
  case c5 => have := hb1.size; simp; omega
  intro v' w2 hown' hgrow _
  have hlt : b < w1.heap.size := by
    rcases Nat.lt_or_ge b w1.heap.size with h' | h'
    · exact h'
    · simp [Array.getElem?_eq_none h'] at hbk
  have hb2 : w2.heap[b]? = some (.cells #[.pointer (some ⟨b, 0, none⟩), v] 71 (0, 0)) := by
    rw [hgrow.block b (by simp; omega) (fun e => hne e.symm), Lib.alloc_old w1 _ b hlt]
    exact hbk
  have d0 : w2.cell? ⟨b, 0, none⟩ = some (.pointer (some ⟨b, 0, none⟩)) := by rw [Lib.cell_of_heap hb2]; rfl
  have d1 : w2.cell? ⟨b, 1, none⟩ = some v := by rw [Lib.cell_of_heap hb2]; rfl
  have f1 : w2.frozen? ⟨b, 1, none⟩ = false := Lib.frozen_of_heap hb2 1
  obtain ⟨g, cap, rfl⟩ : ∃ g cap, v' = .slice (some ⟨g, 0, none⟩) (l.length + 1) cap := by
    rcases hown'.2 with ⟨_, h0⟩ | ⟨g, cap, cur, hv, _⟩
    · omega
    · exact ⟨g, cap, hv⟩
  go_wp2
  go_ret
  refine ⟨rfl, .inr ?_, ?_, ((hk1.alloc _).grown hgrow (own_kind (hown.alloc _))).setCell ⟨b, 1, none⟩ rfl _⟩
  · have he : Lib.byteCells (l ++ [c]) = Lib.byteCells l ++ [.int .u8 c.toNat] := by simp [Lib.byteCells]
    rw [he]
    exact Lib.BuilderAt.put (T := 71) (e := 5) hB hb2 (bs' := Lib.byteCells l ++ [.int .u8 c.toNat]) (by simpa [Lib.byteCells_length] using hown') (by decide)
  · exact ((hb1.alloc (by have := hb1.size; omega) _).grown hgrow (by have := hb1.size; simp; omega) (fun k hk => (hown.lt k hk).1)).setCell (p := ⟨b, 1, none⟩) hB _

set_option maxHeartbeats 2000000 in
set_option maxRecDepth 100000 in
theorem writeString (B b : Nat) (l : List UInt8) (s : ByteArray) (w : World) (h : Wr B b l w) (hlen : l.length + s.size ≤ 140737488355328) (hBw : B ≤ w.heap.size) :
    Calls Tryd.prog 43 #[.pointer (some ⟨b, 0, none⟩), .string s] w fun e w' => e = .returned (.tuple #[.int .i64 s.size, .nilIface]) ∧ Wr B b (l ++ s.data.toList) w' ∧ Below B w w' ∧ Lib.OthersKept 5 (some b) w w' := by
  obtain ⟨i0, hi, hz0, hz1, hz2⟩ := info_parts infoByte
  go_enter Tryd.func43, Tryd.ntmps43
  go_wp2_with (go_at_call 58; refine (copyCheck B b (Lib.byteCells l) _ h).mono ?_)
  rintro e w1 ⟨rfl, h1, hb1, hk1⟩
  obtain ⟨hB, v, hbk, hown, hne⟩ := h1
  have c0 : w1.cell? ⟨b, 0, none⟩ = some (.pointer (some ⟨b, 0, none⟩)) := by rw [Lib.cell_of_heap hbk]; rfl
  have c1 : w1.cell? ⟨b, 1, none⟩ = some v := by rw [Lib.cell_of_heap hbk]; rfl
  go_wp2_with (at_builtin; refine Lib.wpList_append_own_string _ rfl _ _ 67 9 rfl B 5 i0 u37 u9 hi hz0 hz1 hz2 _ _ _ rfl hown s rfl ?c3 ?c4 ?c5 ?_)
  case c3 => unfold maxLen; rw [Lib.byteCells_length]; omega
  case c4 => rw [Lib.byteCells_length]; omega
  case c5 => have := hb1.size; omega
  intro v' w2 hown' hgrow _
  have hlt : b < w1.heap.size := by
    rcases Nat.lt_or_ge b w1.heap.size with h' | h'
    · exact h'
    · simp [Array.getElem?_eq_none h'] at hbk
  have hb2 : w2.heap[b]? = some (.cells #[.pointer (some ⟨b, 0, none⟩), v] 71 (0, 0)) := by
    rw [hgrow.block b hlt (fun e => hne e.symm)]
    exact hbk
  have d0 : w2.cell? ⟨b, 0, none⟩ = some (.pointer (some ⟨b, 0, none⟩)) := by rw [Lib.cell_of_heap hb2]; rfl
  have d1 : w2.cell? ⟨b, 1, none⟩ = some v := by rw [Lib.cell_of_heap hb2]; rfl
  have f1 : w2.frozen? ⟨b, 1, none⟩ = false := Lib.frozen_of_heap hb2 1
  obtain ⟨ao, n', cap, rfl⟩ : ∃ ao n' cap, v' = .slice ao n' cap := by
    rcases hown'.2 with ⟨hv, _⟩ | ⟨g, cap, cur, hv, _⟩
    · exact ⟨_, _, _, hv⟩
    · exact ⟨_, _, _, hv⟩
  go_wp2
  go_ret2
  refine ⟨rfl, .inr ?_, ?_, (hk1.grown hgrow (own_kind hown)).setCell ⟨b, 1, none⟩ rfl _⟩
  · have he : Lib.byteCells (l ++ s.data.toList) = Lib.byteCells l ++ Lib.strCells s := by simp [Lib.byteCells, Lib.strCells]
    rw [he]
    exact Lib.BuilderAt.put (T := 71) (e := 5) hB hb2 (bs' := Lib.byteCells l ++ Lib.strCells s) (by simpa [Lib.strCells_length] using hown') (by decide)
  · exact (hb1.grown hgrow (by have := hb1.size; omega) (fun k hk => (hown.lt k hk).1)).setCell (p := ⟨b, 1, none⟩) hB _

set_option maxHeartbeats 1000000 in
set_option maxRecDepth 100000 in
theorem string_ (B b : Nat) (l : List UInt8) (w : World) (h : Wr B b l w) (h0 : l ≠ []) :
    Calls Tryd.prog 22 #[.pointer (some ⟨b, 0, none⟩)] w fun e w' => e = .returned (.string ⟨l.toArray⟩) ∧ Below B w w' := by
  obtain ⟨p, hB, v, hbk, hown, hne⟩ : ∃ p, Lib.BuilderAt 71 5 B b p (Lib.byteCells l) w := by
    rcases h with h | h
    · exact ⟨_, h⟩
    · exact ⟨_, h⟩
  have hl0 : l.length ≠ 0 := by simpa using h0
  rw [Lib.byteCells_length] at hown
  obtain ⟨g, cap, cur, rfl, hbg, hg, hnc, hcm, hcs, htake⟩ : ∃ g cap cur, v = .slice (some ⟨g, 0, none⟩) l.length cap ∧ B ≤ g ∧ w.heap[g]? = some (.cells cur 5 (0, 0)) ∧ l.length ≤ cap ∧ cap ≤ maxLen ∧ cur.size = cap * 1 ∧ cur.toList.take (l.length * 1) = Lib.byteCells l := by
    rcases hown.2 with ⟨_, hz⟩ | ⟨g, cap, cur, hv, r⟩
    · exact absurd hz hl0
    · exact ⟨g, cap, cur, hv, r⟩
  have c1 : w.drew.cell? ⟨b, 1, none⟩ = some (.slice (some ⟨g, 0, none⟩) l.length cap) := by
    have : w.drew.heap[b]? = some (.cells #[p, .slice (some ⟨g, 0, none⟩) l.length cap] 71 (0, 0)) := hbk
    rw [Lib.cell_of_heap this]; rfl
  have hSD : (Builtin.unsafeSliceData_ #[67] 101 #[.slice (some ⟨g, 0, none⟩) l.length cap]).run Tryd.prog w.drew = .ok (.pointer (some ⟨g, 0, none⟩)) w.drew :=
    Lib.run_unsafeSliceData_row _ _ _ _ _ _ (by omega)
  have hUS : (Builtin.unsafeString_ #[101, 3] 9 #[.pointer (some ⟨g, 0, none⟩), .int .i64 l.length]).run Tryd.prog w.drew = .ok (.string ⟨l.toArray⟩) (w.drew.freeze ⟨g, 0, none⟩ l.length) := by
    refine Lib.run_unsafeString_row w.drew 101 3 9 5 u127 (by kernel_rfl) g cur.size (by have hg' : w.drew.heap[g]? = some (.cells cur 5 (0, 0)) := hg; simp [World.shape?, hg']) l h0 (by omega) (by unfold maxLen at hcm; omega) ?_
    intro j x hx
    have := hown.cells (g := g) rfl j (.int .u8 x.toNat) (by simp [Lib.byteCells, hx])
    exact this
  go_enter Tryd.func22, Tryd.ntmps22
  go_wp2
  go_region
  all_goals (go_wp2; go_ret; exact ⟨rfl, Lib.below_freeze (Below.drew (Below.refl B w)) (p := ⟨g, 0, none⟩) hbg _⟩)

theorem unsafeString_none (W : World) (q : Option Addr) : (Builtin.unsafeString_ #[101, 3] 9 #[.pointer q, .int .i64 0]).run Tryd.prog W = .ok (.string .empty) W :=
  Lib.run_unsafeString_none W _ _ _ q

set_option maxHeartbeats 2000000 in
set_option maxRecDepth 100000 in
/-- A writer that has written nothing. -/
theorem string_nil (b : Nat) (B : Nat) (p : Value) (w : World) (hbk : w.heap[b]? = some (.cells #[p, .slice none 0 0] 71 (0, 0))) :
    Calls Tryd.prog 22 #[.pointer (some ⟨b, 0, none⟩)] w fun e w' => e = .returned (.string ⟨#[]⟩) ∧ Below B w w' := by
  have hUS := unsafeString_none
  have c1 : w.drew.cell? ⟨b, 1, none⟩ = some (.slice none 0 0) := by
    have : w.drew.heap[b]? = some (.cells #[p, .slice none 0 0] 71 (0, 0)) := hbk
    rw [Lib.cell_of_heap this]; rfl
  have hSD : (Builtin.unsafeSliceData_ #[67] 101 #[.slice none 0 0]).run Tryd.prog w.drew = .ok (.pointer none) w.drew := rfl
  go_enter Tryd.func22, Tryd.ntmps22
  go_wp2
  go_region
  all_goals (go_wp2; go_ret; exact ⟨rfl, Below.drew (Below.refl B w)⟩)
end Go.Proofs.YtlmkhllippobaaaDoor.Wb
end
section
/- word.Text, word.Parse, word.Name, word.Number, walked by the shelf's contracts of strconv, strings, slices. -/
namespace Go.Proofs.YtlmkhllippobaaaDoor.Wl
open Go.RowKit Go.Proofs.YtlmkhllippobaaaDoorW.PrintWords Go.Proofs.YtlmkhllippobaaaDoorW.PrintLast

/-- What 'word.Text' computes. -/
def word_Text.f (a0 : Int) : Option ByteArray := if -2147483648 ≤ a0 ∧ a0 ≤ 2147483647 then some ⟨(Lib.itoa a0).toArray⟩ else none

theorem below_grow' (w : World) (k : Nat) (os : Array Obj) : Below w.heap.size w (Sort.grow (w.drewN k) os) := Lib.below_grow _ w (Nat.le_refl _) k os

set_option maxHeartbeats 1000000 in
set_option maxRecDepth 100000 in
theorem word_Text.calls (a0 : Int) (r : ByteArray) (w : World) (HG : Aside0 (LaidT w)) (h : word_Text.f a0 = some r) :
    Calls Tryd.prog 9 #[.int .i32 a0] w fun e w' => e = .returned (.string r) ∧ Below w.heap.size w w' := by
  unfold word_Text.f at h
  split at h
  case isFalse => cases h
  case isTrue hc =>
  obtain ⟨h0, h1⟩ := hc
  obtain rfl := Option.some.inj h
  go_enter Tryd.func9, Tryd.ntmps9
  go_wp2_with fail
  refine (Tryd.strconv_Itoa a0 (by omega) (by omega) _ HG.out.pow10).mono ?_
  rintro e w1 ⟨rfl, k, os, rfl⟩
  go_wp2
  go_ret
  exact ⟨rfl, below_grow' _ _ _⟩

/-- What 'word.Parse' makes of a text's bytes. -/
def parseW (l : List UInt8) : Int × Bool := match Lib.parseIntB 32 l with
  | .ok v => if Lib.itoa v = l then (v, true) else (0, false)
  | _ => (0, false)
def word_Parse.f (a0 : ByteArray) : Option (Int × Bool) := if a0.size ≤ 281474976710656 then some (parseW a0.data.toList) else none

set_option maxHeartbeats 1000000 in
set_option maxRecDepth 100000 in
theorem word_Parse.calls (a0 : ByteArray) (r1 : Int) (r2 : Bool) (w : World) (HG : Aside0 (LaidT w)) (h : word_Parse.f a0 = some (r1, r2)) :
    Calls Tryd.prog 50 #[.string a0] w fun e w' => e = .returned (.tuple #[.int .i32 r1, .bool r2]) ∧ Below w.heap.size w w' := by
  unfold word_Parse.f at h
  split at h
  case isFalse => cases h
  case isTrue hc =>
  have h := Option.some.inj h
  unfold parseW at h
  rcases hp : Lib.parseIntB 32 a0.data.toList with v | _ | _
  rotate_left 1
  · skip
    rw [hp] at h
    obtain ⟨rfl, rfl⟩ := Prod.mk.inj h
    obtain ⟨tp, p, hv⟩ := HG.out.syn
    go_enter Tryd.func50, Tryd.ntmps50
    go_wp2_with fail
    refine (Tryd.strconv_ParseInt_10_at32_syntax_var a0 hc hp tp p _ hv).mono ?_
    rintro e w1 ⟨N, rfl, hN, hh, hb⟩
    go_wp2
    go_ret2
    exact ⟨rfl, hb⟩
  · skip
    rw [hp] at h
    obtain ⟨rfl, rfl⟩ := Prod.mk.inj h
    obtain ⟨tp, p, hv⟩ := HG.out.ran
    go_enter Tryd.func50, Tryd.ntmps50
    go_wp2_with fail
    refine (Tryd.strconv_ParseInt_10_at32_range_var a0 hc hp tp p _ hv).mono ?_
    rintro e w1 ⟨N, rfl, hN, hh, hb⟩
    go_wp2
    go_ret2
    exact ⟨rfl, hb⟩
  · skip
    rw [hp] at h
    have hv := Lib.parseIntB_bounds hp
    have h0 : -2147483648 ≤ v := by have := hv.1; simpa using this
    have h1 : v ≤ 2147483647 := by have := hv.2; simp at this; omega
    have HH := Lib.hid h
    clear h hv
    have HT : Hid (word_Text.f v = some ⟨(Lib.itoa v).toArray⟩) := by show _ = _; unfold word_Text.f; rw [if_pos ⟨h0, h1⟩]
    go_enter Tryd.func50, Tryd.ntmps50
    go_wp2_with fail
    refine (Tryd.strconv_ParseInt_10_at32_ok a0 (by omega) v hp _).mono ?_
    rintro e w1 ⟨rfl, hw⟩
    have hb : Aside0 (Below w.heap.size w w1) := ⟨by rcases hw with rfl | ⟨t, rfl⟩; exact Below.refl _ _; exact Lib.bytesWorld_below _ _ _⟩
    clear hw
    go_wp2_with fail
    refine (word_Text.calls v _ _ ⟨HG.out.below hb.out⟩ HT.out).mono ?_
    rintro e w2 ⟨rfl, hb2⟩
    have hb2 := Aside0.mk (hb.out.trans (hb2.mono hb.out.size))
    go_wp2
    · have t : (!Lib.itoa v == a0.toList) = true := by assumption
      have e := HH.out
      rw [if_neg (by rw [← ByteArray.toList_eq]; simpa using t)] at e
      obtain ⟨rfl, rfl⟩ := Prod.mk.inj e
      go_ret2
      exact ⟨rfl, hb2.out⟩
    · have t : (!Lib.itoa v == a0.toList) = false := by assumption
      have e := HH.out
      rw [if_pos (by rw [← ByteArray.toList_eq]; simpa using t)] at e
      obtain ⟨rfl, rfl⟩ := Prod.mk.inj e
      go_ret2
      exact ⟨rfl, hb2.out⟩

/-! ### names -/
def nameList : List (List UInt8) := Lib.fields [99, 111, 110, 115, 116, 32, 97, 100, 100, 32, 115, 117, 98, 32, 109, 117, 108, 32, 97, 110, 100, 32, 111, 114, 32, 120, 111, 114, 32, 115, 104, 108, 32, 115, 104, 114, 32, 115, 97, 114, 32, 101, 113, 32, 108, 116, 32, 108, 116, 117, 32, 100, 105, 118, 32, 108, 111, 97, 100, 32, 115, 116, 111, 114, 101, 32, 99, 97, 108, 108, 32, 109, 117, 108, 119]
theorem nameList_eq : nameList = ["const", "add", "sub", "mul", "and", "or", "xor", "shl", "shr", "sar", "eq", "lt", "ltu", "div", "load", "store", "call", "mulw"].map (fun s => s.toUTF8.data.toList) := by decide +kernel
theorem nameList_len : nameList.length = 18 := by rw [nameList_eq]; rfl
def namesText : ByteArray := ⟨#[99, 111, 110, 115, 116, 32, 97, 100, 100, 32, 115, 117, 98, 32, 109, 117, 108, 32, 97, 110, 100, 32, 111, 114, 32, 120, 111, 114, 32, 115, 104, 108, 32, 115, 104, 114, 32, 115, 97, 114, 32, 101, 113, 32, 108, 116, 32, 108, 116, 117, 32, 100, 105, 118, 32, 108, 111, 97, 100, 32, 115, 116, 111, 114, 101, 32, 99, 97, 108, 108, 32, 109, 117, 108, 119]⟩
theorem names_ascii : ∀ (j : Nat) (b : UInt8), namesText.data.toList[j]? = some b → b.toNat < 128 := by
  have h : namesText.data.toList.all (fun b => decide (b.toNat < 128)) = true := by decide +kernel
  intro j b hj
  have := List.all_eq_true.mp h b (List.mem_of_getElem? hj)
  simpa using this
def nameVals : List Value := nameList.map (fun l => .string ⟨l.toArray⟩)
theorem nameVals_len : nameVals.length = 18 := by unfold nameVals; rw [List.length_map, nameList_len]
theorem fields_names (w : World) (HG : Aside0 (Laid w)) :
    Calls Tryd.prog 18 #[.string namesText] w fun e w' => e = .returned (.slice (some ⟨w.heap.size, 0, none⟩) 18 18) ∧ w' = w.alloc (.cells nameVals.toArray 9) := by
  refine (Tryd.strings_Fields_laid namesText w (by decide) names_ascii HG.out.asc).mono ?_
  rintro e w1 ⟨rfl, rfl⟩
  have e1 : Lib.fields namesText.data.toList = nameList := rfl
  refine ⟨?_, ?_⟩
  · rw [e1, nameList_len]
  · rw [e1]; rfl
theorem name_cell (w : World) (i : Nat) (h : i < 18) : (w.alloc (.cells nameVals.toArray 9)).cell? ⟨w.heap.size, i, none⟩ = some (.string ⟨(nameList.getD i []).toArray⟩) := by
  have h1 : i < nameList.length := by rw [nameList_len]; exact h
  have e : nameVals.toArray[i]? = some (.string ⟨(nameList.getD i []).toArray⟩) := by
    unfold nameVals
    rw [List.getElem?_toArray, List.getElem?_map, List.getElem?_eq_getElem h1, List.getD_eq_getElem?_getD, List.getElem?_eq_getElem h1]
    rfl
  have hh := (MapKept.heap_alloc w (.cells nameVals.toArray 9)).1
  simp only [World.cell?, hh]
  exact e
/-- What 'word.Name' computes. -/
def word_Name.f (a0 : Int) : Option ByteArray := some (if 1 ≤ a0 ∧ a0 ≤ 18 then ⟨(nameList.getD (a0.toNat - 1) []).toArray⟩ else ⟨#[]⟩)
set_option maxHeartbeats 1000000 in
set_option maxRecDepth 100000 in
theorem word_Name.calls (a0 : Int) (r : ByteArray) (w : World) (HG : Aside0 (Laid w)) (h : word_Name.f a0 = some r) :
    Calls Tryd.prog 45 #[.int .i64 a0] w fun e w' => e = .returned (.string r) ∧ Below w.heap.size w w' := by
  have h := Option.some.inj h
  have fn := fields_names w HG
  unfold namesText at fn
  by_cases c : 1 ≤ a0 ∧ a0 ≤ 18
  · rw [if_pos c] at h
    subst h
    obtain ⟨c1, c2⟩ := c
    have hc := name_cell w (a0.toNat - 1) (by omega)
    have b0 : decide (a0 < 1) = false := by simp; omega
    have b1 : decide (18 < a0) = false := by simp; omega
    go_enter Tryd.func45, Tryd.ntmps45
    go_wp2_with fail
    refine fn.mono ?_
    rintro e w1 ⟨rfl, rfl⟩
    go_wp2
    go_ret
    exact ⟨rfl, (Below.refl _ _).alloc (Nat.le_refl _) _⟩
  · rw [if_neg c] at h
    subst h
    by_cases c1 : a0 < 1
    · have b0 : decide (a0 < 1) = true := by simp; omega
      go_enter Tryd.func45, Tryd.ntmps45
      go_wp2_with fail
      refine fn.mono ?_
      rintro e w1 ⟨rfl, rfl⟩
      go_wp2
      go_ret
      exact ⟨rfl, (Below.refl _ _).alloc (Nat.le_refl _) _⟩
    · have b0 : decide (a0 < 1) = false := by simp; omega
      have b1 : decide (18 < a0) = true := by simp; omega
      go_enter Tryd.func45, Tryd.ntmps45
      go_wp2_with fail
      refine fn.mono ?_
      rintro e w1 ⟨rfl, rfl⟩
      go_wp2
      go_ret
      exact ⟨rfl, (Below.refl _ _).alloc (Nat.le_refl _) _⟩
/-- What 'word.Number' computes. -/
def nameStrs : List ByteArray := nameList.map (fun l => ⟨l.toArray⟩)
theorem nameStrs_len : nameStrs.length = 18 := by unfold nameStrs; rw [List.length_map, nameList_len]
theorem nameStrs_at (j : Nat) (h : j < 18) : nameStrs.getD j ByteArray.empty = ⟨(nameList.getD j []).toArray⟩ := by
  have h1 : j < nameList.length := by rw [nameList_len]; exact h
  unfold nameStrs
  rw [List.getD_eq_getElem?_getD, List.getElem?_map, List.getElem?_eq_getElem h1, List.getD_eq_getElem?_getD, List.getElem?_eq_getElem h1]
  rfl
theorem idx_from (x : ByteArray) : ∀ (l : List ByteArray) (i : Nat), -1 ≤ Lib.idxFromS l x i ∧ Lib.idxFromS l x i < ((i + l.length : Nat) : Int) := by
  intro l
  induction l with
  | nil => intro i; unfold Lib.idxFromS; omega
  | cons z l ih =>
    intro i
    have h := ih (i + 1)
    unfold Lib.idxFromS
    rw [List.length_cons]
    split
    · omega
    · omega
theorem idx_bounds (l : List ByteArray) (x : ByteArray) : -1 ≤ Lib.idxOfS l x ∧ Lib.idxOfS l x < l.length := by
  have h := idx_from x l 0
  rw [Nat.zero_add] at h
  exact h
def word_Number.f (a0 : ByteArray) : Option Int := some (1 + Lib.idxOfS nameStrs a0)
set_option maxHeartbeats 1000000 in
set_option maxRecDepth 100000 in
theorem word_Number.calls (a0 : ByteArray) (r : Int) (w : World) (HG : Aside0 (Laid w)) (h : word_Number.f a0 = some r) :
    Calls Tryd.prog 34 #[.string a0] w fun e w' => e = .returned (.int .i64 r) ∧ Below w.heap.size w w' := by
  have h := Option.some.inj h
  have fn := fields_names w HG
  unfold namesText at fn
  have HH := Lib.hid h
  clear h
  go_enter Tryd.func34, Tryd.ntmps34
  go_wp2_with fail
  refine fn.mono ?_
  rintro e w1 ⟨rfl, rfl⟩
  go_wp2_with fail
  refine (Tryd.slices_Index_string w.heap.size 0 18 18 nameStrs a0 _ (by rw [nameStrs_len]; exact Nat.le_refl _) (by omega) ?cells).mono ?_
  case cells =>
    intro j hj
    rw [nameStrs_len] at hj
    rw [Nat.zero_add, name_cell w j hj, nameStrs_at j hj]
  rintro e w1 ⟨rfl, rfl⟩
  rw [List.take_of_length_le (by rw [nameStrs_len]; exact Nat.le_refl _)]
  have hi := idx_bounds nameStrs a0
  rw [nameStrs_len] at hi
  obtain ⟨hi0, hi1⟩ := hi
  go_wp2
  go_ret
  exact ⟨by rw [← HH.out]; rfl, (Below.refl _ _).alloc (Nat.le_refl _) _⟩
end Go.Proofs.YtlmkhllippobaaaDoor.Wl
end
section
/- text.writer.line: a line of words and rows of numbers, walked. -/
set_option linter.unusedVariables false
set_option linter.unusedSimpArgs false
namespace Go.Proofs.YtlmkhllippobaaaDoor.Wb
open Go.RowKit Go.Proofs.YtlmkhllippobaaaDoorW.PrintWords Go.Proofs.YtlmkhllippobaaaDoor.Wl

/-! ### what a call keeps beside the writer -/
theorem wr_below {B b : Nat} {l : List UInt8} {w w1 : World} (h : Wr B b l w) (hb : Below w.heap.size w w1) : Wr B b l w1 := by
  have key : ∀ p, Lib.BuilderAt T T5 B b p (Lib.byteCells l) w → Lib.BuilderAt T T5 B b p (Lib.byteCells l) w1 := by
    rintro p ⟨hB, v, hbk, hown, hne⟩
    exact ⟨hB, v, blk_below hbk hb, pw_own_below hown hb, hne⟩
  exact h.elim (fun x => .inl (key _ x)) (fun x => .inr (key _ x))
theorem wr_drew {B b : Nat} {l : List UInt8} {w : World} (h : Wr B b l w) : Wr B b l w.drew := h
theorem wr_typed {B b : Nat} {l : List UInt8} {w : World} (h : Wr B b l w) : B ≤ b ∧ ∃ cs, w.heap[b]? = some (.cells cs T (0, 0)) := by
  rcases h with ⟨hB, v, hbk, _⟩ | ⟨hB, v, hbk, _⟩
  · exact ⟨hB, _, hbk⟩
  · exact ⟨hB, _, hbk⟩
theorem others_below {e : TypeId} {b : Option Nat} {w w1 : World} (h : Below w.heap.size w w1) : Lib.OthersKept e b w w1 :=
  fun k o hk _ _ => blk_below hk h
theorem own_others {w w1 : World} {base b n size : Nat} {e e5 t : TypeId} {v : Value} {xs : List Value} {cs : Array Value} (h : w.ownsRow base e size v n xs) (hk : Lib.OthersKept e5 (some b) w w1) (he : e ≠ e5) (hb : w.heap[b]? = some (.cells cs t (0, 0))) (ht : e ≠ t) : w1.ownsRow base e size v n xs := by
  have hne := own_ne h hb ht
  obtain ⟨h1, h2⟩ := h
  refine ⟨h1, ?_⟩
  rcases h2 with h2 | ⟨g, cap, cur, rfl, hg, hh, r⟩
  · exact .inl h2
  · refine .inr ⟨g, cap, cur, rfl, hg, hk g _ hh (fun e' => hne (by rw [← e']; rfl)) (fun c fz e' => ?_), r⟩
    injection e' with _ e'
    exact he e'

/-! ### what is written -/
inductive Item where
  | ints (v : Value) (xs : List Int)
  | int (n : Int)
  | w32 (n : Int)
  | str (s : ByteArray)
def Item.cell : Item → Value
  | .ints v _ => .iface 33 v
  | .int n => .iface 3 (.int .i64 n)
  | .w32 n => .iface 21 (.int .i32 n)
  | .str s => .iface 9 (.string s)
def dL (n : Int) : List UInt8 := 32 :: Lib.itoa n
def Item.text : Item → List UInt8
  | .ints _ xs => xs.flatMap dL
  | .int n => dL n
  | .w32 n => dL n
  | .str s => 32 :: s.data.toList
def Item.ok (w : World) : Item → Prop
  | .ints v xs => ∃ A c, v = .slice A xs.length c ∧ (Kd.int .i64).C w A xs.length xs ∧ ∀ x ∈ xs, -9223372036854775808 ≤ x ∧ x ≤ 9223372036854775807
  | .int n => -9223372036854775808 ≤ n ∧ n ≤ 9223372036854775807
  | .w32 n => -2147483648 ≤ n ∧ n ≤ 2147483647
  | .str s => True
def lineText (first : List UInt8) (l : List Item) : List UInt8 := first ++ l.flatMap Item.text ++ [10]

set_option maxHeartbeats 1000000 in
set_option maxRecDepth 100000 in
theorem itoa_calls (n : Int) (w : World) (HG : Aside0 (LaidT w)) (h0 : -9223372036854775808 ≤ n) (h1 : n ≤ 9223372036854775807) :
    Calls Tryd.prog 19 #[.int .i64 n] w fun e w' => e = .returned (.string ⟨(Lib.itoa n).toArray⟩) ∧ Below w.heap.size w w' := by
  refine (Tryd.strconv_Itoa n (by omega) (by omega) w HG.out.pow10).mono ?_
  rintro e w1 ⟨rfl, k, os, rfl⟩
  exact ⟨rfl, Lib.below_grow _ w (Nat.le_refl _) k os⟩
theorem text_calls (n : Int) (w : World) (HG : Aside0 (LaidT w)) (h0 : -2147483648 ≤ n) (h1 : n ≤ 2147483647) :
    Calls Tryd.prog 9 #[.int .i32 n] w fun e w' => e = .returned (.string ⟨(Lib.itoa n).toArray⟩) ∧ Below w.heap.size w w' :=
  word_Text.calls n _ w HG (by unfold word_Text.f; rw [if_pos ⟨h0, h1⟩])

/-- What holds at a loop's head. -/
structure LI (B b : Nat) (l : List UInt8) (v : Value) (items : List Item) (w0 w : World) : Prop where
  wr : Wr B b l w
  row : w.ownsRow B 20 1 v items.length (items.map Item.cell)
  bel : Below B w0 w
  size : B ≤ w.heap.size
  oth : Lib.OthersKept 5 (some b) w0 w

theorem LI.below {B b : Nat} {l : List UInt8} {v : Value} {items : List Item} {w0 w w1 : World} (h : LI B b l v items w0 w) (hb : Below w.heap.size w w1) : LI B b l v items w0 w1 :=
  ⟨wr_below h.wr hb, pw_own_below h.row hb, h.bel.trans (hb.mono h.size), Nat.le_trans h.size hb.size, h.oth.trans (others_below hb)⟩
theorem LI.drew {B b : Nat} {l : List UInt8} {v : Value} {items : List Item} {w0 w : World} (h : LI B b l v items w0 w) : LI B b l v items w0 w.drew :=
  ⟨h.wr, h.row, h.bel.drew, h.size, h.oth.drew⟩
theorem LI.wrote {B b : Nat} {l l' : List UInt8} {v : Value} {items : List Item} {w0 w w1 : World} (h : LI B b l v items w0 w) (hw : Wr B b l' w1) (hb : Below B w w1) (hk : Lib.OthersKept 5 (some b) w w1) : LI B b l' v items w0 w1 := by
  obtain ⟨_, cs, hcs⟩ := wr_typed h.wr
  exact ⟨hw, own_others h.row hk (by decide) hcs (by decide), h.bel.trans hb, Nat.le_trans h.size hb.size, h.oth.trans hk⟩
/-- The item at place i. -/
theorem LI.cell {B b : Nat} {l : List UInt8} {v : Value} {items : List Item} {w0 w : World} (h : LI B b l v items w0 w) : ∃ A c, v = .slice A items.length c ∧ ∀ k it, items[k]? = some it → ∃ ad, A = some ad ∧ w.cell? (ad.add k) = some it.cell := by
  obtain ⟨A, c, rfl, hr⟩ := own_reads_of (enc := Item.cell) (d := Item.int 0) h.row
  refine ⟨A, c, rfl, fun k it hk => ?_⟩
  have hl := (List.getElem?_eq_some_iff.1 hk).1
  obtain ⟨ad, e, hc⟩ := hr.2.2 (by omega)
  refine ⟨ad, e, ?_⟩
  rw [hc k hl, List.getD_eq_getElem?_getD, hk]
  rfl

@[local go_sem] theorem as_0_0 (v : Value) (w : World) : (Instr.typeAssert (.iface 33 v) 20 33 true).run Tryd.prog w = .ok (.tuple #[v, .bool true]) w := by kernel_rfl
@[local go_sem] theorem as_1_0 (v : Value) (w : World) : (Instr.typeAssert (.iface 3 v) 20 33 true).run Tryd.prog w = .ok (.tuple #[.slice none 0 0, .bool false]) w := by kernel_rfl
@[local go_sem] theorem as_1_1 (v : Value) (w : World) : (Instr.typeAssert (.iface 3 v) 20 3 true).run Tryd.prog w = .ok (.tuple #[v, .bool true]) w := by kernel_rfl
@[local go_sem] theorem as_2_0 (v : Value) (w : World) : (Instr.typeAssert (.iface 21 v) 20 33 true).run Tryd.prog w = .ok (.tuple #[.slice none 0 0, .bool false]) w := by kernel_rfl
@[local go_sem] theorem as_2_1 (v : Value) (w : World) : (Instr.typeAssert (.iface 21 v) 20 3 true).run Tryd.prog w = .ok (.tuple #[.int .i64 0, .bool false]) w := by kernel_rfl
@[local go_sem] theorem as_2_2 (v : Value) (w : World) : (Instr.typeAssert (.iface 21 v) 20 21 true).run Tryd.prog w = .ok (.tuple #[v, .bool true]) w := by kernel_rfl
@[local go_sem] theorem as_3_0 (v : Value) (w : World) : (Instr.typeAssert (.iface 9 v) 20 33 true).run Tryd.prog w = .ok (.tuple #[.slice none 0 0, .bool false]) w := by kernel_rfl
@[local go_sem] theorem as_3_1 (v : Value) (w : World) : (Instr.typeAssert (.iface 9 v) 20 3 true).run Tryd.prog w = .ok (.tuple #[.int .i64 0, .bool false]) w := by kernel_rfl
@[local go_sem] theorem as_3_2 (v : Value) (w : World) : (Instr.typeAssert (.iface 9 v) 20 21 true).run Tryd.prog w = .ok (.tuple #[.int .i32 0, .bool false]) w := by kernel_rfl
@[local go_sem] theorem as_3_3 (v : Value) (w : World) : (Instr.typeAssert (.iface 9 v) 20 9 true).run Tryd.prog w = .ok (.tuple #[v, .bool true]) w := by kernel_rfl
theorem li_write {B b : Nat} {l : List UInt8} {v : Value} {items : List Item} {w0 wx : World} (h : LI B b l v items w0 wx) (s : ByteArray) (x : List UInt8) (hx : s.data.toList = x) (hs : l.length + (1 + x.length) ≤ 140737488355328) :
    Calls Tryd.prog 43 #[.pointer (some ⟨b, 0, none⟩), .string ({ data := #[32] } ++ s)] wx fun e w' => (∃ r, e = .returned r) ∧ LI B b (l ++ 32 :: x) v items w0 w' := by
  have e1 : ({ data := #[32] } ++ s : ByteArray).data.toList = 32 :: x := by rw [← hx]; simp
  have e2 : ({ data := #[32] } ++ s : ByteArray).size = 1 + x.length := by rw [Lib.size_eq, e1, List.length_cons, Nat.add_comm]
  refine (writeString B b l _ wx h.wr (by rw [e2]; exact hs) h.size).mono ?_
  rintro e w1 ⟨rfl, hw, hb, hk⟩
  rw [e1] at hw
  exact ⟨⟨_, rfl⟩, h.wrote hw hb hk⟩
theorem li_nl {B b : Nat} {l : List UInt8} {v : Value} {items : List Item} {w0 wx : World} (h : LI B b l v items w0 wx) (hs : l.length + 1 ≤ 140737488355328) :
    Calls Tryd.prog 44 #[.pointer (some ⟨b, 0, none⟩), .int .u8 10] wx fun e w' => (∃ r, e = .returned r) ∧ LI B b (l ++ [10]) v items w0 w' := by
  refine (writeByte B b l 10 wx h.wr hs h.size).mono ?_
  rintro e w1 ⟨rfl, hw, hb, hk⟩
  exact ⟨⟨_, rfl⟩, h.wrote hw hb hk⟩
theorem flatd_le (xs : List Int) (k : Nat) : ((xs.take k).flatMap dL).length ≤ (xs.flatMap dL).length := by
  conv => rhs; rw [← List.take_append_drop k xs, List.flatMap_append, List.length_append]
  omega
theorem taked_step (xs : List Int) (j : Nat) (h : j < xs.length) : (xs.take (j + 1)).flatMap dL = (xs.take j).flatMap dL ++ 32 :: Lib.itoa (rd xs j) := by
  rw [List.take_add_one, List.getElem?_eq_getElem h, List.flatMap_append]
  have e : rd xs j = xs[j] := by simp [rd, List.getD_eq_getElem?_getD, List.getElem?_eq_getElem h]
  rw [e]
  simp [dL]
theorem flat_le (items : List Item) (k : Nat) : ((items.take k).flatMap Item.text).length ≤ (items.flatMap Item.text).length := by
  conv => rhs; rw [← List.take_append_drop k items, List.flatMap_append, List.length_append]
  omega
theorem take_step (items : List Item) (k : Nat) (it : Item) (h : items[k]? = some it) : (items.take (k + 1)).flatMap Item.text = (items.take k).flatMap Item.text ++ it.text := by
  rw [List.take_add_one, h, List.flatMap_append]
  simp

set_option maxHeartbeats 4000000 in
set_option maxRecDepth 1000000 in
theorem line_calls (B b : Nat) (l : List UInt8) (first : ByteArray) (v : Value) (items : List Item) (w : World)
    (HG : Aside0 (∀ w', Below B w w' → LaidT w')) (hW : Wr B b l w) (hB : B ≤ w.heap.size)
    (hrow : w.ownsRow B 20 1 v items.length (items.map Item.cell))
    (hread : Aside0 (∀ it ∈ items, ∀ w', Below B w w' → it.ok w'))
    (hlen : l.length + (lineText first.data.toList items).length ≤ 140737488355328) :
    Calls Tryd.prog 21 #[.pointer (some ⟨b, 0, none⟩), .string first, v] w fun e w' => e = .returned (.tuple #[]) ∧ Wr B b (l ++ lineText first.data.toList items) w' ∧ Below B w w' ∧ Lib.OthersKept 5 (some b) w w' := by
  obtain ⟨A, c, rfl⟩ := own_slice hrow
  have hmax : items.length ≤ 9223372036854775807 := by
    obtain ⟨_, _, _, hr⟩ := own_reads_of (enc := Item.cell) (d := Item.int 0) hrow
    exact hr.2.1
  have hl1 : l.length + first.size ≤ 140737488355328 := by
    unfold lineText at hlen
    simp only [List.length_append] at hlen
    rw [Lib.size_eq]
    omega
  have HL := Lib.hid hlen
  clear hlen
  go_enter Tryd.func21, Tryd.ntmps21
  go_wp2_with (go_at_call 43; refine (writeString B b l first _ hW hl1 hB).mono ?_)
  rintro e w1 ⟨rfl, hw1, hb1, hk1⟩
  have H1 : Aside0 (LI B b (l ++ first.data.toList) (.slice A items.length c) items w w1) := ⟨(LI.mk hW hrow (Below.refl _ _) hB (Lib.OthersKept.refl _ _ _)).wrote hw1 hb1 hk1⟩
  clear hW hB hrow hw1 hb1 hk1 hl1
  go_wp2
  go_loopg [21] items.length (fun gk s21 wx => ∃ k : Nat, s21 = .int .i64 (k : Int) ∧ k + gk = items.length ∧ LI B b (l ++ first.data.toList ++ (items.take k).flatMap Item.text) (.slice A items.length c) items w wx)
  case atStart => exact ⟨0, rfl, by omega, by simpa using H1.out⟩
  case round =>
    obtain ⟨k, rfl, hk, hI⟩ := hrel
    by_cases hlt : k < items.length
    · obtain ⟨g', rfl⟩ : ∃ g', gk = g' + 1 := ⟨gk - 1, by omega⟩
      obtain ⟨it, hit⟩ : ∃ it, items[k]? = some it := ⟨_, List.getElem?_eq_getElem hlt⟩
      obtain ⟨A', c', hv, hcs⟩ := hI.cell
      obtain ⟨ad, hA, hc⟩ := hcs k it hit
      injection hv with hv1 hv2 hv3
      subst hv1; subst hA; subst hv3
      have hok := hread.out it (List.mem_of_getElem? hit) wr hI.bel
      have hI := Aside0.mk hI
      have hstep := Lib.hid (take_step items k it hit)
      have hle := Lib.hid (flat_le items (k + 1))
      have hbound : Hid (l.length + first.size + ((items.take k).flatMap Item.text).length + it.text.length + 1 ≤ 140737488355328) := by
        have h1 := HL.out
        have h2 := hle.out
        have h3 := hstep.out
        rw [h3, List.length_append] at h2
        unfold lineText at h1
        simp only [List.length_append, List.length_singleton] at h1
        rw [Lib.size_eq]
        show _ ≤ _
        omega
      have hmem := Lib.hid (List.mem_of_getElem? hit)
      clear hcs hit
      cases it with
      | ints v xs =>
        obtain ⟨A2, c2, rfl, hC, hnum⟩ := hok
        have hxmax : xs.length ≤ 9223372036854775807 := by have := hC.2.1; exact this
        unfold Item.cell at hc
        have HNUM := Lib.hid hnum
        have HI2 : Aside0 (LI B b (l ++ first.data.toList ++ (items.take k).flatMap Item.text ++ (xs.take 0).flatMap dL) (Value.slice (some ad) items.length c) items w wr) := ⟨by simpa using hI.out⟩
        have HRD : Aside0 (∀ w', Below B w w' → (Kd.int .i64).C w' A2 xs.length xs) := ⟨fun w' hb => by
          obtain ⟨A3, c3, he, hC3, _⟩ := hread.out _ hmem.out w' hb
          injection he with h1 h2 h3
          subst h1
          exact hC3⟩
        clear hnum hC hI
        go_wp2
        go_loopg [31] xs.length (fun gj s31 wx => ∃ j : Nat, s31 = .int .i64 (j : Int) ∧ j + gj = xs.length ∧ LI B b (l ++ first.data.toList ++ (items.take k).flatMap Item.text ++ (xs.take j).flatMap dL) (Value.slice (some ad) items.length c) items w wx)
        case atStart => exact ⟨0, rfl, by omega, HI2.out⟩
        case round =>
          obtain ⟨j, rfl, hj, hI⟩ := hrel
          by_cases hjl : j < xs.length
          · obtain ⟨g2, rfl⟩ : ∃ g2, gk = g2 + 1 := ⟨gk - 1, by omega⟩
            obtain ⟨ad2, rfl, hc2⟩ := Kd.at_int (HRD.out _ hI.bel) (j : Int) (by omega) (by omega)
            rw [Int.toNat_natCast] at hc2
            have hst := taked_step xs j hjl
            have hrange := HNUM.out (rd xs j) (by
              have : rd xs j = xs[j] := by simp [rd, List.getD_eq_getElem?_getD, List.getElem?_eq_getElem hjl]
              rw [this]
              exact List.getElem_mem hjl)
            have hI := Aside0.mk hI
            obtain ⟨n, hn⟩ : ∃ n, rd xs j = n := ⟨_, rfl⟩
            rw [hn] at hc2 hst hrange
            clear hn
            have hbd : (l ++ first.data.toList ++ (items.take k).flatMap Item.text ++ (xs.take j).flatMap dL).length + (1 + (Lib.itoa n).length) ≤ 140737488355328 := by
              have h1 := hbound.out
              have h2 := flatd_le xs (j + 1)
              rw [hst, List.length_append, List.length_cons] at h2
              simp only [Item.text] at h1
              simp only [List.length_append]
              rw [Lib.size_eq] at h1
              omega
            obtain ⟨t, ht⟩ : ∃ t : ByteArray, t = ⟨(Lib.itoa n).toArray⟩ := ⟨_, rfl⟩
            have htl : t.data.toList = Lib.itoa n := by rw [ht]
            have hno : ¬ (9223372036854775807 < 1 + t.size) := by
              rw [Lib.size_eq, htl]
              omega
            have HST := Lib.hid hst
            have HB2 := Lib.hid hbd
            have HT := Lib.hid htl
            have HT2 := Lib.hid ht
            have HN := Lib.hid hrange
            clear hbd htl ht hst hrange
            go_wp2
            go_region_with (first
              | (go_at_call 19; refine (itoa_calls n _ ⟨HG.out _ hI.out.drew.bel⟩ HN.out.1 HN.out.2).mono ?_; rw [← HT2.out]; rintro e w2 ⟨rfl, hb2⟩; have hI3 := Aside0.mk (hI.out.drew.below hb2); clear hb2)
              | (go_at_call 43; refine (li_write hI3.out t _ HT.out HB2.out).mono ?_; rintro e w2 ⟨⟨r, rfl⟩, hI2⟩; have hI2 := Aside0.mk hI2))
            all_goals
              go_wp2
              go_roundg g2
              case measure => omega
              case rel => exact ⟨j + 1, by first | (simp; done) | (simp; unfold wrap64; omega), by omega, by rw [HST.out, ← List.append_assoc]; exact hI2.out⟩
          · have hje : j = xs.length := by omega
            subst hje
            have hI := Aside0.mk hI
            go_wp2
            go_roundg g'
            case measure => omega
            case rel => exact ⟨k + 1, by first | (simp; done) | (simp; unfold wrap64; omega), by omega, by have := hI.out; rw [List.take_length] at this; rw [hstep.out, ← List.append_assoc]; exact this⟩
      | int n =>
        obtain ⟨n0, n1⟩ := hok
        unfold Item.cell at hc
        obtain ⟨t, ht⟩ : ∃ t : ByteArray, t = ⟨(Lib.itoa n).toArray⟩ := ⟨_, rfl⟩
        have htl : t.data.toList = Lib.itoa n := by rw [ht]
        have hts : t.size = (Lib.itoa n).length := by rw [Lib.size_eq, htl]
        have hno : ¬ (9223372036854775807 < 1 + t.size) := by
          have := hbound.out
          simp only [Item.text, dL, List.length_cons] at this
          rw [hts]
          omega
        have hb2 : (l ++ first.data.toList ++ (items.take k).flatMap Item.text).length + (1 + (Lib.itoa n).length) ≤ 140737488355328 := by
          have := hbound.out
          simp only [Item.text, dL, List.length_cons] at this
          simp only [List.length_append]
          rw [Lib.size_eq] at this
          omega
        have HB2 := Lib.hid hb2
        have HT := Lib.hid htl
        have HT2 := Lib.hid ht
        have HN := Lib.hid (And.intro n0 n1)
        clear hb2 htl hts ht n0 n1
        go_wp2
        go_region_with (first
          | (go_at_call 19; refine (itoa_calls n _ ⟨HG.out _ hI.out.drew.bel⟩ HN.out.1 HN.out.2).mono ?_; rw [← HT2.out]; rintro e w2 ⟨rfl, hb2⟩; have hI3 := Aside0.mk (hI.out.drew.below hb2); clear hb2)
          | (go_at_call 43; refine (li_write hI3.out t _ HT.out HB2.out).mono ?_; rintro e w2 ⟨⟨r, rfl⟩, hI2⟩; have hI2 := Aside0.mk hI2))
        all_goals
          go_wp2
          go_roundg g'
          case measure => omega
          case rel => exact ⟨k + 1, by first | (simp; done) | (simp; unfold wrap64; omega), by omega, by rw [hstep.out, ← List.append_assoc]; exact hI2.out⟩
      | w32 n =>
        obtain ⟨n0, n1⟩ := hok
        unfold Item.cell at hc
        obtain ⟨t, ht⟩ : ∃ t : ByteArray, t = ⟨(Lib.itoa n).toArray⟩ := ⟨_, rfl⟩
        have htl : t.data.toList = Lib.itoa n := by rw [ht]
        have hts : t.size = (Lib.itoa n).length := by rw [Lib.size_eq, htl]
        have hno : ¬ (9223372036854775807 < 1 + t.size) := by
          have := hbound.out
          simp only [Item.text, dL, List.length_cons] at this
          rw [hts]
          omega
        have hb2 : (l ++ first.data.toList ++ (items.take k).flatMap Item.text).length + (1 + (Lib.itoa n).length) ≤ 140737488355328 := by
          have := hbound.out
          simp only [Item.text, dL, List.length_cons] at this
          simp only [List.length_append]
          rw [Lib.size_eq] at this
          omega
        have HB2 := Lib.hid hb2
        have HT := Lib.hid htl
        have HT2 := Lib.hid ht
        have HN := Lib.hid (And.intro n0 n1)
        clear hb2 htl hts ht n0 n1
        go_wp2
        go_region_with (first
          | (go_at_call 9; refine (text_calls n _ ⟨HG.out _ hI.out.drew.bel⟩ HN.out.1 HN.out.2).mono ?_; rw [← HT2.out]; rintro e w2 ⟨rfl, hb2⟩; have hI3 := Aside0.mk (hI.out.drew.below hb2); clear hb2)
          | (go_at_call 43; refine (li_write hI3.out t _ HT.out HB2.out).mono ?_; rintro e w2 ⟨⟨r, rfl⟩, hI2⟩; have hI2 := Aside0.mk hI2))
        all_goals
          go_wp2
          go_roundg g'
          case measure => omega
          case rel => exact ⟨k + 1, by first | (simp; done) | (simp; unfold wrap64; omega), by omega, by rw [hstep.out, ← List.append_assoc]; exact hI2.out⟩
      | str s =>
        unfold Item.cell at hc
        have hno : ¬ (9223372036854775807 < 1 + s.size) := by
          have := hbound.out
          simp only [Item.text, List.length_cons] at this
          rw [Lib.size_eq]
          omega
        have hb2 : (l ++ first.data.toList ++ (items.take k).flatMap Item.text).length + (1 + s.data.toList.length) ≤ 140737488355328 := by
          have := hbound.out
          simp only [Item.text, List.length_cons] at this
          simp only [List.length_append]
          rw [Lib.size_eq] at this
          omega
        have HB2 := Lib.hid hb2
        clear hb2
        go_wp2_with (go_at_call 43; refine (li_write hI.out s _ rfl HB2.out).mono ?_; rintro e w2 ⟨⟨r, rfl⟩, hI2⟩; have hI2 := Aside0.mk hI2)
        go_wp2
        go_roundg g'
        case measure => omega
        case rel => exact ⟨k + 1, by first | (simp; done) | (simp; unfold wrap64; omega), by omega, by rw [hstep.out, ← List.append_assoc]; exact hI2.out⟩
    · have hke : k = items.length := by omega
      subst hke
      have hI := Aside0.mk hI
      have hb2 : (l ++ first.data.toList ++ (items.take items.length).flatMap Item.text).length + 1 ≤ 140737488355328 := by
        have := HL.out
        unfold lineText at this
        simp only [List.length_append, List.length_singleton, List.take_length] at this ⊢
        omega
      have HB2 := Lib.hid hb2
      clear hb2
      go_wp2_with (go_at_call 44; refine (li_nl hI.out HB2.out).mono ?_; rintro e w2 ⟨⟨r, rfl⟩, hI2⟩; have hI2 := Aside0.mk hI2)
      go_end0
      have := hI2.out
      refine ⟨rfl, ?_, this.bel, this.oth⟩
      have h2 := this.wr
      rw [List.take_length] at h2
      unfold lineText
      simpa [List.append_assoc] using h2
end Go.Proofs.YtlmkhllippobaaaDoor.Wb
end
