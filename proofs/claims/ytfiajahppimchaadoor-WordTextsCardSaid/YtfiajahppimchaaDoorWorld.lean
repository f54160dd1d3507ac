/- A start that fits: the settled world, the listed variables holding what their initialisers lay; and what a row's list gives a walk. -/
import Derived.Test.YtfiajahppimchaaDoorRows
import Derived.Test.YtfiajahppimchaaDoorLaid
import Derived.ProofKit
import Derived.OpenShut
import Derived.LaidLaws
import Derived.MakeChecks
import Derived.Lib.LaidTab
import Derived.Stop.LaidErr
import Derived.Deep.DeepHandedRow
import Derived.Deep.DeepWitnessRowRef
namespace Go.Proofs.YtfiajahppimchaaDoor.Wd
open Go.ChangeShapes Go.WideShapes Go.ChangeAt Go.RowKit Go.Proofs.YtfiajahppimchaaDoor.Wl

abbrev synS : ByteArray := { data := #[105, 110, 118, 97, 108, 105, 100, 32, 115, 121, 110, 116, 97, 120] }
abbrev rngS : ByteArray := { data := #[118, 97, 108, 117, 101, 32, 111, 117, 116, 32, 111, 102, 32, 114, 97, 110, 103, 101] }
def ints (k : IntKind) : List (DataW Unit) → List Value
  | .lit (.int _ n) :: r => .int k n :: ints k r
  | _ => []
def cellsOf (k : IntKind) : DataW Unit → Array Value
  | .agg l => (ints k l).toArray
  | _ => #[]
/-- So many blocks has the settled world. -/
noncomputable def low : Nat := (World.holding Tryd.prog default ⟨#[], #[], []⟩).heap.size
def whites : List Value := [9, 13, 1, 32, 133, 101, 160, 5760, 5600, 8192, 8202, 1, 8232, 8233, 1, 8239, 8287, 48, 12288, 12288, 1].map (Value.int .u16)
def lay (g : Nat) (cs : Array Value) (h : Array Obj) : Array Obj := h.modify g fun
  | .cells _ t frozen => .cells cs t frozen
  | o => o
noncomputable def freshWorld (os : Os) : World := World.holding Tryd.prog os ⟨#[.cells #[.string rngS] 89, .cells #[.string synS] 89, .cells whites.toArray 81, .cells #[.slice (some ⟨low + 2, 0, none⟩) 7 7, .slice none 0 0, .int .i64 2] 78], #[], []⟩
noncomputable def laidHeap (h0 : Array Obj) : Array Obj :=
  have h1 := lay 0 (cellsOf .u8 Rows.laid_strings_asciiSpace) h0
  have h3 := lay 1 #[.pointer (some ⟨low + 3, 0, none⟩)] h1
  have h4 := lay 2 #[.iface 87 (.pointer (some ⟨low + 1, 0, none⟩))] h3
  have h5 := lay 3 #[.iface 87 (.pointer (some ⟨low, 0, none⟩))] h4
  have h6 := lay 4 (cellsOf .u64 Rows.laid_internal_strconv_uint64pow10) h5
  have h7 := lay 6 (cellsOf .u8 Rows.laid_math_bits_deBruijn64tab) h6
  lay 5 (cellsOf .u8 Rows.laid_math_bits_deBruijn32tab) h7
noncomputable def laidWorld (os : Os) : World := { freshWorld os with heap := laidHeap (freshWorld os).heap }

/-! ### What a row's list gives -/
theorem gSyn : Tryd.prog.globalNamed "strconv.ErrSyntax" = some 2 := by kernel_rfl
theorem gRan : Tryd.prog.globalNamed "strconv.ErrRange" = some 3 := by kernel_rfl
theorem gPow : Tryd.prog.globalNamed "internal/strconv.uint64pow10" = some 4 := by kernel_rfl
theorem gAsc : Tryd.prog.globalNamed "strings.asciiSpace" = some 0 := by kernel_rfl
theorem tPow : (Tryd.prog.globals[4]?).map (·.type) = some 92 := by kernel_rfl
theorem tAsc : (Tryd.prog.globals[0]?).map (·.type) = some 48 := by kernel_rfl
theorem tSyn : (Tryd.prog.globals[2]?).map (·.type) = some 35 := by kernel_rfl
theorem tRan : (Tryd.prog.globals[3]?).map (·.type) = some 35 := by kernel_rfl
theorem uPow : Tryd.prog.underlying 92 = some (.array 20 52) := by kernel_rfl
theorem uAsc : Tryd.prog.underlying 48 = some (.array 256 5) := by kernel_rfl
theorem u64 : Tryd.prog.underlying 52 = some (.int .u64) := by kernel_rfl
theorem u8 : Tryd.prog.underlying 5 = some (.int .u8) := by kernel_rfl
theorem cPow : Tryd.prog.cellsOf 92 = 20 := by kernel_rfl
theorem cAsc : Tryd.prog.cellsOf 48 = 256 := by kernel_rfl
theorem c64 : Tryd.prog.cellsOf 52 = 1 := by kernel_rfl
theorem c8 : Tryd.prog.cellsOf 5 = 1 := by kernel_rfl
/-- A list that names a variable tells what it holds: the variable's own row can be brought to its head. -/
theorem laid_at {l : List (String × DataW Unit)} {W : World} {n : String} {d : DataW Unit} (h : laidMet Tryd.prog l W) (hm : ∃ k : Nat, l[k]? = some (n, d)) : ∃ r, laidMet Tryd.prog ((n, d) :: r) W := by
  induction l with
  | nil => obtain ⟨k, hk⟩ := hm; simp at hk
  | cons x r ih =>
    obtain ⟨k, hk⟩ := hm
    cases k with
    | zero => rw [List.getElem?_cons_zero] at hk; exact ⟨r, (Option.some.inj hk) ▸ h⟩
    | succ k => rw [List.getElem?_cons_succ] at hk; exact ih h.tail ⟨k, hk⟩
theorem star : "*" ++ "errors.errorString" = "*errors.errorString" := by decide
theorem row_err (u : TypeId) (h : Tryd.prog.typeName? 3 u = some "*errors.errorString") : u = 87 :=
  typeName_ptr_named (nm := "errors.errorString") (by rw [star]; kernel_rfl) (by kernel_rfl) (by decide) u (by rw [star]; exact h)
theorem uErr : Tryd.prog.underlying 87 = some (.pointer 89) := by kernel_rfl
theorem uIface : Tryd.prog.underlying 35 = some (.interface #[("Error", 101)]) := by kernel_rfl
theorem laidT_of {l : List (String × DataW Unit)} {W : World} (h : laidMetH Tryd.prog l W) (hp : (l.all fun x => x.2.handleName?.isNone) = true)
    (m1 : ∃ k : Nat, l[k]? = some ("internal/strconv.uint64pow10", Lib.tabData .u64 Lib.pow10Tab)) (m2 : ∃ k : Nat, l[k]? = some ("strconv.ErrSyntax", Rows.laid_strconv_ErrSyntax))
    (m3 : ∃ k : Nat, l[k]? = some ("strconv.ErrRange", Rows.laid_strconv_ErrRange)) : LaidT W := by
  rw [MakeChecks.laidMetH_plain _ _ _ hp] at h
  obtain ⟨r1, h1⟩ := laid_at h m1
  obtain ⟨r2, h2⟩ := laid_at h m2
  obtain ⟨r3, h3⟩ := laid_at h m3
  have q1 := Lib.tabIs_of_head gPow tPow uPow u64 c64 cPow h1
  obtain ⟨a0, s0, hv0, -, -, -⟩ := laid_sentinel h2 gSyn tSyn uIface row_err uErr Tryd.underlying89 rfl rfl Tryd.underlying9 (by kernel_rfl) (by kernel_rfl)
  obtain ⟨a1, s1, hv1, -, -, -⟩ := laid_sentinel h3 gRan tRan uIface row_err uErr Tryd.underlying89 rfl rfl Tryd.underlying9 (by kernel_rfl) (by kernel_rfl)
  exact ⟨q1, ⟨_, _, hv0⟩, ⟨_, _, hv1⟩⟩
theorem laid_of {l : List (String × DataW Unit)} {W : World} (h : laidMetH Tryd.prog l W) (hp : (l.all fun x => x.2.handleName?.isNone) = true)
    (m1 : ∃ k : Nat, l[k]? = some ("internal/strconv.uint64pow10", Lib.tabData .u64 Lib.pow10Tab)) (m2 : ∃ k : Nat, l[k]? = some ("strconv.ErrSyntax", Rows.laid_strconv_ErrSyntax))
    (m3 : ∃ k : Nat, l[k]? = some ("strconv.ErrRange", Rows.laid_strconv_ErrRange)) (m4 : ∃ k : Nat, l[k]? = some ("strings.asciiSpace", Lib.tabData .u8 Lib.asciiSpaceTab)) : Laid W := by
  refine ⟨laidT_of h hp m1 m2 m3, ?_⟩
  rw [MakeChecks.laidMetH_plain _ _ _ hp] at h
  obtain ⟨r4, h4⟩ := laid_at h m4
  exact Lib.tabIs_of_head gAsc tAsc uAsc u8 c8 cAsc h4
end Go.Proofs.YtfiajahppimchaaDoor.Wd
