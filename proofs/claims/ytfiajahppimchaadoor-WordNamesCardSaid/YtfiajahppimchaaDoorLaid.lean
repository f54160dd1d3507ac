/- What the laid package-level variables give a walk, and that it stays through whatever the call does. -/
import Derived.Test.YtfiajahppimchaaDoorShelf
import Derived.Test.YtfiajahppimchaaDoorProg
import Derived.WalkSmall
import Derived.Lib.AppendIntMem
import Derived.Test.YtfiajahppimchaaDoorWWords
namespace Go.Proofs.YtfiajahppimchaaDoor.Wl
open Go.RowKit Go.Proofs.YtfiajahppimchaaDoorW.PrintWords

/-- The variables that a word's text reads. -/
structure LaidT (w : World) : Prop where
  pow10 : Lib.TabIs Tryd.prog w "internal/strconv.uint64pow10" .u64 Lib.pow10Tab
  syn : ∃ tp p, w.var? Tryd.prog "strconv.ErrSyntax" = some #[.iface tp p]
  ran : ∃ tp p, w.var? Tryd.prog "strconv.ErrRange" = some #[.iface tp p]
/-- The variables that a word's text and names read. -/
structure Laid (w : World) : Prop where
  t : LaidT w
  asc : Lib.TabIs Tryd.prog w "strings.asciiSpace" .u8 Lib.asciiSpaceTab

theorem var_below {W W' : World} {n : String} {cs : Array Value} (h : Below W.heap.size W W') (hv : W.var? Tryd.prog n = some cs) : W'.var? Tryd.prog n = some cs := by
  have hv' := hv
  unfold World.var? at hv
  cases hg : Tryd.prog.globalNamed n with
  | none => simp [hg] at hv
  | some g =>
    simp only [hg, Option.bind_some] at hv
    have hlt : g < W.heap.size := by
      rcases Nat.lt_or_ge g W.heap.size with h1 | h1
      · exact h1
      · rw [Array.getElem?_eq_none h1] at hv; simp at hv
    exact var?_below h hg hlt hv'
theorem LaidT.below {W W' : World} (h : LaidT W) (hb : Below W.heap.size W W') : LaidT W' := by
  obtain ⟨h1, ⟨a, b, h2⟩, ⟨c, d, h3⟩⟩ := h
  exact ⟨var_below hb h1, ⟨a, b, var_below hb h2⟩, ⟨c, d, var_below hb h3⟩⟩
theorem Laid.below {W W' : World} (h : Laid W) (hb : Below W.heap.size W W') : Laid W' := ⟨h.t.below hb, var_below hb h.asc⟩
end Go.Proofs.YtfiajahppimchaaDoor.Wl
