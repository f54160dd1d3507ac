import Derived.Test.YtfiajahppimchaaDoorProg
import Derived.Below
import Derived.Deep.Draws
import Derived.Deep.AppendLies
import Derived.Maps.AppendAt
import Derived.OwnWalk
import Derived.Laws.BytesArg
import Derived.Laws.MakeOwn
import Derived.Laws.OwnMore
import Derived.Deep.OwnRows
import Derived.Tactics
import Derived.Lib.ConvBytes
import Derived.Laws.Slices
import Derived.WalkKit
import Derived.KernelRfl
import Derived.RowKit3
import Derived.Deep.LoopGhost
import Derived.Deep.QuietTactic
import Derived.BigQuiet
import Derived.WideLaws
import Derived.Deep.DeepCutAuto
import Derived.Deep.CutBlock
import Derived.Deep.RegionHeld3
import Derived.Laws.Rows
import Derived.Lib.AppendStr
import Derived.ArgAppend
import Derived.Laws.IdiomCopy
import Derived.OrdersHeld
import Derived.Laws.BitsLemmas
import Derived.RowKit
import Derived.Test.YtfiajahppimchaaDoorWWords
import Derived.Test.YtfiajahppimchaaDoorWLast
import Derived.Test.YtfiajahppimchaaDoorWTab
import Derived.Test.YtfiajahppimchaaDoorWFour
import Derived.Test.YtfiajahppimchaaDoorWQPut
import Derived.Test.YtfiajahppimchaaDoorWApart
import Derived.Test.YtfiajahppimchaaDoorWArr
import Derived.Test.YtfiajahppimchaaDoorWZeros
import Derived.Test.YtfiajahppimchaaDoorWFoot
import Derived.Test.YtfiajahppimchaaDoorWKept
import Derived.Test.YtfiajahppimchaaDoorWShare
import Derived.Test.YtfiajahppimchaaDoorWN
import Derived.Test.YtfiajahppimchaaDoorWFootNe
import Derived.Test.YtfiajahppimchaaDoorWAt
import Derived.Test.YtfiajahppimchaaDoorWEqStruct
import Derived.Test.YtfiajahppimchaaDoorWRepsOne
import Derived.Test.YtfiajahppimchaaDoorWInv
import Derived.Test.YtfiajahppimchaaDoorWInvWords
import Derived.Test.YtfiajahppimchaaDoorWGuard
import Derived.Test.YtfiajahppimchaaDoorWNEv
import Derived.Test.YtfiajahppimchaaDoorWMore
import Derived.Outline
import Derived.MapKept
import Derived.Lib.Hide
namespace Go.Proofs.YtfiajahppimchaaDoor.Do
open Go.RowKit Go.Proofs.YtfiajahppimchaaDoorW.PrintWords Go.Proofs.YtfiajahppimchaaDoorW.PrintLast Go.Proofs.YtfiajahppimchaaDoorW.PrintMore

theorem run_mapUpdate_new {P : Program} {T K E : TypeId} (hT : P.underlying T = some (.map K E)) {kd : IntKind} (hK : P.underlying K = some (.int kd)) (W : World) (es : Array MapEntry) (c : Nat) (n : Int) (v : Value)
    (h : Instr.findNow (.int kd) (.int kd n) es.toList 0 = some none) :
    (Instr.mapUpdate T (.map (some W.heap.size)) (.int kd n) v).run P (W.alloc (.map es c)) = .ok () (W.alloc (.map (es.push ⟨.int kd n, v, c⟩) (c + 1))) := by
  have hb := (MapKept.heap_alloc W (.map es c)).1
  have hk : MapKept.IsKey (.int kd) (.int kd n) := by simp [MapKept.IsKey]
  have e : ({ W.alloc (.map es c) with heap := (W.alloc (.map es c)).heap.setIfInBounds W.heap.size (.map (es.push ⟨.int kd n, v, c⟩) (c + 1)) } : World) = W.alloc (.map (es.push ⟨.int kd n, v, c⟩) (c + 1)) := by
    show ({ W with heap := (W.heap.push _).setIfInBounds W.heap.size _ } : World) = { W with heap := W.heap.push _ }
    congr 1
    apply Array.ext_getElem?
    intro i
    simp only [Array.getElem?_setIfInBounds, Array.getElem?_push, Array.size_push]
    by_cases hi : i = W.heap.size
    · subst hi; simp
    · rw [if_neg (Ne.symm hi), if_neg hi, if_neg hi]
  simp [Instr.mapUpdate, run_underlying hT, MapKept.run_getObj_map hb, MapKept.run_checkKey hK hk, MapKept.run_findKey hK h, MapKept.run_setObj_map _ hb, Result.andThen]
  exact e
theorem run_lookup_hit {P : Program} {T K E : TypeId} (hT : P.underlying T = some (.map K E)) {kd : IntKind} (hK : P.underlying K = some (.int kd)) (W : World) (es : Array MapEntry) (c : Nat) (n : Int) (i : Nat) (v : Value)
    (h : Instr.findNow (.int kd) (.int kd n) es.toList 0 = some (some (i, v))) :
    (Instr.lookup T (.map (some W.heap.size)) (.int kd n) false).run P (W.alloc (.map es c)) = .ok v (W.alloc (.map es c)) := by
  have hb := (MapKept.heap_alloc W (.map es c)).1
  have hk : MapKept.IsKey (.int kd) (.int kd n) := by simp [MapKept.IsKey]
  simp [Instr.lookup, run_underlying hT, MapKept.run_getObj_map hb, MapKept.run_checkKey hK hk, MapKept.run_findKey hK h, Result.andThen]
theorem run_lookup_miss {P : Program} {T K E : TypeId} (hT : P.underlying T = some (.map K E)) {kd : IntKind} (hK : P.underlying K = some (.int kd)) (W : World) (es : Array MapEntry) (c : Nat) (n : Int) (v : Value)
    (hz : ∀ w, (zeroValue E).run P w = .ok v w)
    (h : Instr.findNow (.int kd) (.int kd n) es.toList 0 = some none) :
    (Instr.lookup T (.map (some W.heap.size)) (.int kd n) false).run P (W.alloc (.map es c)) = .ok v (W.alloc (.map es c)) := by
  have hb := (MapKept.heap_alloc W (.map es c)).1
  have hk : MapKept.IsKey (.int kd) (.int kd n) := by simp [MapKept.IsKey]
  simp [Instr.lookup, run_underlying hT, MapKept.run_getObj_map hb, MapKept.run_checkKey hK hk, MapKept.run_findKey hK h, hz, Result.andThen]

theorem wpList_insert_new {P : Program} {W : World} {ops : Array Oper} {rest : List Oper} {o : Oper} {a : Act} {Q : Exit → Act → World → Prop}
    (hg : o.guard = none) (m x v : Operand) (T : TypeId) (hop : o.op = Op.insert T m x v)
    {K E : TypeId} (hT : P.underlying T = some (.map K E)) {kd : IntKind} (hK : P.underlying K = some (.int kd)) (es : Array MapEntry) (c : Nat) (n : Int) (r : Nat)
    (hm : a.eval m = .map (some r)) (hr : r = W.heap.size) (hx : a.eval x = .int kd n)
    (h : Instr.findNow (.int kd) (.int kd n) es.toList 0 = some none)
    (k : wpList P ops Q rest (a.put o.dst undef) (W.alloc (.map (es.push ⟨.int kd n, a.eval v, c⟩) (c + 1)))) : wpList P ops Q (o :: rest) a (W.alloc (.map es c)) := by
  subst hr
  refine wpList_plain hg fun K' hK' => ?_
  unfold Oper.wp
  simp [execOp, hop, hm, hx, run_mapUpdate_new hT hK W es c n (a.eval v) h, Result.andThen]
  exact hK' _ _ k
theorem wpList_lookup_hit {P : Program} {W : World} {ops : Array Oper} {rest : List Oper} {o : Oper} {a : Act} {Q : Exit → Act → World → Prop}
    (hg : o.guard = none) (m x : Operand) (T : TypeId) (hop : o.op = Op.lookup T m x false)
    {K E : TypeId} (hT : P.underlying T = some (.map K E)) {kd : IntKind} (hK : P.underlying K = some (.int kd)) (es : Array MapEntry) (c : Nat) (n : Int) (r : Nat)
    (hm : a.eval m = .map (some r)) (hr : r = W.heap.size) (hx : a.eval x = .int kd n)
    (i : Nat) (v : Value) (h : Instr.findNow (.int kd) (.int kd n) es.toList 0 = some (some (i, v)))
    (k : wpList P ops Q rest (a.put o.dst v) (W.alloc (.map es c))) : wpList P ops Q (o :: rest) a (W.alloc (.map es c)) := by
  subst hr
  refine wpList_plain hg fun K' hK' => ?_
  unfold Oper.wp
  simp [execOp, hop, hm, hx, run_lookup_hit hT hK W es c n i v h, Result.andThen]
  exact hK' _ _ k
theorem wpList_lookup_miss {P : Program} {W : World} {ops : Array Oper} {rest : List Oper} {o : Oper} {a : Act} {Q : Exit → Act → World → Prop}
    (hg : o.guard = none) (m x : Operand) (T : TypeId) (hop : o.op = Op.lookup T m x false)
    {K E : TypeId} (hT : P.underlying T = some (.map K E)) {kd : IntKind} (hK : P.underlying K = some (.int kd)) (es : Array MapEntry) (c : Nat) (n : Int) (r : Nat)
    (hm : a.eval m = .map (some r)) (hr : r = W.heap.size) (hx : a.eval x = .int kd n)
    (v : Value) (hz : ∀ w, (zeroValue E).run P w = .ok v w) (h : Instr.findNow (.int kd) (.int kd n) es.toList 0 = some none)
    (k : wpList P ops Q rest (a.put o.dst v) (W.alloc (.map es c))) : wpList P ops Q (o :: rest) a (W.alloc (.map es c)) := by
  subst hr
  refine wpList_plain hg fun K' hK' => ?_
  unfold Oper.wp
  simp [execOp, hop, hm, hx, run_lookup_miss hT hK W es c n v hz h, Result.andThen]
  exact hK' _ _ k

theorem at_insert {P : Program} {ops : Array Oper} {rest : List Oper} {a : Act} {w : World} {Q : Exit → Act → World → Prop} {d T m x v t p af g}
    (h : wpList P ops Q (⟨d, .insert T m x v, t, p, af, g⟩ :: rest) a w) : wpList P ops Q (⟨d, .insert T m x v, t, p, af, g⟩ :: rest) a w := h
theorem at_lookup_ {P : Program} {ops : Array Oper} {rest : List Oper} {a : Act} {w : World} {Q : Exit → Act → World → Prop} {d T m x ok t p af g}
    (h : wpList P ops Q (⟨d, .lookup T m x ok, t, p, af, g⟩ :: rest) a w) : wpList P ops Q (⟨d, .lookup T m x ok, t, p, af, g⟩ :: rest) a w := h


theorem run_equalIn_fn {P : Program} {T : TypeId} {ps rs : Array TypeId} {v : Bool} (h : P.underlying T = some (.func ps rs v)) (d : Nat) (f : Fn) (x y : Array Value) (w : World) : (Op.equalIn (d + 1) T (.func f x y) .nilFunc).run P w = .ok false w := by
  simp [Op.equalIn, run_underlying h]
theorem run_equalIn_nilfn {P : Program} {T : TypeId} {ps rs : Array TypeId} {v : Bool} (h : P.underlying T = some (.func ps rs v)) (d : Nat) (w : World) : (Op.equalIn (d + 1) T .nilFunc .nilFunc).run P w = .ok true w := by
  simp [Op.equalIn, run_underlying h]
theorem run_eql_fn {P : Program} {T : TypeId} {ps rs : Array TypeId} {v : Bool} (h : P.underlying T = some (.func ps rs v)) (f : Fn) (x y : Array Value) (w : World) : (binOp .eql T (.func f x y) .nilFunc).run P w = .ok (.bool false) w := by
  simp only [binOp]
  simp [Op.equal, Op.maxDepth, run_equalIn_fn h 9999]
theorem run_eql_nilfn {P : Program} {T : TypeId} {ps rs : Array TypeId} {v : Bool} (h : P.underlying T = some (.func ps rs v)) (w : World) : (binOp .eql T .nilFunc .nilFunc).run P w = .ok (.bool true) w := by
  simp only [binOp]
  simp [Op.equal, Op.maxDepth, run_equalIn_nilfn h 9999]

theorem under36 : Tryd.prog.underlying 45 = some (.map 3 43) := by kernel_rfl
theorem under34 : Tryd.prog.underlying 43 = some (.func #[] #[21] false) := by kernel_rfl
theorem under3 : Tryd.prog.underlying 3 = some (.int .i64) := by kernel_rfl
theorem zero34 (w : World) : (zeroValue 43).run Tryd.prog w = .ok .nilFunc w := by kernel_rfl
theorem bel3 (w : World) (o1 o2 o3 o4 : Obj) : Below w.heap.size w ((((w.alloc o1).alloc o2).alloc o3).alloc o4) :=
  ((((Below.refl _ _).alloc (Nat.le_refl _) _).alloc (by simp) _).alloc (by simp; omega) _).alloc (by simp; omega) _

set_option maxHeartbeats 1000000 in
set_option maxRecDepth 100000 in
theorem do_2 (a1 a2 : Int) (w : World) :
    Calls Tryd.prog 14 #[.int .i64 2, .int .i32 a1, .int .i32 a2] w fun e w' => e = .returned (.tuple #[.int .i32 (wrap32 (a1 + a2)), .bool true]) ∧ Below w.heap.size w w' := by
  have hmm := fun (w : World) => run_makeMap (P := Tryd.prog) 45 w
  have e1 := run_eql_fn under34
  have e2 := run_eql_nilfn under34
  skip
  go_enter Tryd.func14, Tryd.ntmps14
  go_wp2_with (first | (with_reducible refine at_insert ?_; refine wpList_insert_new rfl _ _ _ 45 rfl under36 under3 _ _ _ _ rfl (by simp only [World.size_alloc]) rfl rfl ?_) | (with_reducible refine at_lookup_ ?_; refine wpList_lookup_hit rfl _ _ 45 rfl under36 under3 _ _ _ _ rfl (by simp only [World.size_alloc]) rfl _ _ rfl ?_) | go_in)
  all_goals go_ret2
  all_goals exact ⟨rfl, bel3 _ _ _ _ _⟩
set_option maxHeartbeats 1000000 in
set_option maxRecDepth 100000 in
theorem do_3 (a1 a2 : Int) (w : World) :
    Calls Tryd.prog 14 #[.int .i64 3, .int .i32 a1, .int .i32 a2] w fun e w' => e = .returned (.tuple #[.int .i32 (wrap32 (a1 - a2)), .bool true]) ∧ Below w.heap.size w w' := by
  have hmm := fun (w : World) => run_makeMap (P := Tryd.prog) 45 w
  have e1 := run_eql_fn under34
  have e2 := run_eql_nilfn under34
  skip
  go_enter Tryd.func14, Tryd.ntmps14
  go_wp2_with (first | (with_reducible refine at_insert ?_; refine wpList_insert_new rfl _ _ _ 45 rfl under36 under3 _ _ _ _ rfl (by simp only [World.size_alloc]) rfl rfl ?_) | (with_reducible refine at_lookup_ ?_; refine wpList_lookup_hit rfl _ _ 45 rfl under36 under3 _ _ _ _ rfl (by simp only [World.size_alloc]) rfl _ _ rfl ?_) | go_in)
  all_goals go_ret2
  all_goals exact ⟨rfl, bel3 _ _ _ _ _⟩
set_option maxHeartbeats 1000000 in
set_option maxRecDepth 100000 in
theorem do_4 (a1 a2 : Int) (w : World) :
    Calls Tryd.prog 14 #[.int .i64 4, .int .i32 a1, .int .i32 a2] w fun e w' => e = .returned (.tuple #[.int .i32 (wrap32 (a1 * a2)), .bool true]) ∧ Below w.heap.size w w' := by
  have hmm := fun (w : World) => run_makeMap (P := Tryd.prog) 45 w
  have e1 := run_eql_fn under34
  have e2 := run_eql_nilfn under34
  skip
  go_enter Tryd.func14, Tryd.ntmps14
  go_wp2_with (first | (with_reducible refine at_insert ?_; refine wpList_insert_new rfl _ _ _ 45 rfl under36 under3 _ _ _ _ rfl (by simp only [World.size_alloc]) rfl rfl ?_) | (with_reducible refine at_lookup_ ?_; refine wpList_lookup_hit rfl _ _ 45 rfl under36 under3 _ _ _ _ rfl (by simp only [World.size_alloc]) rfl _ _ rfl ?_) | go_in)
  all_goals go_ret2
  all_goals exact ⟨rfl, bel3 _ _ _ _ _⟩
set_option maxHeartbeats 1000000 in
set_option maxRecDepth 100000 in
theorem do_5 (a1 a2 : Int) (w : World) :
    Calls Tryd.prog 14 #[.int .i64 5, .int .i32 a1, .int .i32 a2] w fun e w' => e = .returned (.tuple #[.int .i32 (Go.bits .and .i32 a1 a2), .bool true]) ∧ Below w.heap.size w w' := by
  have hmm := fun (w : World) => run_makeMap (P := Tryd.prog) 45 w
  have e1 := run_eql_fn under34
  have e2 := run_eql_nilfn under34
  skip
  go_enter Tryd.func14, Tryd.ntmps14
  go_wp2_with (first | (with_reducible refine at_insert ?_; refine wpList_insert_new rfl _ _ _ 45 rfl under36 under3 _ _ _ _ rfl (by simp only [World.size_alloc]) rfl rfl ?_) | (with_reducible refine at_lookup_ ?_; refine wpList_lookup_hit rfl _ _ 45 rfl under36 under3 _ _ _ _ rfl (by simp only [World.size_alloc]) rfl _ _ rfl ?_) | go_in)
  all_goals go_ret2
  all_goals exact ⟨rfl, bel3 _ _ _ _ _⟩
set_option maxHeartbeats 1000000 in
set_option maxRecDepth 100000 in
theorem do_6 (a1 a2 : Int) (w : World) :
    Calls Tryd.prog 14 #[.int .i64 6, .int .i32 a1, .int .i32 a2] w fun e w' => e = .returned (.tuple #[.int .i32 (Go.bits .or .i32 a1 a2), .bool true]) ∧ Below w.heap.size w w' := by
  have hmm := fun (w : World) => run_makeMap (P := Tryd.prog) 45 w
  have e1 := run_eql_fn under34
  have e2 := run_eql_nilfn under34
  skip
  go_enter Tryd.func14, Tryd.ntmps14
  go_wp2_with (first | (with_reducible refine at_insert ?_; refine wpList_insert_new rfl _ _ _ 45 rfl under36 under3 _ _ _ _ rfl (by simp only [World.size_alloc]) rfl rfl ?_) | (with_reducible refine at_lookup_ ?_; refine wpList_lookup_hit rfl _ _ 45 rfl under36 under3 _ _ _ _ rfl (by simp only [World.size_alloc]) rfl _ _ rfl ?_) | go_in)
  all_goals go_ret2
  all_goals exact ⟨rfl, bel3 _ _ _ _ _⟩
set_option maxHeartbeats 1000000 in
set_option maxRecDepth 100000 in
theorem do_7 (a1 a2 : Int) (w : World) :
    Calls Tryd.prog 14 #[.int .i64 7, .int .i32 a1, .int .i32 a2] w fun e w' => e = .returned (.tuple #[.int .i32 (Go.bits .xor .i32 a1 a2), .bool true]) ∧ Below w.heap.size w w' := by
  have hmm := fun (w : World) => run_makeMap (P := Tryd.prog) 45 w
  have e1 := run_eql_fn under34
  have e2 := run_eql_nilfn under34
  skip
  go_enter Tryd.func14, Tryd.ntmps14
  go_wp2_with (first | (with_reducible refine at_insert ?_; refine wpList_insert_new rfl _ _ _ 45 rfl under36 under3 _ _ _ _ rfl (by simp only [World.size_alloc]) rfl rfl ?_) | (with_reducible refine at_lookup_ ?_; refine wpList_lookup_hit rfl _ _ 45 rfl under36 under3 _ _ _ _ rfl (by simp only [World.size_alloc]) rfl _ _ rfl ?_) | go_in)
  all_goals go_ret2
  all_goals exact ⟨rfl, bel3 _ _ _ _ _⟩
set_option maxHeartbeats 1000000 in
set_option maxRecDepth 100000 in
theorem do_8 (a1 a2 : Int) (w : World) :
    Calls Tryd.prog 14 #[.int .i64 8, .int .i32 a1, .int .i32 a2] w fun e w' => e = .returned (.tuple #[.int .i32 (wrap32 (a1 * 2 ^ (a2 % 32).toNat)), .bool true]) ∧ Below w.heap.size w w' := by
  have hmm := fun (w : World) => run_makeMap (P := Tryd.prog) 45 w
  have e1 := run_eql_fn under34
  have e2 := run_eql_nilfn under34
  skip
  go_enter Tryd.func14, Tryd.ntmps14
  go_wp2_with (first | (with_reducible refine at_insert ?_; refine wpList_insert_new rfl _ _ _ 45 rfl under36 under3 _ _ _ _ rfl (by simp only [World.size_alloc]) rfl rfl ?_) | (with_reducible refine at_lookup_ ?_; refine wpList_lookup_hit rfl _ _ 45 rfl under36 under3 _ _ _ _ rfl (by simp only [World.size_alloc]) rfl _ _ rfl ?_) | go_in)
  all_goals go_ret2
  all_goals exact ⟨rfl, bel3 _ _ _ _ _⟩
set_option maxHeartbeats 1000000 in
set_option maxRecDepth 100000 in
theorem do_9 (a1 a2 : Int) (w : World) :
    Calls Tryd.prog 14 #[.int .i64 9, .int .i32 a1, .int .i32 a2] w fun e w' => e = .returned (.tuple #[.int .i32 (wrap32 (a1 % 4294967296 / 2 ^ (a2 % 32).toNat)), .bool true]) ∧ Below w.heap.size w w' := by
  have hmm := fun (w : World) => run_makeMap (P := Tryd.prog) 45 w
  have e1 := run_eql_fn under34
  have e2 := run_eql_nilfn under34
  skip
  go_enter Tryd.func14, Tryd.ntmps14
  go_wp2_with (first | (with_reducible refine at_insert ?_; refine wpList_insert_new rfl _ _ _ 45 rfl under36 under3 _ _ _ _ rfl (by simp only [World.size_alloc]) rfl rfl ?_) | (with_reducible refine at_lookup_ ?_; refine wpList_lookup_hit rfl _ _ 45 rfl under36 under3 _ _ _ _ rfl (by simp only [World.size_alloc]) rfl _ _ rfl ?_) | go_in)
  all_goals go_ret2
  all_goals exact ⟨rfl, bel3 _ _ _ _ _⟩
set_option maxHeartbeats 1000000 in
set_option maxRecDepth 100000 in
theorem do_10 (a1 a2 : Int) (w : World) :
    Calls Tryd.prog 14 #[.int .i64 10, .int .i32 a1, .int .i32 a2] w fun e w' => e = .returned (.tuple #[.int .i32 (a1 / 2 ^ (a2 % 32).toNat), .bool true]) ∧ Below w.heap.size w w' := by
  have hmm := fun (w : World) => run_makeMap (P := Tryd.prog) 45 w
  have e1 := run_eql_fn under34
  have e2 := run_eql_nilfn under34
  skip
  go_enter Tryd.func14, Tryd.ntmps14
  go_wp2_with (first | (with_reducible refine at_insert ?_; refine wpList_insert_new rfl _ _ _ 45 rfl under36 under3 _ _ _ _ rfl (by simp only [World.size_alloc]) rfl rfl ?_) | (with_reducible refine at_lookup_ ?_; refine wpList_lookup_hit rfl _ _ 45 rfl under36 under3 _ _ _ _ rfl (by simp only [World.size_alloc]) rfl _ _ rfl ?_) | go_in)
  all_goals go_ret2
  all_goals exact ⟨rfl, bel3 _ _ _ _ _⟩
set_option maxHeartbeats 1000000 in
set_option maxRecDepth 100000 in
theorem do_11 (a1 a2 : Int) (w : World) (b : Bool) (hb : (a1 == a2) = b) :
    Calls Tryd.prog 14 #[.int .i64 11, .int .i32 a1, .int .i32 a2] w fun e w' => e = .returned (.tuple #[.int .i32 (if b then 1 else 0), .bool true]) ∧ Below w.heap.size w w' := by
  have hmm := fun (w : World) => run_makeMap (P := Tryd.prog) 45 w
  have e1 := run_eql_fn under34
  have e2 := run_eql_nilfn under34
  cases b
  go_enter Tryd.func14, Tryd.ntmps14
  go_wp2_with (first | (with_reducible refine at_insert ?_; refine wpList_insert_new rfl _ _ _ 45 rfl under36 under3 _ _ _ _ rfl (by simp only [World.size_alloc]) rfl rfl ?_) | (with_reducible refine at_lookup_ ?_; refine wpList_lookup_hit rfl _ _ 45 rfl under36 under3 _ _ _ _ rfl (by simp only [World.size_alloc]) rfl _ _ rfl ?_) | go_in)
  all_goals go_ret2
  all_goals exact ⟨rfl, bel3 _ _ _ _ _⟩
set_option maxHeartbeats 1000000 in
set_option maxRecDepth 100000 in
theorem do_12 (a1 a2 : Int) (w : World) (b : Bool) (hb : (decide (a1 < a2)) = b) :
    Calls Tryd.prog 14 #[.int .i64 12, .int .i32 a1, .int .i32 a2] w fun e w' => e = .returned (.tuple #[.int .i32 (if b then 1 else 0), .bool true]) ∧ Below w.heap.size w w' := by
  have hmm := fun (w : World) => run_makeMap (P := Tryd.prog) 45 w
  have e1 := run_eql_fn under34
  have e2 := run_eql_nilfn under34
  cases b
  go_enter Tryd.func14, Tryd.ntmps14
  go_wp2_with (first | (with_reducible refine at_insert ?_; refine wpList_insert_new rfl _ _ _ 45 rfl under36 under3 _ _ _ _ rfl (by simp only [World.size_alloc]) rfl rfl ?_) | (with_reducible refine at_lookup_ ?_; refine wpList_lookup_hit rfl _ _ 45 rfl under36 under3 _ _ _ _ rfl (by simp only [World.size_alloc]) rfl _ _ rfl ?_) | go_in)
  all_goals go_ret2
  all_goals exact ⟨rfl, bel3 _ _ _ _ _⟩
set_option maxHeartbeats 1000000 in
set_option maxRecDepth 100000 in
theorem do_13 (a1 a2 : Int) (w : World) (b : Bool) (hb : (decide (a1 % 4294967296 < a2 % 4294967296)) = b) :
    Calls Tryd.prog 14 #[.int .i64 13, .int .i32 a1, .int .i32 a2] w fun e w' => e = .returned (.tuple #[.int .i32 (if b then 1 else 0), .bool true]) ∧ Below w.heap.size w w' := by
  have hmm := fun (w : World) => run_makeMap (P := Tryd.prog) 45 w
  have e1 := run_eql_fn under34
  have e2 := run_eql_nilfn under34
  cases b
  go_enter Tryd.func14, Tryd.ntmps14
  go_wp2_with (first | (with_reducible refine at_insert ?_; refine wpList_insert_new rfl _ _ _ 45 rfl under36 under3 _ _ _ _ rfl (by simp only [World.size_alloc]) rfl rfl ?_) | (with_reducible refine at_lookup_ ?_; refine wpList_lookup_hit rfl _ _ 45 rfl under36 under3 _ _ _ _ rfl (by simp only [World.size_alloc]) rfl _ _ rfl ?_) | go_in)
  all_goals go_ret2
  all_goals exact ⟨rfl, bel3 _ _ _ _ _⟩
set_option maxHeartbeats 1000000 in
set_option maxRecDepth 100000 in
theorem do_14 (a1 a2 : Int) (w : World) (hz : (a2 == 0) = false) (hz1 : ¬ a2 = 0) :
    Calls Tryd.prog 14 #[.int .i64 14, .int .i32 a1, .int .i32 a2] w fun e w' => e = .returned (.tuple #[.int .i32 (wrap32 (a1.tdiv a2)), .bool true]) ∧ Below w.heap.size w w' := by
  have hmm := fun (w : World) => run_makeMap (P := Tryd.prog) 45 w
  have e1 := run_eql_fn under34
  have e2 := run_eql_nilfn under34
  skip
  go_enter Tryd.func14, Tryd.ntmps14
  go_wp2_with (first | (with_reducible refine at_insert ?_; refine wpList_insert_new rfl _ _ _ 45 rfl under36 under3 _ _ _ _ rfl (by simp only [World.size_alloc]) rfl rfl ?_) | (with_reducible refine at_lookup_ ?_; refine wpList_lookup_hit rfl _ _ 45 rfl under36 under3 _ _ _ _ rfl (by simp only [World.size_alloc]) rfl _ _ rfl ?_) | go_in)
  all_goals go_ret2
  all_goals exact ⟨rfl, bel3 _ _ _ _ _⟩
set_option maxHeartbeats 1000000 in
set_option maxRecDepth 100000 in
theorem do_14z (a1 : Int) (w : World) :
    Calls Tryd.prog 14 #[.int .i64 14, .int .i32 a1, .int .i32 0] w fun e w' => e = .returned (.tuple #[.int .i32 0, .bool false]) ∧ Below w.heap.size w w' := by
  have hmm := fun (w : World) => run_makeMap (P := Tryd.prog) 45 w
  have e1 := run_eql_fn under34
  have e2 := run_eql_nilfn under34
  go_enter Tryd.func14, Tryd.ntmps14
  go_wp2_with (first | (with_reducible refine at_insert ?_; refine wpList_insert_new rfl _ _ _ 45 rfl under36 under3 _ _ _ _ rfl (by simp only [World.size_alloc]) rfl rfl ?_) | (with_reducible refine at_lookup_ ?_; refine wpList_lookup_hit rfl _ _ 45 rfl under36 under3 _ _ _ _ rfl (by simp only [World.size_alloc]) rfl _ _ rfl ?_) | go_in)
  all_goals go_ret2
  all_goals exact ⟨rfl, bel3 _ _ _ _ _⟩
def keyIn (a0 : Int) : Bool := decide (2 ≤ a0) && decide (a0 ≤ 14)
set_option maxHeartbeats 1000000 in
set_option maxRecDepth 100000 in
theorem do_none (a0 a1 a2 : Int) (w : World) (h0 : keyIn a0 = false) :
    Calls Tryd.prog 14 #[.int .i64 a0, .int .i32 a1, .int .i32 a2] w fun e w' => e = .returned (.tuple #[.int .i32 0, .bool false]) ∧ Below w.heap.size w w' := by
  have hmm := fun (w : World) => run_makeMap (P := Tryd.prog) 45 w
  have e1 := run_eql_fn under34
  have e2 := run_eql_nilfn under34
  have H : Hid (a0 < 2 ∨ 14 < a0) := Lib.hid (by unfold keyIn at h0; simp only [Bool.and_eq_false_iff, decide_eq_false_iff_not] at h0; omega)
  have h14 : (a0 == 14) = false := by have := H.out; simp; omega
  clear h0
  go_enter Tryd.func14, Tryd.ntmps14
  go_wp2_with (first | (with_reducible refine at_insert ?_; refine wpList_insert_new rfl _ _ _ 45 rfl under36 under3 _ _ _ _ rfl (by simp only [World.size_alloc]) rfl rfl ?_) | (with_reducible refine at_lookup_ ?_; refine wpList_lookup_miss rfl _ _ 45 rfl under36 under3 _ _ _ _ rfl (by simp only [World.size_alloc]) rfl _ zero34 (by have := H.out; simp [Instr.findNow, Instr.sameNow]; have q : ∀ c : Int, 2 ≤ c → c ≤ 14 → (a0 == c) = false := (fun c h1 h2 => by simp; omega); simp [q]) ?_) | go_in)
  all_goals go_ret2
  all_goals exact ⟨rfl, bel3 _ _ _ _ _⟩

/-- What 'word.Do' computes, in the print's own form. -/
def word_Do.f (a0 a1 a2 : Int) : Option (Int × Bool) :=
  if a0 = 2 then some (wrap32 (a1 + a2), true)
  else if a0 = 3 then some (wrap32 (a1 - a2), true)
  else if a0 = 4 then some (wrap32 (a1 * a2), true)
  else if a0 = 5 then some (Go.bits .and .i32 a1 a2, true)
  else if a0 = 6 then some (Go.bits .or .i32 a1 a2, true)
  else if a0 = 7 then some (Go.bits .xor .i32 a1 a2, true)
  else if a0 = 8 then some (wrap32 (a1 * 2 ^ (a2 % 32).toNat), true)
  else if a0 = 9 then some (wrap32 (a1 % 4294967296 / 2 ^ (a2 % 32).toNat), true)
  else if a0 = 10 then some (a1 / 2 ^ (a2 % 32).toNat, true)
  else if a0 = 11 then some (if (a1 == a2) = true then 1 else 0, true)
  else if a0 = 12 then some (if decide (a1 < a2) = true then 1 else 0, true)
  else if a0 = 13 then some (if decide (a1 % 4294967296 < a2 % 4294967296) = true then 1 else 0, true)
  else if a0 = 14 then (if a2 = 0 then some (0, false) else some (wrap32 (a1.tdiv a2), true))
  else some (0, false)

theorem word_Do.calls (a0 : Int) (a1 : Int) (a2 : Int) (r1 : Int) (r2 : Bool) (w : World) (h : word_Do.f a0 a1 a2 = some (r1, r2)) :
    Calls Tryd.prog 14 #[.int .i64 a0, .int .i32 a1, .int .i32 a2] w fun e w' => e = .returned (.tuple #[.int .i32 r1, .bool r2]) ∧ Below w.heap.size w w' := by
  unfold word_Do.f at h
  by_cases c2 : a0 = 2
  · rw [if_pos c2] at h; subst c2; cases h; exact do_2 _ _ _
  rw [if_neg c2] at h
  by_cases c3 : a0 = 3
  · rw [if_pos c3] at h; subst c3; cases h; exact do_3 _ _ _
  rw [if_neg c3] at h
  by_cases c4 : a0 = 4
  · rw [if_pos c4] at h; subst c4; cases h; exact do_4 _ _ _
  rw [if_neg c4] at h
  by_cases c5 : a0 = 5
  · rw [if_pos c5] at h; subst c5; cases h; exact do_5 _ _ _
  rw [if_neg c5] at h
  by_cases c6 : a0 = 6
  · rw [if_pos c6] at h; subst c6; cases h; exact do_6 _ _ _
  rw [if_neg c6] at h
  by_cases c7 : a0 = 7
  · rw [if_pos c7] at h; subst c7; cases h; exact do_7 _ _ _
  rw [if_neg c7] at h
  by_cases c8 : a0 = 8
  · rw [if_pos c8] at h; subst c8; cases h; exact do_8 _ _ _
  rw [if_neg c8] at h
  by_cases c9 : a0 = 9
  · rw [if_pos c9] at h; subst c9; cases h; exact do_9 _ _ _
  rw [if_neg c9] at h
  by_cases c10 : a0 = 10
  · rw [if_pos c10] at h; subst c10; cases h; exact do_10 _ _ _
  rw [if_neg c10] at h
  by_cases c11 : a0 = 11
  · rw [if_pos c11] at h; subst c11; cases h; exact do_11 _ _ _ _ rfl
  rw [if_neg c11] at h
  by_cases c12 : a0 = 12
  · rw [if_pos c12] at h; subst c12; cases h; exact do_12 _ _ _ _ rfl
  rw [if_neg c12] at h
  by_cases c13 : a0 = 13
  · rw [if_pos c13] at h; subst c13; cases h; exact do_13 _ _ _ _ rfl
  rw [if_neg c13] at h
  by_cases c14 : a0 = 14
  · rw [if_pos c14] at h; subst c14
    by_cases z : a2 = 0
    · rw [if_pos z] at h; subst z; cases h; exact do_14z _ _
    · rw [if_neg z] at h; cases h; exact do_14 _ _ _ (beq_eq_false_iff_ne.mpr z) z
  rw [if_neg c14] at h
  cases h
  refine do_none _ _ _ _ ?_
  unfold keyIn
  simp only [Bool.and_eq_false_iff, decide_eq_false_iff_not]
  omega

end Go.Proofs.YtfiajahppimchaaDoor.Do
