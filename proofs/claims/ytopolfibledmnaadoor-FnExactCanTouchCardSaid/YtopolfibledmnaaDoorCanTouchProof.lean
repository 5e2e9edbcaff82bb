/-
  PROVED: for every input the Go function FnExactCanTouch returns true, and each argument reads behind the call as it read before (the statement Rows.FnExactCanTouchCardSaid). Conditions: the row's own: the listed package-level variables hold what the program's text lays (tied by the card).
-/
import Derived.Test.YtopolfibledmnaaDoorCards
import Derived.Test.YtopolfibledmnaaDoorTie
import Derived.SevenTiedAt
import Derived.Lay
import Derived.Test.YtopolfibledmnaaDoorBase
import Derived.Test.YtopolfibledmnaaDoorCanTouchWalk
import Derived.WalkKit
import Derived.ProofKit
import Derived.OpenShut
import Derived.ShutString
import Derived.ChangeOld
import Derived.Below
import Derived.OpenVars
import Derived.Deep.DeepHandedRow
import Derived.Lib.SmallJoins
namespace Go.Proofs.YtopolfibledmnaaDoor.fnExactCanTouch
open Go.ChangeShapes Go.WideShapes Go.ChangeAt Go.RowKit Go.Joins
open Go.ChangeMaps (open_string shut_string)
set_option linter.unusedVariables false

theorem own : ownKnob Tryd.prog.godebug = none := by kernel_rfl
theorem laidOut : laidOutB Tryd.prog = true := by kernel_rfl

set_option maxRecDepth 100000 in
theorem contract (H : Type) (enc : TypeId × Value → H) (W : World) (base : Nat) (args : Array Value) (ds gs : List (DataW H)) (before : List MemPlace)
    (hval0 : ∀ (j : Nat) t v, Tryd.f9.params[j]? = some t → args[j]? = some v → Value.okWide Tryd.prog W .any base t v)
    (hW : DataW.Whole enc Tryd.prog Tryd.f9.params.toList Rows.fnExactCanTouchSpec.vars false W args.toList ds gs before) (hL : laidMetH Tryd.prog Rows.fnExactCanTouchRow.laid W) (hsh : W.ShapedOpen Tryd.prog) :
    Calls Tryd.prog 9 args W fun e W' => ∃ v, e = .returned v ∧ Rows.fnExactCanTouchSpec.post enc Tryd.prog Tryd.f9 false true false false W args v W' := by
  have hval := hval0
  have hW' := hW
  obtain ⟨p, q, hA0, hV, rfl, hfz, hnd⟩ := hW
  have hA : DataW.TrodAll enc Tryd.prog W 0 (fun _ => true) true Tryd.f9.params.toList args.toList ds p := hA0
  rw [Tryd.params9] at hA hval
  obtain ⟨v0, vs0, d0, ds0, p0, q0, hargs, rfl, rfl, h0, r0⟩ := trodAll_cons hA
  obtain ⟨v1, vs1, d1, ds1, p1, q1, rfl, rfl, rfl, h1, r1⟩ := trodAll_cons r0
  obtain ⟨rfl, rfl, rfl⟩ := trodAll_nil r1
  obtain rfl : args = #[v0, v1] := by cases args; simp_all
  obtain ⟨g1, g2, rfl⟩ := vars_two hV
  have k0 := h0
  have lt0 : ∀ x ∈ p0, x.block < W.heap.size := by obtain ⟨m, hm⟩ := k0; exact DataW.trod_lt m _ _ _ hm
  obtain ⟨c0_0, c0_1, c0_2, c0_3, y0_0, y0_1, y0_2, y0_3, m0, rfl, _, _, hy0_0, hy0_1, hy0_2, hy0_3⟩ := open_agg4 Tryd.underlying24 (by kernel_rfl) (by kernel_rfl) (hval 0 24 v0 rfl rfl) h0
  obtain ⟨x0_0, e0_0, _, w0_0⟩ := DataW.trod_int Tryd.underlying3 hy0_0
  obtain rfl : c0_0 = .int .i64 x0_0 := by simpa using e0_0
  have b0_0 := bounds_i64 w0_0
  obtain ⟨x0_1, e0_1, _, w0_1⟩ := DataW.trod_int Tryd.underlying3 hy0_1
  obtain rfl : c0_1 = .int .i64 x0_1 := by simpa using e0_1
  have b0_1 := bounds_i64 w0_1
  obtain ⟨x0_2, e0_2, _, w0_2⟩ := DataW.trod_string Tryd.underlying9 hy0_2
  obtain rfl : c0_2 = .string x0_2 := by simpa using e0_2
  obtain ⟨x0_3, e0_3, _, w0_3⟩ := DataW.trod_int Tryd.underlying3 hy0_3
  obtain rfl : c0_3 = .int .i64 x0_3 := by simpa using e0_3
  have b0_3 := bounds_i64 w0_3
  have k1 := h1
  have lt1 : ∀ x ∈ p1, x.block < W.heap.size := by obtain ⟨m, hm⟩ := k1; exact DataW.trod_lt m _ _ _ hm
  obtain ⟨c1_0, c1_1, c1_2, c1_3, y1_0, y1_1, y1_2, y1_3, m1, rfl, _, _, hy1_0, hy1_1, hy1_2, hy1_3⟩ := open_agg4 Tryd.underlying24 (by kernel_rfl) (by kernel_rfl) (hval 1 24 v1 rfl rfl) h1
  obtain ⟨x1_0, e1_0, _, w1_0⟩ := DataW.trod_int Tryd.underlying3 hy1_0
  obtain rfl : c1_0 = .int .i64 x1_0 := by simpa using e1_0
  have b1_0 := bounds_i64 w1_0
  obtain ⟨x1_1, e1_1, _, w1_1⟩ := DataW.trod_int Tryd.underlying3 hy1_1
  obtain rfl : c1_1 = .int .i64 x1_1 := by simpa using e1_1
  have b1_1 := bounds_i64 w1_1
  obtain ⟨x1_2, e1_2, _, w1_2⟩ := DataW.trod_string Tryd.underlying9 hy1_2
  obtain rfl : c1_2 = .string x1_2 := by simpa using e1_2
  obtain ⟨x1_3, e1_3, _, w1_3⟩ := DataW.trod_int Tryd.underlying3 hy1_3
  obtain rfl : c1_3 = .int .i64 x1_3 := by simpa using e1_3
  have b1_3 := bounds_i64 w1_3
  clear hA0 hval0
  refine (fnExactCanTouch_walk x0_0 b0_0.1 b0_0.2 x0_1 b0_1.1 b0_1.2 x0_2 w0_2 x0_3 b0_3.1 b0_3.2 x1_0 b1_0.1 b1_0.2 x1_1 b1_1.1 b1_1.2 x1_2 w1_2 x1_3 b1_3.1 b1_3.2 W hL).mono fun e W' ⟨he, bel⟩ => ?_
  subst he
  exact ⟨_, rfl, _, _, _, [], _, q, hW', trodAll_mk1 (shut_bool Tryd.underlying4 _), (trodAll_cons_mk (Below.trod laidOut (by kernel_rfl) (of_decide_eq_true (by kernel_rfl)) k0 bel lt0) (trodAll_cons_mk (Below.trod laidOut (by kernel_rfl) (of_decide_eq_true (by kernel_rfl)) k1 bel lt1) trodAll_mk0)), (Below.trodVars laidOut bel (by kernel_rfl) hV), bel.frame _, fun h => by cases h⟩

theorem laid_met (os : Os) : laidMet Tryd.prog Rows.fnExactCanTouchRow.laid ((World.laidAll Tryd.prog os Rows.fnExactCanTouchRow.laid).forCall (fun _ _ => 0) ⟨#[], #[.agg #[.int .i64 0, .int .i64 0, .string ByteArray.empty, .int .i64 0], .agg #[.int .i64 0, .int .i64 0, .string ByteArray.empty, .int .i64 0]], []⟩).memory := laidMet_laidAll _ (by kernel_rfl) (by kernel_rfl)
theorem reads (os : Os) {H : Type} (enc : TypeId × Value → H) : (DataW.whole enc Tryd.prog ((World.laidAll Tryd.prog os Rows.fnExactCanTouchRow.laid).forCall (fun _ _ => 0) ⟨#[], #[.agg #[.int .i64 0, .int .i64 0, .string ByteArray.empty, .int .i64 0], .agg #[.int .i64 0, .int .i64 0, .string ByteArray.empty, .int .i64 0]], []⟩).memory Tryd.f9.params.toList Rows.fnExactCanTouchSpec.vars false (#[.agg #[.int .i64 0, .int .i64 0, .string ByteArray.empty, .int .i64 0], .agg #[.int .i64 0, .int .i64 0, .string ByteArray.empty, .int .i64 0]] : Array Value).toList 8).isSome = true := by kernel_rfl
set_option maxRecDepth 100000 in
theorem lifted (os : Os) (started : os.Started) (H : Type) (enc : TypeId × Value → H) (F : Stop.Interp) :
    ReturnsInHanded {} Tryd.checked os 9 .any ((OpenSpec.ofChange Rows.fnExactCanTouchSpec).preRow enc Tryd.prog Tryd.f9 Rows.fnExactCanTouchRow.domain false Rows.fnExactCanTouchRow.laid) (((OpenSpec.ofChange Rows.fnExactCanTouchSpec).at F).post enc Tryd.prog Tryd.f9 false true false false) := by
  refine returnsInHanded_of_row (C := Tryd.checked) (s := OpenSpec.ofChange Rows.fnExactCanTouchSpec) own started (by kernel_rfl) Tryd.func9
    (witness_row_at (enc := enc) (C := Tryd.checked) false (World.laidAll Tryd.prog os Rows.fnExactCanTouchRow.laid) #[.agg #[.int .i64 0, .int .i64 0, .string ByteArray.empty, .int .i64 0], .agg #[.int .i64 0, .int .i64 0, .string ByteArray.empty, .int .i64 0]] (World.laidAll_os _ _ _) (by kernel_rfl) (by kernel_rfl) (by kernel_rfl)
      (OpenSpec.preRow_of_cond 8 (Option.some_get (reads os enc)).symm (by kernel_rfl) (fun k hk => by cases hk) (by kernel_rfl) ((MakeChecks.laidMetH_plain _ _ _ (by kernel_rfl)).symm ▸ laid_met os))) ?_
  intro W base args ds gs before hval hW _ _ _ hL hsh _
  exact contract H enc W base args ds gs before hval hW hL hsh

theorem said : Rows.FnExactCanTouchSaid :=
  OpenClaim.holds_of_cond 9 Tryd.f9 rfl rfl rfl rfl rfl rfl rfl ⟨rfl, rfl, rfl, rfl, rfl⟩ rfl rfl rfl rfl rfl (by kernel_rfl) Tryd.func9 (by kernel_rfl)
    (of_decide_eq_true (by kernel_rfl)) (by unfold Func.isWrapper; first | (rw [if_pos (by decide +kernel)]; kernel_rfl) | (rw [if_neg (by decide +kernel)]; exact ⟨rfl, rfl⟩))
    (fun os started H enc _ F => by rw [OpenClaim.pre_eq_preRow]; exact lifted os started H enc F)

theorem plain (f : FuncId) (fn : Func) (hf : Tryd.pinned.checked.prog.funcNamed "loop.example/g00838/laws.FnExactCanTouch" = some f) (hfn : Tryd.pinned.checked.prog.funcs[f]? = some fn) :
    false = Tryd.pinned.checked.prog.looks [] ∧ ∀ (j : Nat) t, fn.params[j]? = some t → Tryd.pinned.checked.prog.wantsStandIn t = false := by
  obtain rfl : f = 9 := Option.some.inj ((show Tryd.prog.funcNamed "loop.example/g00838/laws.FnExactCanTouch" = some 9 by kernel_rfl).symm.trans hf) |>.symm
  obtain rfl : fn = Tryd.f9 := (Option.some.inj (Tryd.func9.symm.trans hfn)).symm
  refine ⟨by kernel_rfl, fun j t ht => ?_⟩
  rw [Tryd.params9] at ht
  have hm : t ∈ [24, 24] := by simpa using Array.mem_of_getElem? ht
  have hall : ([24, 24].all fun u => !Tryd.prog.wantsStandIn u) = true := by kernel_rfl
  exact (show Tryd.prog.wantsStandIn t = false by simpa using List.all_eq_true.1 hall t hm)

theorem proved : Rows.FnExactCanTouchCardSaid :=
  Claim7.holds_tied_plain_at .later [] _ _ _ _ said (fun _ h => by cases h) (by kernel_rfl) (fun _ h => by cases h) fnExactCanTouch_row_tie rfl ⟨rfl, rfl⟩ (by kernel_rfl) rfl plain (by kernel_rfl)
#print axioms proved
end Go.Proofs.YtopolfibledmnaaDoor.fnExactCanTouch
