/-
  The program's lineOf, by the shelf's contracts of strings.Count and strings.LastIndex.
-/
import Derived.Test.YtdnncmhfmpiocaaDoorLines
import Derived.Test.YtdnncmhfmpiocaaDoorShelf
namespace Go.Proofs.YtdnncmhfmpiocaaDoor
open Go.RowKit
theorem count10 (s : ByteArray) (a : Nat) (ha : a ≤ s.size) (w : World) : Calls Tryd.prog 39 #[.string (s.extract 0 a), .string ⟨#[10]⟩] w fun e w' => e = .returned (.int .i64 (nlC s a)) ∧ w = w' :=
  (Tryd.strings_Count_one (s.extract 0 a) 10 w).mono fun e w' ⟨he, hw⟩ => ⟨by rw [he, nlC_count s a ha], hw.symm⟩
theorem last10 (s : ByteArray) (a : Nat) (ha : a ≤ s.size) (hs : s.size ≤ 6000) (w : World) : Calls Tryd.prog 40 #[.string (s.extract 0 a), .string ⟨#[10]⟩] w fun e w' => e = .returned (.int .i64 (nlL s a)) ∧ w = w' :=
  (Tryd.strings_LastIndex_one (s.extract 0 a) ⟨#[10]⟩ rfl (by simp; omega) w).mono fun e w' ⟨he, hw⟩ => ⟨by rw [he]; show Ending.returned (.int .i64 (Lib.lastIndexByte (s.extract 0 a) 10)) = _; rw [nlL_byte s a ha], hw.symm⟩
set_option maxHeartbeats 1000000 in
theorem lineOf_any (s : ByteArray) (a : Nat) (w : World) (hs : s.size ≤ 6000) (ha : a ≤ s.size) :
    Calls Tryd.prog 34 #[.string s, .int .i64 a] w fun e w' => e = .returned (.tuple #[.int .i64 (nlC s a + 1), .int .i64 (a - nlL s a)]) ∧ w = w' := by
  have hC := nlC_bd s a
  have hL := nlL_bd s a
  go_enter Tryd.func34, Tryd.ntmps34
  go_wp2_with (first | (go_at_call 39; refine (count10 s a ha _).mono ?_; rintro e w1 ⟨rfl, rfl⟩) | (go_at_call 40; refine (last10 s a ha hs _).mono ?_; rintro e w1 ⟨rfl, rfl⟩))
  go_ret2
  exact ⟨rfl, rfl⟩
end Go.Proofs.YtdnncmhfmpiocaaDoor
