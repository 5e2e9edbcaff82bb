/-
  ReadAny, the program's and the reference's: both return the plain raD; the walk of FnExactReadAny.
-/
import Derived.Test.YtopolfibledmnaaDoorReadNumberWalk
namespace Go.Proofs.YtopolfibledmnaaDoor
open Go.RowKit
/-- The value of a text of either kind, or -1. -/
def raD (s : ByteArray) : Int := if isHexB s then rhD s else rnD s
theorem nuAny_any (s : ByteArray) (w : World) (hs : s.size ≤ 1048576) :
    Calls Tryd.prog 86 #[.string s] w fun e w' => e = .returned (.int .i64 (raD s)) ∧ Below w.heap.size w w' := by
  have H1 := Lib.hid (nuIsHex_any s w hs)
  unfold raD
  by_cases h : isHexB s = true
  · rw [if_pos h]
    rw [h] at H1
    have H2 := Lib.hid (nuReadHex_any s w hs)
    generalize rhD s = x at H2
    clear h
    go_enter Tryd.func86, Tryd.ntmps86
    go_wp2_with (first | (go_at_call 90; refine H1.out.mono ?_; rintro e w1 ⟨rfl, rfl⟩) | (go_at_call 91; refine H2.out.mono ?_; rintro e w1 ⟨rfl, rfl⟩))
    go_ret
    exact ⟨rfl, Below.refl _ _⟩
  · rw [if_neg h]
    rw [show isHexB s = false by simpa using h] at H1
    have H2 := Lib.hid (nuRead_any s w hs)
    generalize rnD s = x at H2
    clear h
    go_enter Tryd.func86, Tryd.ntmps86
    go_wp2_with (first | (go_at_call 90; refine H1.out.mono ?_; rintro e w1 ⟨rfl, rfl⟩) | (go_at_call 92; refine H2.out.mono ?_; rintro e w1 ⟨rfl, hb⟩))
    go_ret
    exact ⟨rfl, hb⟩
theorem implReadAny_any (s : ByteArray) (w : World) (hs : s.size ≤ 1048576) :
    Calls Tryd.prog 46 #[.string s] w fun e w' => e = .returned (outT (raD s)) ∧ w = w' := by
  unfold raD
  by_cases h : isHexB s = true
  · rw [if_pos h]
    obtain ⟨h2, h3, h4⟩ := of_decide_eq_true h
    have hp := pre0x_yes (a := 0) h2 h3 h4
    have H2 := Lib.hid (implReadHex_any s w hs)
    unfold outT at H2 ⊢
    generalize (if rhD s < 0 then 0 else rhD s) = x at H2 ⊢
    generalize (decide (0 ≤ rhD s)) = b at H2 ⊢
    have h2' : 2 ≤ (s.size : Int) := by omega
    clear h h3 h4
    go_enter Tryd.func46, Tryd.ntmps46
    go_wp2_with (go_at_call 66; refine H2.out.mono ?_; rintro e w1 ⟨rfl, rfl⟩)
    go_ret2
    exact ⟨rfl, rfl⟩
  · rw [if_neg h]
    have H2 := Lib.hid (implReadNumber_any s w hs)
    unfold outT at H2 ⊢
    generalize (if rnD s < 0 then 0 else rnD s) = x at H2 ⊢
    generalize (decide (0 ≤ rnD s)) = b at H2 ⊢
    by_cases h2 : 2 ≤ s.size
    · have hp := pre0x_no (s := s) (a := 0) h2 (fun hh => h (decide_eq_true ⟨h2, hh⟩))
      have h2' : 2 ≤ (s.size : Int) := by omega
      clear h
      go_enter Tryd.func46, Tryd.ntmps46
      go_wp2_with (go_at_call 67; refine H2.out.mono ?_; rintro e w1 ⟨rfl, rfl⟩)
      go_ret2
      exact ⟨rfl, rfl⟩
    · have h2' : decide (2 ≤ (s.size : Int)) = false := decide_eq_false (by omega)
      clear h
      go_enter Tryd.func46, Tryd.ntmps46
      go_wp2_with (go_at_call 67; refine H2.out.mono ?_; rintro e w1 ⟨rfl, rfl⟩)
      go_ret2
      exact ⟨rfl, rfl⟩
theorem specReadAny_any (s : ByteArray) (w : World) (hs : s.size ≤ 1048576) :
    Calls Tryd.prog 79 #[.string s] w fun e w' => e = .returned (outT (raD s)) ∧ Below w.heap.size w w' := by
  have H := Lib.hid (nuAny_any s w hs)
  generalize raD s = x at H
  by_cases hx : x < 0
  · rw [outT_no hx]
    go_enter Tryd.func79, Tryd.ntmps79
    go_wp2_with (go_at_call 86; refine H.out.mono ?_; rintro e w1 ⟨rfl, hb⟩)
    go_ret2
    exact ⟨rfl, hb⟩
  · rw [outT_yes (by omega)]
    go_enter Tryd.func79, Tryd.ntmps79
    go_wp2_with (go_at_call 86; refine H.out.mono ?_; rintro e w1 ⟨rfl, hb⟩)
    go_ret2
    exact ⟨rfl, hb⟩
end Go.Proofs.YtopolfibledmnaaDoor
