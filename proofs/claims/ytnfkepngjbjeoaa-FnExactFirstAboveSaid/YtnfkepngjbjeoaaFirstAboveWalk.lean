/-
  The walk of FnExactFirstAbove: it returns true and leaves old memory as it was.
-/
import Derived.Test.YtnfkepngjbjeoaaFirstAbove
namespace Go.Proofs.Ytnfkepngjbjeoaa
open Go.RowKit
set_option maxHeartbeats 16000000 in
theorem fnExactFirstAbove_walk (f : Int) (_ : -9223372036854775808 ≤ f) (_ : f ≤ 9223372036854775807) (l : Int) (_ : -9223372036854775808 ≤ l) (_ : l ≤ 9223372036854775807) (s : Int) (_ : -9223372036854775808 ≤ s) (_ : s ≤ 9223372036854775807) (f' : Int) (_ : -9223372036854775808 ≤ f') (_ : f' ≤ 9223372036854775807) (l' : Int) (_ : -9223372036854775808 ≤ l') (_ : l' ≤ 9223372036854775807) (s' : Int) (_ : -9223372036854775808 ≤ s') (_ : s' ≤ 9223372036854775807) (w : World) :
    Calls Try.prog 11 #[.agg #[.int .i64 f, .int .i64 l, .int .i64 s], .agg #[.int .i64 f', .int .i64 l', .int .i64 s']] w fun e w' => e = .returned (.bool true) ∧ Below w.heap.size w w' := by
  have HT := Lib.hid (fun W => toCurve_any f l s W)
  have HT' := Lib.hid (fun W => toCurve_any f' l' s' W)
  have main : ∀ (v : Int) (b : Bool), (∀ W, Calls Try.prog 34 #[.agg #[.int .i64 f, .int .i64 l, .int .i64 s], .agg #[.int .i64 f', .int .i64 l', .int .i64 s']] W fun e w' => e = .returned (.tuple #[.int .i64 v, .bool b]) ∧ Below W.heap.size W w') →
      (∀ W, Calls Try.prog 35 #[.agg #[.int .i64 f, .int .i64 l, .int .i64 s], .agg #[.int .i64 f', .int .i64 l', .int .i64 s']] W fun e w' => e = .returned (.tuple #[.int .i64 v, .bool b]) ∧ Below W.heap.size W w') →
      Calls Try.prog 11 #[.agg #[.int .i64 f, .int .i64 l, .int .i64 s], .agg #[.int .i64 f', .int .i64 l', .int .i64 s']] w fun e w' => e = .returned (.bool true) ∧ Below w.heap.size w w' := by
    intro v b hS hI
    have HS := Lib.hid hS
    have HI := Lib.hid hI
    have HX : Hid (∀ W : World, Below ((w.alloc (.cells #[.int .i64 f, .int .i64 l, .int .i64 s] 23)).alloc (.cells #[.int .i64 f', .int .i64 l', .int .i64 s'] 23)).heap.size ((w.alloc (.cells #[.int .i64 f, .int .i64 l, .int .i64 s] 23)).alloc (.cells #[.int .i64 f', .int .i64 l', .int .i64 s'] 23)) W →
        IsCrv W w.heap.size f l s ∧ IsCrv W (w.heap.size + 1) f' l' s') := fun W hb =>
      ⟨IsCrv.later ⟨by simp; omega, by simp [go_sem], by simp [go_sem], by simp [go_sem]⟩ hb, IsCrv.later ⟨by simp, by simp [go_sem], by simp [go_sem], by simp [go_sem]⟩ hb⟩
    clear hS hI
    go_enter Try.func11, Try.ntmps11
    go_wp2_with fail
    go_region_with ((first | (go_at_call 14; (with_reducible refine (HT.out _).mono ?_); rintro e w2 ⟨rfl, rfl⟩) | (go_at_call 14; (with_reducible refine (HT'.out _).mono ?_); rintro e w2 ⟨rfl, rfl⟩) | (go_at_call 34; refine (HS.out _).mono ?_; rintro e w3 ⟨rfl, hb3⟩; obtain ⟨⟨kg, k0, k1, k2⟩, kg', k0', k1', k2'⟩ := HX.out w3 (belNext (by repeat (first | exact Below.refl _ _ | assumption | refine Below.alloc ?_ (by simp; try omega) _ | refine Below.setCell ?_ (by simp; try omega) _ | refine Below.drew ?_)) hb3); have B3 : Below w.heap.size w w3 := belNext (w := w) (by repeat (first | exact Below.refl _ _ | assumption | refine Below.alloc ?_ (by simp; try omega) _ | refine Below.setCell ?_ (by simp; try omega) _ | refine Below.drew ?_)) hb3; clear hb3)))
    all_goals
      have HB3 := Lib.hid B3
      clear B3
      go_wp2_with fail
      go_region_with ((first | (go_at_call 14; (with_reducible refine (HT.out _).mono ?_); rintro e w2 ⟨rfl, rfl⟩) | (go_at_call 14; (with_reducible refine (HT'.out _).mono ?_); rintro e w2 ⟨rfl, rfl⟩) | (go_at_call 35; refine (HI.out _).mono ?_; rintro e w4 ⟨rfl, hb4⟩; have B4 : Below w3.heap.size w3 w4 := belNext (by repeat (first | exact Below.refl _ _ | assumption | refine Below.alloc ?_ (by simp; try omega) _ | refine Below.setCell ?_ (by simp; try omega) _ | refine Below.drew ?_)) hb4; clear hb4)))
      all_goals
        have HB4 := Lib.hid (belNext HB3.out B4)
        clear B4
        go_wp2_with fail
        go_ret
        exact ⟨rfl, by (repeat refine Below.drew ?_); exact HB4.out⟩
  by_cases h : crvB f l s = true
  · by_cases h' : crvB f' l' s' = true
    · obtain ⟨v, b, hS, hI⟩ := firstAbove_both f l s f' l' s' h h'
      exact main v b hS hI
    · have h2 : crvB f' l' s' = false := by simpa using h'
      exact main 0 false (fun W => specFirstAbove_no f l s f' l' s' W (.inr ⟨h, h2⟩)) (fun W => implFirstAbove_no f l s f' l' s' W (.inr ⟨h, h2⟩))
  · have h2 : crvB f l s = false := by simpa using h
    exact main 0 false (fun W => specFirstAbove_no f l s f' l' s' W (.inl h2)) (fun W => implFirstAbove_no f l s f' l' s' W (.inl h2))
end Go.Proofs.Ytnfkepngjbjeoaa
