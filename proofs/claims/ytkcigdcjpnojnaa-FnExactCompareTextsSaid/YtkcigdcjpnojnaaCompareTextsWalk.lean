/-
  CompareTexts, the program's and the reference's: both compare the plain values raD; the walk of FnExactCompareTexts.
-/
import Derived.Test.YtkcigdcjpnojnaaReadAnyWalk
namespace Go.Proofs.Ytkcigdcjpnojnaa
open Go.RowKit
theorem raD_bd (s : ByteArray) : -1 ≤ raD s ∧ raD s ≤ 1000000000 := by
  have hlo : ∀ (c : Nat → Int) (n : Nat) (b m : Int), 0 ≤ b → -1 ≤ numD c n b m := fun c n b m hb => by
    unfold numD
    split
    · rename_i h
      simp only [numO, Bool.and_eq_true] at h
      have := numV_lo hb h.1.2
      omega
    · omega
  have hsc : ∀ (x u : Int), x ≤ 1000000000 / u → (u = 1000 ∨ u = 1000000) → -1 ≤ scaleD x u ∧ scaleD x u ≤ 1000000000 := fun x u h hu => by
    unfold scaleD
    split
    · omega
    · rcases hu with rfl | rfl <;> omega
  by_cases hh : isHexB s = true
  · rw [raD, if_pos hh, rhD, if_pos hh]
    have h1 := hlo (fun i => byt s (i + 2)) (s.size - 2) 16 65535 (by omega)
    have h2 := numD_le (fun i => byt s (i + 2)) (s.size - 2) 16 65535 (by omega)
    exact ⟨h1, by omega⟩
  · rw [raD, if_neg hh]
    unfold rnD
    split
    · exact hsc _ _ (numD_le _ _ _ _ (by omega)) (.inr rfl)
    · split
      · exact hsc _ _ (numD_le _ _ _ _ (by omega)) (.inl rfl)
      · exact ⟨hlo _ _ _ _ (by omega), numD_le _ _ _ _ (by omega)⟩
/-- What CompareTexts returns for the two values. -/
def cmpT (x y : Int) : Value := if x < 0 ∨ y < 0 then .tuple #[.int .i64 0, .bool false] else .tuple #[.int .i64 (if x < y then -1 else if y < x then 1 else 0), .bool true]
theorem cmpT_no {x y : Int} (h : x < 0 ∨ y < 0) : cmpT x y = .tuple #[.int .i64 0, .bool false] := by rw [cmpT, if_pos h]
theorem cmpT_lt {x y : Int} (h : 0 ≤ x) (h2 : 0 ≤ y) (h3 : x < y) : cmpT x y = .tuple #[.int .i64 (-1), .bool true] := by rw [cmpT, if_neg (by omega), if_pos h3]
theorem cmpT_gt {x y : Int} (h : 0 ≤ x) (h2 : 0 ≤ y) (h3 : y < x) : cmpT x y = .tuple #[.int .i64 1, .bool true] := by rw [cmpT, if_neg (by omega), if_neg (by omega), if_pos h3]
theorem cmpT_eq {x : Int} (h : 0 ≤ x) : cmpT x x = .tuple #[.int .i64 0, .bool true] := by rw [cmpT, if_neg (by omega), if_neg (by omega), if_neg (by omega)]
set_option maxHeartbeats 1000000 in
theorem specCompareTexts_any (a b : ByteArray) (w : World) (ha : a.size ≤ 1048576) (hb : b.size ≤ 1048576) :
    Calls Try.prog 27 #[.string a, .string b] w fun e w' => e = .returned (cmpT (raD a) (raD b)) ∧ Below w.heap.size w w' := by
  have hx := raD_bd a
  have hy := raD_bd b
  have A1 : Hid (∀ W, _) := fun W => nuAny_any a W (by omega)
  have B1 : Hid (∀ W, _) := fun W => nuAny_any b W (by omega)
  generalize raD a = x at hx A1 ⊢
  generalize raD b = y at hy B1 ⊢
  have hcase : x < 0 ∨ (0 ≤ x ∧ y < 0) ∨ (0 ≤ x ∧ 0 ≤ y ∧ x < y) ∨ (0 ≤ x ∧ 0 ≤ y ∧ y < x) ∨ (0 ≤ x ∧ x = y) := by omega
  rcases hcase with h | ⟨h, h2⟩ | ⟨h, h2, h3⟩ | ⟨h, h2, h3⟩ | ⟨h, rfl⟩
  · rw [cmpT_no (.inl h)]
    go_enter Try.func27, Try.ntmps27
    go_wp2_with fail
    refine (A1.out _).mono ?_
    rintro e w1 ⟨rfl, hb1⟩
    go_wp2_with fail
    refine (B1.out _).mono ?_
    rintro e w2 ⟨rfl, hb2⟩
    go_wp2
    go_ret2
    exact ⟨rfl, hb1.trans (hb2.mono hb1.size)⟩
  · rw [cmpT_no (.inr h2)]
    go_enter Try.func27, Try.ntmps27
    go_wp2_with fail
    refine (A1.out _).mono ?_
    rintro e w1 ⟨rfl, hb1⟩
    go_wp2_with fail
    refine (B1.out _).mono ?_
    rintro e w2 ⟨rfl, hb2⟩
    go_wp2
    go_ret2
    exact ⟨rfl, hb1.trans (hb2.mono hb1.size)⟩
  · rw [cmpT_lt h h2 h3]
    go_enter Try.func27, Try.ntmps27
    go_wp2_with fail
    refine (A1.out _).mono ?_
    rintro e w1 ⟨rfl, hb1⟩
    go_wp2_with fail
    refine (B1.out _).mono ?_
    rintro e w2 ⟨rfl, hb2⟩
    go_wp2
    go_ret2
    exact ⟨rfl, hb1.trans (hb2.mono hb1.size)⟩
  · rw [cmpT_gt h h2 h3]
    go_enter Try.func27, Try.ntmps27
    go_wp2_with fail
    refine (A1.out _).mono ?_
    rintro e w1 ⟨rfl, hb1⟩
    go_wp2_with fail
    refine (B1.out _).mono ?_
    rintro e w2 ⟨rfl, hb2⟩
    go_wp2
    go_ret2
    exact ⟨rfl, hb1.trans (hb2.mono hb1.size)⟩
  · rw [cmpT_eq h]
    go_enter Try.func27, Try.ntmps27
    go_wp2_with fail
    refine (A1.out _).mono ?_
    rintro e w1 ⟨rfl, hb1⟩
    go_wp2_with fail
    refine (B1.out _).mono ?_
    rintro e w2 ⟨rfl, hb2⟩
    go_wp2
    go_ret2
    exact ⟨rfl, hb1.trans (hb2.mono hb1.size)⟩
set_option maxHeartbeats 1000000 in
theorem implCompareTexts_any (a b : ByteArray) (w : World) (ha : a.size ≤ 1048576) (hb : b.size ≤ 1048576) :
    Calls Try.prog 28 #[.string a, .string b] w fun e w' => e = .returned (cmpT (raD a) (raD b)) ∧ w = w' := by
  have hx := raD_bd a
  have hy := raD_bd b
  have A1 : Hid (∀ W, _) := fun W => implReadAny_any a W (by omega)
  have B1 : Hid (∀ W, _) := fun W => implReadAny_any b W (by omega)
  generalize raD a = x at hx A1 ⊢
  generalize raD b = y at hy B1 ⊢
  have hcase : x < 0 ∨ (0 ≤ x ∧ y < 0) ∨ (0 ≤ x ∧ 0 ≤ y ∧ x < y) ∨ (0 ≤ x ∧ 0 ≤ y ∧ y < x) ∨ (0 ≤ x ∧ x = y) := by omega
  rcases hcase with h | ⟨h, h2⟩ | ⟨h, h2, h3⟩ | ⟨h, h2, h3⟩ | ⟨h, rfl⟩
  · rw [cmpT_no (.inl h)]
    rw [outT_no h] at A1
    by_cases h2 : y < 0
    · rw [outT_no h2] at B1
      go_enter Try.func28, Try.ntmps28
      go_wp2_with fail
      refine (A1.out _).mono ?_
      rintro e w1 ⟨rfl, rfl⟩
      go_wp2_with fail
      refine (B1.out _).mono ?_
      rintro e w2 ⟨rfl, rfl⟩
      go_wp2
      go_ret2
      exact ⟨rfl, rfl⟩
    · rw [outT_yes (by omega)] at B1
      go_enter Try.func28, Try.ntmps28
      go_wp2_with fail
      refine (A1.out _).mono ?_
      rintro e w1 ⟨rfl, rfl⟩
      go_wp2_with fail
      refine (B1.out _).mono ?_
      rintro e w2 ⟨rfl, rfl⟩
      go_wp2
      go_ret2
      exact ⟨rfl, rfl⟩
  · rw [cmpT_no (.inr h2)]
    rw [outT_yes h] at A1
    rw [outT_no h2] at B1
    go_enter Try.func28, Try.ntmps28
    go_wp2_with fail
    refine (A1.out _).mono ?_
    rintro e w1 ⟨rfl, rfl⟩
    go_wp2_with fail
    refine (B1.out _).mono ?_
    rintro e w2 ⟨rfl, rfl⟩
    go_wp2
    go_ret2
    exact ⟨rfl, rfl⟩
  · rw [cmpT_lt h h2 h3]
    rw [outT_yes h] at A1
    rw [outT_yes h2] at B1
    go_enter Try.func28, Try.ntmps28
    go_wp2_with fail
    refine (A1.out _).mono ?_
    rintro e w1 ⟨rfl, rfl⟩
    go_wp2_with fail
    refine (B1.out _).mono ?_
    rintro e w2 ⟨rfl, rfl⟩
    go_wp2
    go_ret2
    exact ⟨rfl, rfl⟩
  · rw [cmpT_gt h h2 h3]
    rw [outT_yes h] at A1
    rw [outT_yes h2] at B1
    go_enter Try.func28, Try.ntmps28
    go_wp2_with fail
    refine (A1.out _).mono ?_
    rintro e w1 ⟨rfl, rfl⟩
    go_wp2_with fail
    refine (B1.out _).mono ?_
    rintro e w2 ⟨rfl, rfl⟩
    go_wp2
    go_ret2
    exact ⟨rfl, rfl⟩
  · rw [cmpT_eq h]
    rw [outT_yes h] at A1
    rw [outT_yes h] at B1
    go_enter Try.func28, Try.ntmps28
    go_wp2_with fail
    refine (A1.out _).mono ?_
    rintro e w1 ⟨rfl, rfl⟩
    go_wp2_with fail
    refine (B1.out _).mono ?_
    rintro e w2 ⟨rfl, rfl⟩
    go_wp2
    go_ret2
    exact ⟨rfl, rfl⟩
theorem fnExactCompareTexts_walk (a : ByteArray) (ha : a.size ≤ maxLen) (b : ByteArray) (hb : b.size ≤ maxLen) (w : World) :
    Calls Try.prog 10 #[.string a, .string b] w fun e w' => e = .returned (.bool true) ∧ Below w.heap.size w w' := by
  unfold maxLen at ha hb
  by_cases hbig : 1048576 < (a.size : Int)
  · go_enter Try.func10, Try.ntmps10
    go_wp2
    go_ret
    exact ⟨rfl, Below.refl _ _⟩
  by_cases hbig2 : 1048576 < (b.size : Int)
  · go_enter Try.func10, Try.ntmps10
    go_wp2
    go_ret
    exact ⟨rfl, Below.refl _ _⟩
  have H1 := Lib.hid (specCompareTexts_any a b w (by omega) (by omega))
  have H2 : Hid (∀ W, _) := fun W => implCompareTexts_any a b W (by omega) (by omega)
  obtain ⟨x, o, e⟩ : ∃ (x : Int) (o : Bool), cmpT (raD a) (raD b) = .tuple #[.int .i64 x, .bool o] := by
    unfold cmpT
    split
    · exact ⟨_, _, rfl⟩
    · exact ⟨_, _, rfl⟩
  rw [e] at H1 H2
  clear e
  go_enter Try.func10, Try.ntmps10
  go_wp2_with fail
  refine H1.out.mono ?_
  rintro e w1 ⟨rfl, hb⟩
  go_wp2_with fail
  refine (H2.out _).mono ?_
  rintro e w2 ⟨rfl, rfl⟩
  go_wp2
  go_ret
  exact ⟨rfl, hb⟩
end Go.Proofs.Ytkcigdcjpnojnaa
