/-
  IsToken of the reference; the walk of FnExactIsToken.
-/
import Derived.Test.YtopolfibledmnaaDoorTkGoodWalk
namespace Go.Proofs.YtopolfibledmnaaDoor
open Go.RowKit
theorem tkGood_any (x : Tk) (w : World) (hs : x.t.size ≤ 1048576) :
    Calls Tryd.prog 44 #[.agg #[.int .i64 x.k, .int .i64 x.a, .string x.t, .int .i64 x.v]] w fun e w' => e = .returned (.bool (gdB x)) ∧ Below w.heap.size w w' := by
  rw [← gs_gd, gsB]
  obtain ⟨k, a, t, v⟩ := x
  dsimp only at *
  by_cases ha : 0 ≤ a ∧ a ≤ 4000
  · rw [decide_eq_true ha, Bool.true_and]
    by_cases hz : t.size = 0
    · rw [if_pos hz]
      exact tkGood_out k a t v w (.inr ⟨ha.1, ha.2, hz⟩)
    · rw [if_neg hz]
      cases hg : hasS signNs t with
      | true => exact tkGood_sign k a t v w ha.1 ha.2 (by omega) hg
      | false =>
        rw [if_neg (by simp)]
        by_cases hr : alEnd t 0 = t.size
        · rw [decide_eq_true hr, Bool.true_and]
          exact tkGood_make k a t v w ha.1 ha.2 hs (by omega) hg hr
        · rw [decide_eq_false hr, Bool.false_and, Bool.false_and, Bool.false_and]
          exact tkGood_run k a t v w ha.1 ha.2 hs (by omega) hg hr
  · rw [decide_eq_false ha, Bool.false_and]
    exact tkGood_out k a t v w (.inl (by omega))
theorem specIsToken_any (x : Tk) (w : World) (hs : x.t.size ≤ 1048576) :
    Calls Tryd.prog 15 #[.agg #[.int .i64 x.k, .int .i64 x.a, .string x.t, .int .i64 x.v]] w fun e w' => e = .returned (.bool (gdB x)) ∧ Below w.heap.size w w' := by
  have HG := Lib.hid (fun W => tkGood_any x W hs)
  generalize gdB x = b at *
  obtain ⟨k, a, t, v⟩ := x
  dsimp only at *
  go_enter Tryd.func15, Tryd.ntmps15
  go_wp2_with fail
  refine (HG.out _).mono ?_
  rintro e w1 ⟨rfl, hb⟩
  have HB := Lib.hid hb
  clear hb
  go_wp2_with fail
  go_ret
  exact ⟨rfl, belNext (belAlloc (Below.refl _ _) _) HB.out⟩
set_option maxHeartbeats 1000000 in
theorem fnExactIsToken_walk (k : Int) (_ : -9223372036854775808 ≤ k) (_ : k ≤ 9223372036854775807) (a : Int) (_ : -9223372036854775808 ≤ a) (_ : a ≤ 9223372036854775807) (t : ByteArray) (ht : t.size ≤ maxLen) (v : Int) (_ : -9223372036854775808 ≤ v) (_ : v ≤ 9223372036854775807) (w : World) (hL : laidMetH Tryd.prog Rows.fnExactIsTokenRow.laid w) :
    Calls Tryd.prog 4 #[.agg #[.int .i64 k, .int .i64 a, .string t, .int .i64 v]] w fun e w' => e = .returned (.bool true) ∧ Below w.heap.size w w' := by
  unfold maxLen at ht
  have HX : Hid (∀ W : World, Below (w.alloc (.cells #[.int .i64 k, .int .i64 a, .string t, .int .i64 v] 24)).heap.size (w.alloc (.cells #[.int .i64 k, .int .i64 a, .string t, .int .i64 v] 24)) W → IsTk W w.heap.size k a t v) := fun W hb => isTk hb
  have hK := keyTab_of hL (by simp [Rows.fnExactIsTokenRow])
  have hG := signTab_of hL (by simp [Rows.fnExactIsTokenRow])
  have HKG : Hid (∀ W, Below w.heap.size w W → TabS W 0 keyNs ∧ TabS W 1 signNs) := fun W hW => ⟨hK.later hW, hG.later hW⟩
  clear hL hK hG
  by_cases hbig : 1048576 < (t.size : Int)
  · have HZ := Lib.hid (fun W => szToken_big k a t v 1048576 W (by omega) (by omega) (by omega) hbig)
    go_enter Tryd.func4, Tryd.ntmps4
    go_wp2_with fail
    refine (HZ.out _).mono ?_
    rintro e w1 ⟨rfl, hb⟩
    have HB := Lib.hid hb
    clear hb
    go_wp2_with fail
    go_ret
    exact ⟨rfl, belNext (belAlloc (Below.refl _ _) _) HB.out⟩
  · have HZ := Lib.hid (fun W => szToken_small k a t v 1048576 W (by omega) (by omega) (by omega))
    have hle : 0 ≤ 1048576 - (t.size : Int) := by omega
    have HT := Lib.hid (fun W => toToken_any k a t v W)
    have HS := Lib.hid (fun W => specIsToken_any ⟨k, a, t, v⟩ W (by dsimp only; omega))
    have HI := Lib.hid (fun W hK hG => isToken_any ⟨k, a, t, v⟩ W (by dsimp only; omega) hK hG)
    dsimp only at HS HI
    generalize gdB ⟨k, a, t, v⟩ = b at *
    go_enter Tryd.func4, Tryd.ntmps4
    go_wp2_with fail
    refine (HZ.out _).mono ?_
    rintro e w1 ⟨rfl, hb⟩
    have HB1 := Lib.hid hb
    obtain ⟨r0, r1, r2, r3, rz⟩ := HX.out _ HB1.out
    clear hb
    go_wp2_with fail
    refine (HT.out _).mono ?_
    rintro e w2 ⟨rfl, hb⟩
    have HB2 := Lib.hid (belNext HB1.out hb)
    clear hb
    go_wp2_with fail
    refine (HS.out _).mono ?_
    rintro e w3 ⟨rfl, hb⟩
    have HB3 := Lib.hid (belNext HB2.out hb)
    clear hb r0 r1 r2 r3 rz
    obtain ⟨r0, r1, r2, r3, rz⟩ := HX.out _ HB3.out
    go_wp2_with fail
    refine (HT.out _).mono ?_
    rintro e w4 ⟨rfl, hb⟩
    have HB4 := Lib.hid (belNext HB3.out hb)
    clear hb
    go_wp2_with fail
    obtain ⟨q1, q2⟩ := HKG.out _ (belNext (belAlloc (Below.refl _ _) _) HB4.out)
    refine (HI.out _ q1 q2).mono ?_
    rintro e w5 ⟨rfl, hb⟩
    have HB5 := Lib.hid (belNext (belAlloc (Below.refl _ _) _) (belNext HB4.out hb))
    clear hb r0 r1 r2 r3 rz q1 q2
    go_wp2_with fail
    go_ret
    exact ⟨rfl, HB5.out⟩
end Go.Proofs.YtopolfibledmnaaDoor
