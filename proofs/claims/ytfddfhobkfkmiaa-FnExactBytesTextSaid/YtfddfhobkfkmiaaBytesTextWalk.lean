/-
  BytesText, the program's (bytes appended, then converted) and the reference's (strings joined): both return two digits a byte; the walk of FnExactBytesText.
-/
import Derived.Test.YtfddfhobkfkmiaaIn
import Derived.Test.YtfddfhobkfkmiaaByteS
import Derived.Test.YtfddfhobkfkmiaaHexLaws
import Derived.Test.YtfddfhobkfkmiaaSliceOut
import Derived.Deep.AppendLies
import Derived.Deep.RegionLaw
import Derived.Deep.QuietTactic
import Derived.BigQuiet
import Derived.IntWalk
import Derived.Laws.IdiomStrings
import Derived.Laws.BytesString
namespace Go.Proofs.Ytfddfhobkfkmiaa
open Go.RowKit
theorem index_hex (x : Int) (h0 : 0 ≤ x) (h : x < 16) (W : World) : (Instr.index 9 (.string ⟨#[48, 49, 50, 51, 52, 53, 54, 55, 56, 57, 97, 98, 99, 100, 101, 102]⟩) (.int .u8 x)).run Try.prog W = .ok (.int .u8 ((hexB x.toNat).toNat : Int)) W := by
  have hx : x = 0 ∨ x = 1 ∨ x = 2 ∨ x = 3 ∨ x = 4 ∨ x = 5 ∨ x = 6 ∨ x = 7 ∨ x = 8 ∨ x = 9 ∨ x = 10 ∨ x = 11 ∨ x = 12 ∨ x = 13 ∨ x = 14 ∨ x = 15 := by omega
  clear h0 h
  rcases hx with rfl | rfl | rfl | rfl | rfl | rfl | rfl | rfl | rfl | rfl | rfl | rfl | rfl | rfl | rfl | rfl
  all_goals (refine Eq.trans ?_ (Eq.refl _); kernel_rfl)
theorem and15b (x : Int) (h0 : 0 ≤ x) (h : x ≤ 255) : bits .and .u8 x 15 = x % 16 := by
  obtain ⟨k, rfl⟩ := Int.eq_ofNat_of_zero_le h0
  show IntKind.u8.wrap ((BitVec.ofInt 8 (k : Int) &&& BitVec.ofInt 8 15).toNat : Int) = _
  have e1 : (BitVec.ofInt 8 (k : Int)).toNat = k := by rw [BitVec.ofInt_natCast, BitVec.toNat_ofNat]; omega
  have e2 : (BitVec.ofInt 8 15).toNat = 2 ^ 4 - 1 := by decide
  rw [BitVec.toNat_and, e1, e2, Nat.and_two_pow_sub_one_eq_mod, IntKind.wrap_u8]
  omega
theorem conv_zero (W : World) (A : Option Addr) (c : Nat) : (convert 30 9 (.slice A 0 c)).run Try.prog W = .ok (.string ⟨#[]⟩) W := by
  rw [run_convert_bytes_string W 30 9 5 A 0 c Try.underlying30 Try.underlying5 Try.underlying9]
  cases A <;> simp [Conv.bytesToString, loadCells]
  all_goals rfl
/-- Sign i of the text of the bytes; the text. -/
def btB (f : Nat → Int) (i : Nat) : UInt8 := hexB (if i % 2 = 0 then f (i / 2) / 16 else f (i / 2) % 16).toNat
def btF (f : Nat → Int) (i : Nat) : Value := .int .u8 ((btB f i).toNat : Int)
def btL (f : Nat → Int) (n : Nat) : List UInt8 := (List.range (2 * n)).map (btB f)
theorem btB_even (f : Nat → Int) (k : Nat) : btB f (2 * k) = hexB (f k / 16).toNat := by simp [btB]
theorem btB_odd (f : Nat → Int) (k : Nat) : btB f (2 * k + 1) = hexB (f k % 16).toNat := by unfold btB; rw [if_neg (by omega), show (2 * k + 1) / 2 = k by omega]
theorem btL_len (f : Nat → Int) (n : Nat) : (btL f n).length = 2 * n := by simp [btL]
theorem btL_succ (f : Nat → Int) (k : Nat) : btL f (k + 1) = btL f k ++ [hexB (f k / 16).toNat, hexB (f k % 16).toNat] := by
  unfold btL
  rw [show 2 * (k + 1) = (2 * k + 1) + 1 by omega, List.range_succ, List.range_succ, List.map_append, List.map_append]
  simp [btB_even, btB_odd]
set_option maxHeartbeats 1000000 in
theorem implBytesText_yes (g n c : Nat) (f : Nat → Int) (w : World) (hf : ∀ i, 0 ≤ f i ∧ f i ≤ 255) (hn : n ≤ 4000) (hown : Own w g n fun i => .int .u8 (f i)) :
    Calls Try.prog 23 #[.slice (some ⟨g, 0, none⟩) n c] w fun e w' => e = .returned (.tuple #[.string ⟨(btL f n).toArray⟩, .bool true]) ∧ Below w.heap.size w w' := by
  obtain ⟨i0, hi, hz0, hz1, hz2⟩ := info_parts infoByteS
  have hmk := run_make_cap (P := Try.prog) 30 5 (.int .u8 0) 1 Try.underlying30 infoByteS rfl (2 * (n : Int)) (by omega) (by omega) (by omega)
  have HC := Lib.hid hown
  have HF := Lib.hid hf
  clear hown hf
  have hd0 : decide (4000 < (n : Int)) = false := decide_eq_false (by omega)
  go_enter Try.func23, Try.ntmps23
  go_wp2
  go_loopw [4, 6, 16] (fun sv _ i wr => ∃ k : Nat, k ≤ n ∧ i = .int .i64 k ∧ Grows wr w.heap.size 5 sv (2 * k) (btF f) ∧ Below w.heap.size w wr) (fun _ _ i _ => n - (intOf i).toNat)
  case atStart => exact ⟨0, Nat.zero_le _, rfl, Grows.made _ _ _ _ _ _ (Nat.le_refl _) (by unfold maxLen; omega), (Below.refl _ _).alloc (Nat.le_refl _) _⟩
  case round =>
    obtain ⟨k, hk, rfl, hgr, hb⟩ := hrel
    have HO := Lib.hid hgr
    have HB := Lib.hid hb
    have hsz := hb.size
    by_cases hlt : k < n
    · have hc := (HC.out.later hb).cell hlt
      have hfb := HF.out k
      have ha := and15b (f k) hfb.1 hfb.2
      have hi1 := index_hex (f k / 16) (by omega) (by omega)
      have hi2 := index_hex (f k % 16) (by omega) (by omega)
      have HK2 : Hid (btF f (2 * k) = .int .u8 ((hexB (f k / 16).toNat).toNat : Int)) := by show _ = _; rw [btF, btB_even]
      have HK3 : Hid (btF f (2 * k + 1) = .int .u8 ((hexB (f k % 16).toNat).toNat : Int)) := by show _ = _; rw [btF, btB_odd]
      have H1 : Hid (∀ u ∈ [btF f (2 * k), btF f (2 * k + 1)], u.oneCell' = true) := by
        intro u hu; simp at hu; rcases hu with rfl | rfl <;> rfl
      have h63 : 2 * k + 2 ≤ maxLen := by unfold maxLen; omega
      clear hgr hb hmk
      go_wp2
      clear hc
      go_region_law ((refine step_append_lies _ rfl _ _ 30 rfl w.heap.size 5 i0 (.int .u8 0) 1 1 Try.underlying30 hi hz0 hz1 hz2 rfl (by decide) _ _ _ rfl (HO.out.alloc _) ⟨wr.heap.size, 0, none⟩ 2 2 [btF f (2 * k), btF f (2 * k + 1)] rfl rfl ?_ H1.out (by decide) h63 (by omega) (by simp; omega) _ rfl ?_; (rw [HK2.out, HK3.out]; exact news_two _ _ _ _); intro g1 cap w1 hown hgrow hat hlt1))
      all_goals
        have HO' := Lib.hid (Grows.snoc2 hown)
        have HB' := Lib.hid ((HB.out.alloc hsz _).grown (show (wr.alloc _).grownBy _ _ from ⟨hgrow.os, hgrow.tape, hgrow.output, hgrow.size, hgrow.block⟩) (by simp; omega) HO.out.ownBlock)
        clear hown hgrow hat hlt1
        go_wp2
        go_roundw
        case rel => exact ⟨k + 1, by omega, by go_num, HO'.out, HB'.out⟩
        case measure => simp [intOf]; omega
    · clear hgr hb hmk
      obtain ⟨A, c', hv, hA⟩ := HO.out.form
      have hkn : n = k := by omega
      have HK := Lib.hid hkn
      clear hkn
      have hconv : (convert 30 9 (.slice A (2 * k) c')).run Try.prog wr = .ok (.string ⟨(btL f k).toArray⟩) wr := by
        rcases Nat.eq_zero_or_pos k with h0 | h0
        · subst h0
          exact conv_zero wr A c'
        · obtain ⟨g1, rfl, _, ho⟩ := hA (by omega)
          have := run_convert_bytes_back (P := Try.prog) wr 30 9 5 ⟨g1, 0, none⟩ c' (btL f k) Try.underlying30 Try.underlying5 Try.underlying9 (fun j hj => by
            have hj' : j < 2 * k := by rw [btL_len] at hj; exact hj
            have e1 : (⟨g1, 0, none⟩ : Addr).add j = ⟨g1, j, none⟩ := by unfold Addr.add; split <;> simp_all
            rw [e1, ho.cell hj']
            simp [btL, btF])
          rw [btL_len] at this
          exact this
      rw [hv]
      clear hA hv
      go_wp2
      go_ret2
      obtain rfl := HK.out
      exact ⟨rfl, HB.out⟩
set_option maxHeartbeats 1000000 in
theorem scBytesText_any (g n c : Nat) (f : Nat → Int) (w : World) (hf : ∀ i, 0 ≤ f i ∧ f i ≤ 255) (hn : n ≤ 4000) (hown : Own w g n fun i => .int .u8 (f i)) :
    Calls Try.prog 49 #[.slice (some ⟨g, 0, none⟩) n c] w fun e w' => e = .returned (.string ⟨(btL f n).toArray⟩) ∧ ∃ m, w' = w.drewN m := by
  have HC := Lib.hid hown
  have HF := Lib.hid hf
  clear hown hf
  go_enter Try.func49, Try.ntmps49
  go_wp2
  go_loopw [3, 5, 6, 9] (fun sv _ _ i wr => ∃ k m : Nat, k ≤ n ∧ i = .int .i64 k ∧ sv = .string ⟨(btL f k).toArray⟩ ∧ wr = w.drewN m) (fun _ _ _ i _ => n - (intOf i).toNat)
  case atStart => exact ⟨0, 0, Nat.zero_le _, rfl, rfl, rfl⟩
  case round =>
    obtain ⟨k, m, hk, rfl, rfl, rfl⟩ := hrel
    by_cases hlt : k < n
    · have hc := HC.out.cell hlt
      have hfb := HF.out k
      have hs1 := slice_hex (f k / 16) (by omega) (by omega)
      have hs2 := slice_hex (f k % 16) (by omega) (by omega)
      have hll : (btL f k).length ≤ 8000 := by rw [btL_len]; omega
      have HLS := Lib.hid (btL_succ f k)
      go_wp2
      go_quiet (fail)
      go_wp2
      go_roundw
      case rel => exact ⟨k + 1, m + nq, by omega, by go_num, by rw [HLS.out]; exact congrArg Value.string ((congrArg (⟨(btL f k).toArray⟩ ++ ·) (cat_lists [hexB (f k / 16).toNat] [hexB (f k % 16).toNat])).trans (cat_lists _ _)), by simp⟩
      case measure => simp [intOf]; omega
    · have hkn : n = k := by omega
      have HK := Lib.hid hkn
      clear hkn
      go_wp2
      go_ret
      obtain rfl := HK.out
      exact ⟨rfl, m, rfl⟩
def btOk (n : Nat) : Bool := decide (n ≤ 4000)
def btV (f : Nat → Int) (n : Nat) : List UInt8 := if btOk n then btL f n else []
theorem implBytesText_any (g c n : Nat) (f : Nat → Int) (w : World) (hf : ∀ i, 0 ≤ f i ∧ f i ≤ 255) (hn : n ≤ 1048576) (hown : Own w g n fun i => .int .u8 (f i)) :
    Calls Try.prog 23 #[.slice (some ⟨g, 0, none⟩) n c] w fun e w' => e = .returned (.tuple #[.string ⟨(btV f n).toArray⟩, .bool (btOk n)]) ∧ Below w.heap.size w w' := by
  by_cases h : n ≤ 4000
  · rw [btV, show btOk n = true by simpa [btOk] using h, if_pos rfl]
    exact implBytesText_yes g n c f w hf h hown
  · rw [btV, show btOk n = false by simpa [btOk] using h, if_neg (by simp)]
    clear hown hf
    have h' : 4000 < (n : Int) := by omega
    go_enter Try.func23, Try.ntmps23
    go_wp2
    go_ret2
    exact ⟨rfl, Below.refl _ _⟩
theorem specBytesText_any (g c n : Nat) (f : Nat → Int) (w : World) (hf : ∀ i, 0 ≤ f i ∧ f i ≤ 255) (hn : n ≤ 1048576) (hown : Own w g n fun i => .int .u8 (f i)) :
    Calls Try.prog 21 #[.slice (some ⟨g, 0, none⟩) n c] w fun e w' => e = .returned (.tuple #[.string ⟨(btV f n).toArray⟩, .bool (btOk n)]) ∧ Below w.heap.size w w' := by
  by_cases h : n ≤ 4000
  · rw [btV, show btOk n = true by simpa [btOk] using h, if_pos rfl]
    have hS := Lib.hid (scBytesText_any g n c f w hf h hown)
    have h' : (n : Int) ≤ 4000 := by omega
    clear hown hf
    go_enter Try.func21, Try.ntmps21
    go_wp2_with (first | (go_at_call 49; refine hS.out.mono ?_; rintro e w1 ⟨rfl, m, rfl⟩) | go_in)
    go_ret2
    exact ⟨rfl, rfl, rfl, rfl, Nat.le_refl _, fun _ _ => rfl⟩
  · rw [btV, show btOk n = false by simpa [btOk] using h, if_neg (by simp)]
    clear hown hf
    have h' : decide ((n : Int) ≤ 4000) = false := decide_eq_false (by omega)
    go_enter Try.func21, Try.ntmps21
    go_wp2
    go_ret2
    exact ⟨rfl, Below.refl _ _⟩
set_option maxHeartbeats 1000000 in
theorem fnExactBytesText_walk (w : World) (A : Option Addr) (n c : Nat) (f : Nat → Int) (hf : ∀ i, 0 ≤ f i ∧ f i ≤ 255) (hn : n ≤ maxLen) (hr : Row w w.heap.size A n fun i => .int .u8 (f i))
     :
    Calls Try.prog 6 #[.slice A n c] w fun e w' => e = .returned (.bool true) ∧ Below w.heap.size w w' := by
  unfold maxLen at hn
  have HF := Lib.hid hf
  have HR := Lib.hid hr
  clear hf hr
  by_cases hbig : 1048576 < (n : Int)
  · go_enter Try.func6, Try.ntmps6
    go_wp2
    go_ret
    exact ⟨rfl, Below.refl _ _⟩
  · go_enter Try.func6, Try.ntmps6
    go_wp2_with fail
    refine (toByteS_any A n c f _ (by omega) HR.out).mono ?_
    rintro e w1 ⟨rfl, hr1, hb1⟩
    have O1 := Lib.hid (Own.of_row hr1)
    have B1 := Lib.hid hb1
    clear hr1 hb1
    go_wp2_with fail
    refine (specBytesText_any _ _ n f _ HF.out (by omega) O1.out).mono ?_
    rintro e w1b ⟨rfl, hbs⟩
    have B1 := Lib.hid (B1.out.trans (hbs.mono B1.out.size))
    clear hbs
    go_wp2_with fail
    refine (toByteS_any A n c f _ (by omega) ((HR.out.below B1.out).more B1.out.size)).mono ?_
    rintro e w2 ⟨rfl, hr2, hb2⟩
    have O2 := Lib.hid (Own.of_row hr2)
    have B2 := Lib.hid (B1.out.trans (hb2.mono B1.out.size))
    clear hr2 hb2
    go_wp2_with fail
    refine (implBytesText_any _ _ n f _ HF.out (by omega) O2.out).mono ?_
    rintro e w2b ⟨rfl, hbs⟩
    have O2 := Lib.hid (O2.out.later hbs)
    have B2 := Lib.hid (B2.out.trans (hbs.mono B2.out.size))
    clear hbs
    go_wp2_with fail
    refine (toByteS_any A n c f _ (by omega) ((HR.out.below B2.out).more B2.out.size)).mono ?_
    rintro e w3 ⟨rfl, hr3, hb3⟩
    have O3 := Lib.hid (Own.of_row hr3)
    have O2' := Lib.hid (O2.out.later hb3)
    have B3 := Lib.hid (B2.out.trans (hb3.mono B2.out.size))
    clear hr3 hb3
    go_wp2_with fail
    refine (eqByteS_any _ _ _ _ n f _ _ _ (by omega) O2'.out.row O3.out.row).mono ?_
    rintro e w4 ⟨rfl, hb4⟩
    have B4 := Lib.hid (B3.out.trans (hb4.mono B3.out.size))
    clear hb4
    go_wp2_with fail
    go_ret
    exact ⟨rfl, B4.out⟩
end Go.Proofs.Ytfddfhobkfkmiaa
