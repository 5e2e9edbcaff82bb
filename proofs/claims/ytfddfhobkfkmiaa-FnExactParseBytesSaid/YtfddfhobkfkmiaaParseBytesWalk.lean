/-
  ParseBytes, the program's and the reference's: both return the bytes of the digits, two a byte; the walk of FnExactParseBytes.
-/
import Derived.Test.YtfddfhobkfkmiaaIn
import Derived.Test.YtfddfhobkfkmiaaScBytes
import Derived.Test.YtfddfhobkfkmiaaBits
import Derived.Test.YtfddfhobkfkmiaaByteS
import Derived.Test.YtfddfhobkfkmiaaSliceOut
import Derived.Test.YtfddfhobkfkmiaaHexDigit
import Derived.Test.YtfddfhobkfkmiaaScDigit
import Derived.Deep.QuietTactic
import Derived.BigQuiet
import Derived.IntWalk
namespace Go.Proofs.Ytfddfhobkfkmiaa
open Go.RowKit
theorem quiet_of_left {P : Program} {f : FuncId} {args : Array Value} {w : World} {n : Nat} {v : Value} (h : Calls P f args (w.drewN n) fun e w' => e = .returned v ∧ w.drewN n = w') : Calls P f args (w.drewN n) fun e w'' => e = .returned v ∧ ∃ m, w'' = w.drewN m :=
  h.mono fun _ _ ⟨he, hm⟩ => ⟨he, n, hm.symm⟩
theorem scDigit_byte (b : UInt8) (w : World) : Calls Try.prog 66 #[.int .u8 (b.toNat : Int), .int .i64 16] w fun e w' => e = .returned (.int .i64 (hexV (b.toNat : Int))) ∧ w = w' := by
  have := scDigit_any (b.toNat : Int) 16 w (by omega) (by have := b.toNat_lt; omega) (by omega) (by omega)
  rwa [dgV_hex] at this
theorem hexDigit_byte (b : UInt8) (w : World) : Calls Try.prog 62 #[.int .u8 (b.toNat : Int)] w fun e w' => e = .returned (.int .i64 (hexV (b.toNat : Int))) ∧ w = w' :=
  hexDigit_any (b.toNat : Int) w (by omega) (by have := b.toNat_lt; omega)
/-- The byte of digits 2k and 2k + 1. -/
def pbf (s : ByteArray) (k : Nat) : Int := hexV (byt s (2 * k)) * 16 + hexV (byt s (2 * k + 1))
def pbOk (s : ByteArray) : Bool := decide (s.size ≤ 8000 ∧ s.size % 2 = 0 ∧ ∀ i, i < s.size → 0 ≤ hexV (byt s i))
def pbM (s : ByteArray) : Nat := if pbOk s then s.size / 2 else 0
theorem pb_yes {s : ByteArray} (h : s.size ≤ 8000 ∧ s.size % 2 = 0 ∧ ∀ i, i < s.size → 0 ≤ hexV (byt s i)) : pbOk s = true ∧ pbM s = s.size / 2 := by
  have : pbOk s = true := decide_eq_true h
  exact ⟨this, by rw [pbM, if_pos this]⟩
theorem pb_no {s : ByteArray} (h : ¬ (s.size ≤ 8000 ∧ s.size % 2 = 0 ∧ ∀ i, i < s.size → 0 ≤ hexV (byt s i))) : pbOk s = false ∧ pbM s = 0 := by
  have : pbOk s = false := decide_eq_false h
  exact ⟨this, by rw [pbM, if_neg (by simp [this])]⟩
theorem pbM_le (s : ByteArray) : pbM s ≤ 4000 := by
  unfold pbM pbOk
  split
  · rename_i h
    have := of_decide_eq_true h
    omega
  · omega
/-- What the round's two digits do: both good, or one bad. -/
theorem SliceOut.bad {w : World} {s : ByteArray} {F : Nat → Value} {wr : World} (h : pbOk s = false ∧ pbM s = 0) (hb : Below w.heap.size w wr) : SliceOut w (pbM s) F (pbOk s) (.returned (.tuple #[.slice none 0 0, .bool false])) wr := by
  rw [h.1, h.2]
  exact ⟨none, 0, rfl, fun hh => absurd hh (by omega), hb⟩
theorem SliceOut.good {w : World} {s : ByteArray} {F : Nat → Value} {wr : World} {v : Value} {e : TypeId} (h : pbOk s = true ∧ pbM s = s.size / 2) (hg : Grows wr w.heap.size e v (s.size / 2) F) (hb : Below w.heap.size w wr) : SliceOut w (pbM s) F (pbOk s) (.returned (.tuple #[v, .bool true])) wr := by
  rw [h.1, h.2]
  obtain ⟨A, c, rfl, hA⟩ := hg.form
  exact ⟨A, c, rfl, hA, hb⟩
set_option maxHeartbeats 2000000 in
theorem implParseBytes_in (s : ByteArray) (w : World) (hs : s.size ≤ 8000) (he : s.size % 2 = 0) :
    Calls Try.prog 42 #[.string s] w fun e w' => SliceOut w (pbM s) (fun i => .int .u8 (pbf s i)) (pbOk s) e w' := by
  obtain ⟨i0, hi, hz0, hz1, hz2⟩ := info_parts infoByteS
  have hmk := run_make_cap (P := Try.prog) 30 5 (.int .u8 0) 1 Try.underlying30 infoByteS rfl ((s.size : Int) / 2) (by omega) (by omega) (by omega)
  have hd0 : decide (8000 < (s.size : Int)) = false := decide_eq_false (by omega)
  have hd1 : ((s.size : Int) % 2 != 0) = false := by simp; omega
  have HE := Lib.hid he
  clear he
  go_enter Try.func42, Try.ntmps42
  go_wp2_with fail
  go_loopw [4, 5, 6, 7] (fun sv i _ _ wr => ∃ k : Nat, 2 * k ≤ s.size ∧ i = .int .i64 ((2 * k : Nat) : Int) ∧ (∀ j, j < 2 * k → 0 ≤ hexV (byt s j)) ∧ Grows wr w.heap.size 5 sv k (fun i => .int .u8 (pbf s i)) ∧ Below w.heap.size w wr) (fun _ i _ _ _ => s.size - (intOf i).toNat)
  case atStart => exact ⟨0, Nat.zero_le _, rfl, fun j hj => absurd hj (by omega), Grows.made _ _ _ _ _ _ (Nat.le_refl _) (by unfold maxLen; omega), (Below.refl _ _).alloc (Nat.le_refl _) _⟩
  case round =>
    obtain ⟨k, hk, rfl, hgood, hgr, hb⟩ := hrel
    have HG := Lib.hid hgood
    have HO := Lib.hid hgr
    have HB := Lib.hid hb
    have hsz := hb.size
    clear hgood hgr hb hmk
    by_cases hlt : 2 * k < s.size
    · have hlt1 : 2 * k + 1 < s.size := by have := HE.out; omega
      have hb0 := byt_eq hlt
      have hb1 := byt_eq hlt1
      have hv0 := hexV_bd (s[2 * k].toNat : Int)
      have hv1 := hexV_bd (s[2 * k + 1].toNat : Int)
      by_cases h0 : 0 ≤ hexV (byt s (2 * k))
      · have d0 : decide (hexV (s[2 * k].toNat : Int) < 0) = false := decide_eq_false (by rw [← hb0]; omega)
        have h0' : 0 ≤ hexV (s[2 * k].toNat : Int) := by rw [← hb0]; exact h0
        by_cases h1 : 0 ≤ hexV (byt s (2 * k + 1))
        · have d1 : decide (hexV (s[2 * k + 1].toNat : Int) < 0) = false := decide_eq_false (by rw [← hb1]; omega)
          have h1' : 0 ≤ hexV (s[2 * k + 1].toNat : Int) := by rw [← hb1]; exact h1
          have hor := or_nibble (hexV (s[2 * k].toNat : Int)) (hexV (s[2 * k + 1].toNat : Int)) h0' (by omega) h1' (by omega)
          have HP : Hid (pbf s k = hexV (s[2 * k].toNat : Int) * 16 + hexV (s[2 * k + 1].toNat : Int)) := by show _ = _; rw [pbf, hb0, hb1]
          have HG2 : Hid (∀ j, j < 2 * (k + 1) → 0 ≤ hexV (byt s j)) := by
            intro j hj
            rcases Nat.lt_or_ge j (2 * k) with h | h
            · exact HG.out j h
            · rcases Nat.eq_or_lt_of_le h with h | h
              · rw [← h]; exact h0
              · rw [show j = 2 * k + 1 by omega]; exact h1
          clear hb0 hb1 h0 h1
          go_wp2_with (first | (go_at_call 62; refine (hexDigit_byte _ _).mono ?_; rintro e w1 ⟨rfl, rfl⟩) | (at_builtin; refine wpList_append_own _ rfl _ _ 30 rfl w.heap.size 5 i0 (.int .u8 0) 1 1 Try.underlying30 hi hz0 hz1 hz2 rfl (by decide) _ _ _ rfl (HO.out.alloc _) ⟨wr.heap.size, 0, none⟩ 1 1 [.int .u8 (pbf s k)] rfl rfl ?c1 ?c2 ?c3 ?c4 ?c5 ?_))
          case c1 => rw [HP.out]; exact news_one _ _ _
          case c2 => intro u hu; simp at hu; subst hu; rfl
          case c3 => unfold maxLen; omega
          case c4 => omega
          case c5 => simp; omega
          intro v' w1 hown' hg hne
          have HO' := Lib.hid (Grows.snoc hown')
          have HB' := Lib.hid ((HB.out.alloc hsz _).grown hg (by simp; omega) (HO.out.ownBlock))
          clear hown' hg hne
          go_wp2
          go_roundw
          case rel => exact ⟨k + 1, by omega, by go_num, HG2.out, HO'.out, HB'.out⟩
          case measure => simp [intOf]; omega
        · have d1 : hexV (s[2 * k + 1].toNat : Int) < 0 := by rw [← hb1]; omega
          have HN := Lib.hid (pb_no (s := s) fun h => h1 (h.2.2 _ hlt1))
          clear hb0 hb1 h0 h1
          go_wp2_with (go_at_call 62; refine (hexDigit_byte _ _).mono ?_; rintro e w1 ⟨rfl, rfl⟩)
          go_ret2
          exact SliceOut.bad HN.out HB.out
      · have d0 : hexV (s[2 * k].toNat : Int) < 0 := by rw [← hb0]; omega
        have HN := Lib.hid (pb_no (s := s) fun h => h0 (h.2.2 _ hlt))
        clear hb0 hb1 h0
        go_wp2_with (go_at_call 62; refine (hexDigit_byte _ _).mono ?_; rintro e w1 ⟨rfl, rfl⟩)
        go_ret2
        exact SliceOut.bad HN.out HB.out
    · have hk2 : 2 * k = s.size := by omega
      have HK := Lib.hid hk2
      have HY := Lib.hid (pb_yes (s := s) ⟨hs, HE.out, fun i hi => HG.out i (by omega)⟩)
      have HO2 : Hid (Grows wr w.heap.size 5 u4 (s.size / 2) (fun i => .int .u8 (pbf s i))) := by
        have := HO.out
        rwa [show k = s.size / 2 by omega] at this
      clear hk2
      go_wp2_with fail
      go_ret2
      exact SliceOut.good HY.out HO2.out HB.out
set_option maxHeartbeats 2000000 in
theorem scParseBytes_in (s : ByteArray) (w : World) (hs : s.size ≤ 8000) (he : s.size % 2 = 0) :
    Calls Try.prog 63 #[.string s] w fun e w' => SliceOut w (pbM s) (fun i => .int .u8 (pbf s i)) (pbOk s) e w' := by
  obtain ⟨i0, hi, hz0, hz1, hz2⟩ := info_parts infoByteS
  have hd0 : (s.size : Int) / 2 ≤ 4000 := by omega
  have hd1 : ((s.size : Int) % 2 != 0) = false := by simp; omega
  have HE := Lib.hid he
  clear he
  go_enter Try.func63, Try.ntmps63
  go_wp2_with (first | (go_at_call 46; refine (scBytes_yes _ _ (by omega)).mono ?_; rintro e w1 ⟨rfl, rfl⟩) | (go_at_call 46; refine (scBytes_no _ _ (by omega)).mono ?_; rintro e w1 ⟨rfl, rfl⟩))
  go_loopw [4, 5, 6, 7] (fun sv i _ _ wr => ∃ k : Nat, 2 * k ≤ s.size ∧ i = .int .i64 ((2 * k : Nat) : Int) ∧ (∀ j, j < 2 * k → 0 ≤ hexV (byt s j)) ∧ Grows wr w.heap.size 5 sv k (fun i => .int .u8 (pbf s i)) ∧ Below w.heap.size w wr) (fun _ i _ _ _ => s.size - (intOf i).toNat)
  case atStart => exact ⟨0, Nat.zero_le _, rfl, fun j hj => absurd hj (by omega), Grows.nil _ _ _ _, Below.refl _ _⟩
  case round =>
    obtain ⟨k, hk, rfl, hgood, hgr, hb⟩ := hrel
    have HG := Lib.hid hgood
    have HO := Lib.hid hgr
    have HB := Lib.hid hb
    have hsz := hb.size
    clear hgood hgr hb
    by_cases hlt : 2 * k < s.size
    · have hlt1 : 2 * k + 1 < s.size := by have := HE.out; omega
      have hb0 := byt_eq hlt
      have hb1 := byt_eq hlt1
      have hv0 := hexV_bd (s[2 * k].toNat : Int)
      have hv1 := hexV_bd (s[2 * k + 1].toNat : Int)
      have hI1 : (2 * (k : Int)) < (s.size : Int) := by omega
      have hI2 : (2 * (k : Int)) + 1 < (s.size : Int) := by omega
      have hw1 : IntKind.i64.wrap (2 * (k : Int) + 1) = 2 * (k : Int) + 1 := IntWalk.i64_in _ (by omega)
      have ht0 : (2 * (k : Int)).toNat = 2 * k := by omega
      have ht1 : (2 * (k : Int) + 1).toNat = 2 * k + 1 := by omega
      have hp0 : (0 : Int) ≤ 2 * (k : Int) := by omega
      have hp1 : (0 : Int) ≤ 2 * (k : Int) + 1 := by omega
      have h63 : k + 1 ≤ maxLen := by unfold maxLen; omega
      have hby : (k + 1) * 1 ≤ 140737488355328 := by omega
      by_cases h0 : 0 ≤ hexV (byt s (2 * k))
      · have d0 : decide (hexV (s[2 * k].toNat : Int) < 0) = false := decide_eq_false (by rw [← hb0]; omega)
        have h0' : 0 ≤ hexV (s[2 * k].toNat : Int) := by rw [← hb0]; exact h0
        by_cases h1 : 0 ≤ hexV (byt s (2 * k + 1))
        · have d1 : decide (hexV (s[2 * k + 1].toNat : Int) < 0) = false := decide_eq_false (by rw [← hb1]; omega)
          have h1' : 0 ≤ hexV (s[2 * k + 1].toNat : Int) := by rw [← hb1]; exact h1
          have HP : Hid (pbf s k = 16 * hexV (s[2 * k].toNat : Int) + hexV (s[2 * k + 1].toNat : Int)) := by show _ = _; rw [pbf, hb0, hb1]; omega
          have HG2 : Hid (∀ j, j < 2 * (k + 1) → 0 ≤ hexV (byt s j)) := by
            intro j hj
            rcases Nat.lt_or_ge j (2 * k) with h | h
            · exact HG.out j h
            · rcases Nat.eq_or_lt_of_le h with h | h
              · rw [← h]; exact h0
              · rw [show j = 2 * k + 1 by omega]; exact h1
          clear hb0 hb1 h0 h1
          go_wp2
          go_quiet ((go_at_call 66; exact quiet_of_left (scDigit_byte _ _)))
          clear hw1
          have HOd := Lib.hid (show Grows (wr.drewN nq) w.heap.size 5 u4 k (fun i => .int .u8 (pbf s i)) from HO.out)
          have HBd := Lib.hid (show Below w.heap.size w (wr.drewN nq) from ⟨HB.out.os, HB.out.tape, HB.out.output, HB.out.size, HB.out.block⟩)
          have hszd : w.heap.size ≤ (wr.drewN nq).heap.size := hsz
          clear HO HB hsz
          generalize wr.drewN nq = w2 at HOd HBd hszd ⊢
          go_wp2_with (at_builtin; refine wpList_append_own _ rfl _ _ 30 rfl w.heap.size 5 i0 (.int .u8 0) 1 1 Try.underlying30 hi hz0 hz1 hz2 rfl (by decide) _ _ _ rfl (HOd.out.alloc _) ⟨w2.heap.size, 0, none⟩ 1 1 [.int .u8 (pbf s k)] rfl rfl ?c1 ?c2 h63 hby ?c5 ?_)
          case c1 => rw [HP.out]; exact news_one _ _ _
          case c2 => intro u hu; simp at hu; subst hu; rfl
          case c5 => simp; omega
          intro v' w1 hown' hg hne
          have HO' := Lib.hid (Grows.snoc hown')
          have HB' := Lib.hid ((HBd.out.alloc hszd _).grown hg (by simp; omega) (HOd.out.ownBlock))
          clear hown' hg hne
          go_wp2
          go_roundw
          case rel => exact ⟨k + 1, by omega, by go_num, HG2.out, HO'.out, HB'.out⟩
          case measure => simp [intOf]; omega
        · have d1 : hexV (s[2 * k + 1].toNat : Int) < 0 := by rw [← hb1]; omega
          have HN := Lib.hid (pb_no (s := s) fun h => h1 (h.2.2 _ hlt1))
          clear hb0 hb1 h0 h1
          go_wp2
          go_quiet ((go_at_call 66; exact quiet_of_left (scDigit_byte _ _)))
          clear hw1
          go_wp2
          go_ret2
          exact SliceOut.bad HN.out ⟨HB.out.os, HB.out.tape, HB.out.output, HB.out.size, HB.out.block⟩
      · have d0 : hexV (s[2 * k].toNat : Int) < 0 := by rw [← hb0]; omega
        have HN := Lib.hid (pb_no (s := s) fun h => h0 (h.2.2 _ hlt))
        clear hb0 hb1 h0
        go_wp2
        go_quiet ((go_at_call 66; exact quiet_of_left (scDigit_byte _ _)))
        clear hw1
        go_wp2
        go_ret2
        exact SliceOut.bad HN.out ⟨HB.out.os, HB.out.tape, HB.out.output, HB.out.size, HB.out.block⟩
    · have HY := Lib.hid (pb_yes (s := s) ⟨hs, HE.out, fun i hi => HG.out i (by omega)⟩)
      have HO2 : Hid (Grows wr w.heap.size 5 u4 (s.size / 2) (fun i => .int .u8 (pbf s i))) := by
        have := HO.out
        rwa [show k = s.size / 2 by omega] at this
      go_wp2_with fail
      go_ret2
      exact SliceOut.good HY.out HO2.out HB.out
theorem pb_odd {s : ByteArray} (h : ¬ (s.size ≤ 8000 ∧ s.size % 2 = 0)) : pbOk s = false ∧ pbM s = 0 := pb_no fun h' => h ⟨h'.1, h'.2.1⟩
set_option maxHeartbeats 400000 in
theorem implParseBytes_any (s : ByteArray) (w : World) (hs : s.size ≤ 1048576) : Calls Try.prog 42 #[.string s] w fun e w' => SliceOut w (pbM s) (fun i => .int .u8 (pbf s i)) (pbOk s) e w' := by
  by_cases h : s.size ≤ 8000 ∧ s.size % 2 = 0
  · exact implParseBytes_in s w h.1 h.2
  · have HN := Lib.hid (pb_odd h)
    by_cases h1 : 8000 < (s.size : Int)
    · clear h
      go_enter Try.func42, Try.ntmps42
      go_wp2_with fail
      go_ret2
      exact SliceOut.bad HN.out (Below.refl _ _)
    · have hd0 : decide (8000 < (s.size : Int)) = false := decide_eq_false h1
      have hd1 : ((s.size : Int) % 2 != 0) = true := by simp; omega
      clear h
      go_enter Try.func42, Try.ntmps42
      go_wp2_with fail
      go_ret2
      exact SliceOut.bad HN.out (Below.refl _ _)
set_option maxHeartbeats 400000 in
theorem specParseBytes_any (s : ByteArray) (w : World) (hs : s.size ≤ 1048576) : Calls Try.prog 41 #[.string s] w fun e w' => SliceOut w (pbM s) (fun i => .int .u8 (pbf s i)) (pbOk s) e w' := by
  by_cases h : s.size ≤ 8000 ∧ s.size % 2 = 0
  · have H := Lib.hid (scParseBytes_in s w h.1 h.2)
    clear h
    go_enter Try.func41, Try.ntmps41
    go_wp2_with fail
    refine H.out.mono ?_
    rintro e w1 ⟨A, c, rfl, hA, hb⟩
    have HA := Lib.hid hA
    have HB := Lib.hid hb
    clear hA hb
    go_wp2_with fail
    go_ret2
    exact ⟨A, c, rfl, HA.out, HB.out⟩
  · have HN := Lib.hid (pb_odd h)
    by_cases h1 : s.size % 2 = 0
    · have hd0 : decide ((s.size : Int) / 2 ≤ 4000) = false := decide_eq_false (by omega)
      have hd1 : ((s.size : Int) % 2 != 0) = false := by simp; omega
      clear h h1
      go_enter Try.func41, Try.ntmps41
      go_wp2
      go_ret2
      exact SliceOut.bad HN.out (Below.refl _ _)
    · have hd1 : ((s.size : Int) % 2 != 0) = true := by simp; omega
      clear h h1
      go_enter Try.func41, Try.ntmps41
      go_wp2
      go_ret2
      exact SliceOut.bad HN.out (Below.refl _ _)
set_option maxHeartbeats 2000000 in
theorem fnExactParseBytes_walk (s : ByteArray) (hs : s.size ≤ maxLen) (w : World) :
    Calls Try.prog 14 #[.string s] w fun e w' => e = .returned (.bool true) ∧ Below w.heap.size w w' := by
  unfold maxLen at hs
  by_cases hbig : 1048576 < (s.size : Int)
  · go_enter Try.func14, Try.ntmps14
    go_wp2
    go_ret
    exact ⟨rfl, Below.refl _ _⟩
  have hM : pbM s ≤ 1048576 := by have := pbM_le s; omega
  have hS : ∀ W : World, Calls Try.prog 41 #[.string s] W fun e w' => SliceOut W (pbM s) (fun i => .int .u8 (pbf s i)) (pbOk s) e w' := fun W => (fun W => specParseBytes_any s W (by omega)) W
  have hI : ∀ W : World, Calls Try.prog 42 #[.string s] W fun e w' => SliceOut W (pbM s) (fun i => .int .u8 (pbf s i)) (pbOk s) e w' := fun W => (fun W => implParseBytes_any s W (by omega)) W
  generalize pbM s = M at hM hS hI
  generalize pbOk s = ok at hS hI
  generalize pbf s = bf at hS hI
  have HS := Lib.hid hS
  have HI := Lib.hid hI
  clear hS hI
  rcases Nat.eq_zero_or_pos M with rfl | hm
  · go_enter Try.func14, Try.ntmps14
    go_wp2_with fail
    refine ((HS.out _).mono fun _ _ h => h.zero_).mono ?_
    rintro e w1 ⟨A1, c1, rfl, hb1⟩
    have B1 := Lib.hid hb1
    clear hb1
    go_wp2_with fail
    refine ((HI.out _).mono fun _ _ h => h.zero_).mono ?_
    rintro e w2 ⟨A2, c2, rfl, hb2⟩
    have B2 := Lib.hid (B1.out.trans (hb2.mono B1.out.size))
    clear hb2
    go_wp2_with fail
    refine (eqByteS_any A2 A1 c2 c1 0 (fun _ => 0) 0 0 _ (by omega) (fun h => absurd h (by omega)) (fun h => absurd h (by omega))).mono ?_
    rintro e w3 ⟨rfl, hb3⟩
    have B3 := Lib.hid (B2.out.trans (hb3.mono B2.out.size))
    clear hb3
    go_wp2_with fail
    refine (markByteS_none A2 c2 _).mono ?_
    rintro e w4 ⟨rfl, rfl⟩
    go_wp2_with fail
    refine (heldByteS_none A2 c2 _).mono ?_
    rintro e w4 ⟨rfl, rfl⟩
    go_wp2_with fail
    refine ((HI.out _).mono fun _ _ h => h.zero_).mono ?_
    rintro e w4 ⟨A4, c4, rfl, hb4⟩
    have B4 := Lib.hid (B3.out.trans (hb4.mono B3.out.size))
    clear hb4
    go_wp2_with fail
    refine (eqByteS_any A4 A1 c4 c1 0 (fun _ => 0) 0 0 _ (by omega) (fun h => absurd h (by omega)) (fun h => absurd h (by omega))).mono ?_
    rintro e w5 ⟨rfl, hb5⟩
    have B5 := Lib.hid (B4.out.trans (hb5.mono B4.out.size))
    clear hb5
    go_wp2_with fail
    refine (heldByteS_none A2 c2 _).mono ?_
    rintro e w6 ⟨rfl, rfl⟩
    go_wp2_with fail
    go_ret
    exact ⟨rfl, B5.out⟩
  · go_enter Try.func14, Try.ntmps14
    go_wp2_with fail
    refine ((HS.out _).mono fun _ _ h => h.some_ hm).mono ?_
    rintro e w1 ⟨g1, c1, rfl, hg1, ho1, hb1⟩
    have B1 := Lib.hid hb1
    have O1 := Lib.hid ho1
    clear hb1 ho1
    go_wp2_with fail
    refine ((HI.out _).mono fun _ _ h => h.some_ hm).mono ?_
    rintro e w2 ⟨g2, c2, rfl, hg2, ho2, hb2⟩
    have hne : g1 ≠ g2 := by have := O1.out.1; omega
    have HNE := Lib.hid hne
    have hgB : w.heap.size ≤ g2 := Nat.le_trans B1.out.size hg2
    have O1' := Lib.hid (O1.out.later hb2)
    have O2 := Lib.hid ho2
    have B2 := Lib.hid (B1.out.trans (hb2.mono B1.out.size))
    clear hb2 ho2 hne
    go_wp2_with fail
    refine (eqByteS_any _ _ c2 c1 M bf _ _ _ hM O2.out.row O1'.out.row).mono ?_
    rintro e w3 ⟨rfl, hb3⟩
    have O1a := Lib.hid (O1'.out.later hb3)
    have O2a := Lib.hid (O2.out.later hb3)
    have B3 := Lib.hid (B2.out.trans (hb3.mono B2.out.size))
    clear hb3
    go_wp2_with fail
    refine (markByteS_own g2 M c2 bf _ hM O2a.out).mono ?_
    rintro e w4 ⟨rfl, ho4, hb4, hs4, ht4⟩
    have O1b := Lib.hid (O1a.out.other hs4 (ht4 g1 HNE.out))
    have O2b := Lib.hid ho4
    have B4 := Lib.hid (B3.out.trans (hb4 _ hgB))
    clear ho4 hb4 hs4 ht4
    go_wp2_with fail
    refine (heldByteS_own g2 M c2 _ _ hM O2b.out).mono ?_
    rintro e w5 ⟨rfl, rfl⟩
    go_wp2_with fail
    refine ((HI.out _).mono fun _ _ h => h.some_ hm).mono ?_
    rintro e w5 ⟨g3, c3, rfl, hg3, ho3, hb5⟩
    have O1c := Lib.hid (O1b.out.later hb5)
    have O2c := Lib.hid (O2b.out.later hb5)
    have O3 := Lib.hid ho3
    have B5 := Lib.hid (B4.out.trans (hb5.mono B4.out.size))
    clear hb5 ho3
    go_wp2_with fail
    refine (eqByteS_any _ _ c3 c1 M bf _ _ _ hM O3.out.row O1c.out.row).mono ?_
    rintro e w6 ⟨rfl, hb6⟩
    have O2d := Lib.hid (O2c.out.later hb6)
    have B6 := Lib.hid (B5.out.trans (hb6.mono B5.out.size))
    clear hb6
    go_wp2_with fail
    refine (heldByteS_own g2 M c2 _ _ hM O2d.out).mono ?_
    rintro e w7 ⟨rfl, rfl⟩
    go_wp2_with fail
    go_ret
    exact ⟨rfl, B6.out⟩
end Go.Proofs.Ytfddfhobkfkmiaa
