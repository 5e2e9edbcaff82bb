/-
  strings.Split at one byte, by the shelf's contract; the reference's l1Split: both make the plain pieces.
-/
import Derived.Test.YtnfkepngjbjeoaaDoorSplit
import Derived.Test.YtnfkepngjbjeoaaDoorStrs
import Derived.Test.YtnfkepngjbjeoaaDoorShelf
import Derived.Lib.Hide
import Derived.WalkSpells
namespace Go.Proofs.YtnfkepngjbjeoaaDoor
open Go.RowKit
/-- The library's bound MaxLen holds some int. -/
def MaxL (w : World) : Prop := 0 < w.heap.size ∧ ∃ m, w.cell? ⟨0, 0, none⟩ = some (.int .i64 m)
theorem MaxL.later {w w' : World} (h : MaxL w) (hb : Below w.heap.size w w') : MaxL w' := by
  obtain ⟨h1, m, hm⟩ := h
  exact ⟨Nat.lt_of_lt_of_le h1 hb.size, m, (hb.cell (p := ⟨0, 0, none⟩) h1).trans hm⟩
theorem maxL_of {w : World} (h : w.ShapedOpen Tryd.prog) : MaxL w := by
  obtain ⟨m, hm⟩ := Tryd.laysM146.s1_3 w h
  exact ⟨cell_lt_size hm, m, hm⟩
theorem split_any (s : ByteArray) (c : UInt8) (w : World) (hw : MaxL w) (hs : s.size ≤ 1048576) :
    Calls Tryd.prog 16 #[.string s, .string ⟨#[c]⟩] w fun e w' => ∃ v, e = .returned v ∧ StrsOut w (pcs s (c.toNat : Int) 0) v w' := by
  obtain ⟨_, m, hm⟩ := hw
  refine (Tryd.strings_Split s ⟨#[c]⟩ m w (by omega) hm (Nat.le_refl 1)).mono ?_
  rintro e w' ⟨rfl, rfl⟩
  have hl := splitB_len s ⟨#[c]⟩ (Nat.le_refl 1)
  rw [pcs_count] at hl ⊢
  rw [← hl]
  refine ⟨_, rfl, w.heap.size, _, rfl, Nat.le_refl _, Nat.le_refl _, Own.lit w _ _ _ _ (fun i hi => ?_), belAlloc (Below.refl _ _) _⟩
  simp [List.getD_eq_getElem?_getD, hi]
set_option maxHeartbeats 2000000 in
theorem l1Split_any (s : ByteArray) (b : Int) (w : World) (hs : s.size ≤ 1048576) :
    Calls Tryd.prog 21 #[.string s, .int .u8 b] w fun e w' => ∃ v, e = .returned v ∧ StrsOut w (pcs s b 0) v w' := by
  obtain ⟨i0, hi, hz0, hz1, hz2⟩ := info_parts info_str
  go_enter Tryd.func21, Tryd.ntmps21
  go_wp2_with fail
  go_loopw [5, 6, 7] (fun sv f i wr => ∃ (k a : Nat) (done : List ByteArray), k ≤ s.size ∧ a ≤ k ∧ done.length ≤ k ∧ i = .int .i64 k ∧ f = .int .i64 a ∧ (∀ j, a ≤ j → j < k → byt s j ≠ b) ∧ done ++ pcs s b a = pcs s b 0 ∧ wr.ownsRow w.heap.size 9 1 sv done.length (strVs done) ∧ Below w.heap.size w wr) (fun _ _ i _ => s.size - (intOf i).toNat)
  case atStart => exact ⟨0, 0, [], Nat.zero_le _, Nat.le_refl _, Nat.le_refl _, rfl, rfl, fun j h1 h2 => absurd h2 (by omega), rfl, World.ownsRow_nil _ _ _ _, Below.refl _ _⟩
  case round =>
    obtain ⟨k, a, done, hk, hak, hdl, rfl, rfl, hno, hpc, hown, hb⟩ := hrel
    have HB := Lib.hid hb
    have HO := Lib.hid hown
    have HN := Lib.hid hno
    have HP := Lib.hid hpc
    have hsz := hb.size
    clear hb hown hno hpc
    by_cases hlt : k < s.size
    · have hbe := byt_eq hlt
      by_cases hq : byt s k = b
      · have HH := Lib.hid (pcs_hit hak hlt hq HN.out)
        have eq1 : ((s[k].toNat : Int) == b) = true := by rw [← hbe, hq]; simp
        clear hbe hq
        go_wp2_with (at_builtin; refine wpList_append_own _ rfl (.tmp 19) (.tmp 24) 35 rfl w.heap.size 9 i0 (.string ⟨#[]⟩) 1 16 Tryd.underlying35 hi hz0 hz1 hz2 rfl (by decide) _ _ _ rfl (HO.out.alloc _) ⟨wr.heap.size, 0, none⟩ 1 1 [.string (s.extract a k)] rfl rfl ?c1 ?c2 ?c3 ?c4 ?c5 ?_)
        case c1 => exact news_one _ _ _
        case c2 => intro u hu; simp at hu; subst hu; rfl
        case c3 => unfold maxLen; omega
        case c4 => omega
        case c5 => simp; omega
        intro v' w1 hown' hg hne
        have HO' : Hid (w1.ownsRow w.heap.size 9 1 v' (done ++ [s.extract a k]).length (strVs (done ++ [s.extract a k]))) := by
          show World.ownsRow _ _ _ _ _ _ _
          simpa [strVs] using hown'
        have HB' := Lib.hid ((HB.out.alloc hsz _).grown hg (by simp; omega) (fun x hx => (HO.out.lt x hx).1))
        clear hown' hg hne
        go_wp2
        go_roundw
        case rel => exact ⟨k + 1, k + 1, done ++ [s.extract a k], by omega, by omega, by simp; omega, by go_num, by go_num, fun j h1 h2 => absurd h2 (by omega), by rw [← HP.out, HH.out]; simp, HO'.out, HB'.out⟩
        case measure => simp [intOf]; omega
      · have eq1 : ((s[k].toNat : Int) == b) = false := by rw [← hbe]; simpa using hq
        have HNB := Lib.hid hq
        clear hbe hq
        go_wp2
        go_roundw
        case rel => exact ⟨k + 1, a, done, by omega, by omega, by omega, by go_num, rfl, fun j h1 h2 => by rcases Nat.lt_succ_iff_lt_or_eq.1 h2 with h | rfl; exact HN.out j h1 h; exact HNB.out, HP.out, HO.out, HB.out⟩
        case measure => simp [intOf]; omega
    · obtain rfl : k = s.size := by omega
      have HH := Lib.hid (pcs_end hak HN.out)
      go_wp2_with (at_builtin; refine wpList_append_own _ rfl (.tmp 28) (.tmp 32) 35 rfl w.heap.size 9 i0 (.string ⟨#[]⟩) 1 16 Tryd.underlying35 hi hz0 hz1 hz2 rfl (by decide) _ _ _ rfl (HO.out.alloc _) ⟨wr.heap.size, 0, none⟩ 1 1 [.string (s.extract a s.size)] rfl rfl ?d1 ?d2 ?d3 ?d4 ?d5 ?_)
      case d1 => exact news_one _ _ _
      case d2 => intro u hu; simp at hu; subst hu; rfl
      case d3 => unfold maxLen; omega
      case d4 => omega
      case d5 => simp; omega
      intro v' w1 hown' hg hne
      have HO' : Hid (w1.ownsRow w.heap.size 9 1 v' (pcs s b 0).length (strVs (pcs s b 0))) := by
        show World.ownsRow _ _ _ _ _ _ _
        rw [← HP.out, HH.out]
        simpa [strVs] using hown'
      have HB' := Lib.hid ((HB.out.alloc hsz _).grown hg (by simp; omega) (fun x hx => (HO.out.lt x hx).1))
      clear hown' hg hne
      go_wp2
      go_ret
      exact ⟨_, rfl, strsOut_of HO'.out (by have := pcs_ne s b 0; omega) HB'.out (Nat.le_refl _)⟩
end Go.Proofs.YtnfkepngjbjeoaaDoor
