/-
  The times at which pieces begin and end: the program's bends (slices.Sort, slices.Compact), the reference's cuTimes (l1Put): both return the same list.
-/
import Derived.Test.YtnfkepngjbjeoaaCurveS
import Derived.Test.YtnfkepngjbjeoaaTimes
import Derived.Test.YtnfkepngjbjeoaaSliceOut
import Derived.Test.YtnfkepngjbjeoaaShelf
import Derived.Lib.OwnBridge
namespace Go.Proofs.Ytnfkepngjbjeoaa
open Go.RowKit
open Go.Sort (grow putRow Holds)
def intsF (zs : List Int) : Nat → Value := fun i => .int .i64 (zs.getD i 0)
def TimesOut (w : World) (zs : List Int) (e : Ending) (w' : World) : Prop :=
  ∃ g c, e = .returned (.slice (some ⟨g, 0, none⟩) zs.length c) ∧ zs.length ≤ c ∧ Own w' g zs.length (intsF zs) ∧ Below w.heap.size w w'
/-- The lengths of the first k curves. -/
def lens (f : Nat → Nat → Int) (k : Nat) : List Int := (List.range k).map fun i => f i 1
theorem lens_snoc (f : Nat → Nat → Int) (k : Nat) : lens f (k + 1) = lens f k ++ [f k 1] := by simp [lens, List.range_succ]
theorem lens_length (f : Nat → Nat → Int) (k : Nat) : (lens f k).length = k := by simp [lens]
theorem below_grow {B : Nat} {w0 w : World} {os : Array Obj} (h : Below B w0 w) (hB : B ≤ w.heap.size) : Below B w0 (grow w os) :=
  ⟨h.os, h.tape, h.output, by have := h.size; simp [grow]; omega, fun k hk => by rw [← h.block k hk]; exact Go.Sort.heap_grow_old w os (by omega)⟩
theorem ownsRow_grow {w : World} {base n : Nat} {e : TypeId} {v : Value} {xs : List Value} {os : Array Obj} (h : w.ownsRow base e 1 v n xs) : (grow w os).ownsRow base e 1 v n xs := by
  refine ⟨h.1, ?_⟩
  rcases h.2 with h0 | ⟨g, cap, cur, rfl, hb, hg, hr⟩
  · exact .inl h0
  · refine .inr ⟨g, cap, cur, rfl, hb, ?_, hr⟩
    have hlt : g < w.heap.size := by
      rcases Nat.lt_or_ge g w.heap.size with h' | h'
      · exact h'
      · rw [Array.getElem?_eq_none h'] at hg; cases hg
    rw [Go.Sort.heap_grow_old w os hlt, hg]
theorem own_ints {w : World} {base n g cap : Nat} {e : TypeId} {zs : List Int} (h : w.ownsRow base e 1 (.slice (some ⟨g, 0, none⟩) n cap) n (zs.map (Value.int .i64))) (hn : zs.length = n) : Own w g n (intsF zs) :=
  (Own.of_owns (z := .int .i64 0) h).congr fun i hi => by
    simp [intsF, List.getD_eq_getElem?_getD, show i < zs.length by omega]
theorem news_at (w : World) (b : Nat) (x : Value) (t : TypeId) (hb : b = w.heap.size) : ∀ (j : Nat) (u : Value), [x][j]? = some u → (w.alloc (.cells #[x] t)).cell? ((⟨b, 0, none⟩ : Addr).add j) = some u := by
  subst hb
  exact news_one w x t
theorem info_int : (Try.prog.info? 3).map (fun i => (i.zero, i.size, i.bytes)) = some (some (.int .i64 0), 1, 8) := by kernel_rfl
theorem sort_then (g n c base : Nat) (zs : List Int) (w : World) (hown : w.ownsRow base 3 1 (.slice (some ⟨g, 0, none⟩) n c) n (zs.map (Value.int .i64))) (hn : n ≤ 20) (h0 : 0 < n) (hb : base ≤ w.heap.size) :
    Calls Try.prog 60 #[.slice (some ⟨g, 0, none⟩) n c] w fun e w' => e = .returned (.tuple #[]) ∧ w'.ownsRow base 3 1 (.slice (some ⟨g, 0, none⟩) n c) n ((zs.mergeSort fun x y => decide (x ≤ y)).map (Value.int .i64)) ∧ Below base w w' := by
  obtain ⟨g', c', e0, hbg, hlt, hcap, hm, hl, hH⟩ := Lib.holds_of_ownsRow hown (by simp)
  injection e0 with e1 _ e3
  injection e1 with e1
  injection e1 with e1
  subst e1; subst e3
  obtain rfl := hl
  refine (Try.slices_Sort_int g 0 c zs w hH hlt (by omega)).mono ?_
  rintro e w' ⟨he, k, os, rfl⟩
  have hperm := List.length_mergeSort (le := fun x y : Int => decide (x ≤ y)) zs
  have h1 := Lib.ownsRow_putRow (q := k) (k := zs.length) (ys := zs.mergeSort fun x y => decide (x ≤ y)) hown hperm (Nat.le_refl _)
  rw [List.take_of_length_le (by omega)] at h1
  refine ⟨he, ownsRow_grow h1, below_grow (Lib.below_putRow (Below.refl _ _) hbg) ?_⟩
  simp [putRow, Go.Sort.mapBlock, Go.Sort.ahead]
  omega
theorem compact_len (zs : List Int) : (Lib.compact zs).length ≤ zs.length := by
  unfold Lib.compact Lib.compactUpTo
  rw [List.length_map]
  exact Nat.le_trans (List.length_filter_le _ _) (by simp)
theorem compact_then (g n c base : Nat) (zs : List Int) (w : World) (hown : w.ownsRow base 3 1 (.slice (some ⟨g, 0, none⟩) n c) n (zs.map (Value.int .i64))) (hn : n ≤ 20) :
    Calls Try.prog 61 #[.slice (some ⟨g, 0, none⟩) n c] w fun e w' => e = .returned (.slice (some ⟨g, 0, none⟩) (Lib.compact zs).length c) ∧ (Lib.compact zs).length ≤ c ∧ Own w' g (Lib.compact zs).length (intsF (Lib.compact zs)) ∧ Below base w w' := by
  obtain ⟨g', c', e0, hbg, hlt, hcap, hm, hl, hH⟩ := Lib.holds_of_ownsRow hown (by simp)
  injection e0 with e1 _ e3
  injection e1 with e1
  injection e1 with e1
  subst e1; subst e3
  obtain rfl := hl
  have hle := compact_len zs
  refine (Try.slices_Compact_int g 0 c zs w hH (by omega) hcap).mono ?_
  rintro e w' ⟨he, q, rfl⟩
  have h1 := Lib.ownsRow_putRow (q := q) (k := (Lib.compact zs).length) (ys := Lib.compact zs ++ List.replicate (zs.length - (Lib.compact zs).length) 0) hown (by simp; omega) hle
  rw [List.take_left'  rfl] at h1
  exact ⟨he, by omega, own_ints h1 rfl, Lib.below_putRow (Below.refl _ _) hbg⟩
set_option maxHeartbeats 2000000 in
theorem bends_any (g c n : Nat) (f : Nat → Nat → Int) (w : World) (hn : n ≤ 13) (hown : OwnCurveS w g n f) :
    Calls Try.prog 54 #[.slice (some ⟨g, 0, none⟩) n c] w (TimesOut w (times ([0, 100000] ++ lens f n))) := by
  obtain ⟨i0, hi, hz0, hz1, hz2⟩ := info_parts info_int
  have HC := Lib.hid hown
  clear hown
  go_enter Try.func54, Try.ntmps54
  go_wp2
  go_loopw [3, 9] (fun sv i wr => ∃ k : Nat, k ≤ n ∧ i = .int .i64 k ∧ wr.ownsRow w.heap.size 3 1 sv (k + 2) (([0, 100000] ++ lens f k).map (Value.int .i64)) ∧ Below w.heap.size w wr) (fun _ i _ => n - (intOf i).toNat)
  case atStart => exact ⟨0, Nat.zero_le _, rfl, World.ownsRow_lit w #[.int .i64 0, .int .i64 100000] 2 (Nat.le_refl _) (by unfold maxLen; omega) rfl, belAlloc (Below.refl _ _) _⟩
  case round =>
    obtain ⟨k, hk, rfl, hown, hb⟩ := hrel
    have HB := Lib.hid hb
    have HO := Lib.hid hown
    have hsz := hb.size
    clear hb hown
    by_cases hlt : k < n
    · obtain ⟨hw0, hw1, hw2⟩ := (HC.out.later HB.out).at_ hlt
      have hgl : g < wr.heap.size := Nat.lt_of_lt_of_le HC.out.1 HB.out.size
      go_wp2_with (at_builtin; refine wpList_append_own _ rfl _ _ 56 rfl w.heap.size 3 i0 (.int .i64 0) 1 8 Try.underlying56 hi hz0 hz1 hz2 rfl (by decide) _ _ _ rfl ((HO.out.alloc _).alloc _) ⟨wr.heap.size + 1, 0, none⟩ 1 1 [.int .i64 (f k 1)] rfl rfl ?c1 ?c2 ?c3 ?c4 ?c5 ?_)
      case c1 => exact news_at (wr.alloc _) _ _ _ (by simp)
      case c2 => intro u hu; simp at hu; subst hu; rfl
      case c3 => unfold maxLen; omega
      case c4 => omega
      case c5 => simp; omega
      intro v' w1 hown' hg hne
      have HO' : Hid (w1.ownsRow w.heap.size 3 1 v' (k + 1 + 2) (([0, 100000] ++ lens f (k + 1)).map (Value.int .i64))) := by
        show World.ownsRow _ _ _ _ _ _ _
        rw [lens_snoc, ← List.append_assoc, List.map_append]
        exact hown'
      have HB' := Lib.hid (((HB.out.alloc hsz _).alloc (by simp; omega) _).grown hg (by simp; omega) (fun x hx => (HO.out.lt x hx).1))
      clear hown' hg hne
      go_wp2
      go_roundw
      case rel => exact ⟨k + 1, by omega, by go_num, HO'.out, HB'.out⟩
      case measure => simp [intOf]; omega
    · obtain rfl : k = n := by omega
      obtain ⟨g', c', rfl, hbg, _, _, _, hl, _⟩ := Lib.holds_of_ownsRow HO.out (by intro e; rw [e] at HO; rcases HO.out.2 with ⟨_, h⟩ | ⟨_, _, _, h, _⟩ <;> simp at h)
      go_wp2_with fail
      refine (sort_then g' (k + 2) c' w.heap.size _ wr HO.out (by omega) (by omega) HB.out.size).mono ?_
      rintro e w1 ⟨rfl, hown1, hb1⟩
      have HO1 := Lib.hid hown1
      have HB1 := Lib.hid (HB.out.trans hb1)
      clear hown1 hb1 hl
      go_wp2_with fail
      refine (compact_then g' (k + 2) c' w.heap.size _ w1 HO1.out (by omega)).mono ?_
      rintro e w2 ⟨rfl, hcl, hown2, hb2⟩
      have HO2 := Lib.hid hown2
      have HB2 := Lib.hid (HB1.out.trans hb2)
      have HCL := Lib.hid hcl
      clear hown2 hb2 hcl
      go_wp2_with fail
      go_ret
      exact ⟨g', c', rfl, HCL.out, HO2.out, HB2.out⟩
end Go.Proofs.Ytnfkepngjbjeoaa
