/-
  PadTo, the program's (make and copy) and the reference's (append): both return the bytes and as few zeros as make a multiple; the walk of FnExactPadTo.
-/
import Derived.Test.YtfddfhobkfkmiaaIn
import Derived.Test.YtfddfhobkfkmiaaScBytes
import Derived.Test.YtfddfhobkfkmiaaByteS
import Derived.Test.YtfddfhobkfkmiaaSliceOut
import Derived.Test.YtfddfhobkfkmiaaAppendZeros
import Derived.Laws.CopyOwn
namespace Go.Proofs.Ytfddfhobkfkmiaa
open Go.RowKit
def padN (n d : Nat) : Nat := (n + d - 1) / d * d
def padf (f : Nat → Int) (n i : Nat) : Int := if i < n then f i else 0
theorem padN_bd (n d : Nat) (h1 : 1 ≤ d) (h2 : d ≤ 16) : n ≤ padN n d ∧ padN n d ≤ n + 15 := by
  unfold padN
  have h := Nat.div_add_mod (n + d - 1) d
  have h' := Nat.mod_lt (n + d - 1) (show 0 < d by omega)
  rw [Nat.mul_comm] at h
  omega
theorem padN_cast (n d : Nat) (h1 : 1 ≤ d) : ((n : Int) + d - 1) / d * d = (padN n d : Int) := by
  have h := Int.natCast_ediv (n + d - 1) d
  unfold padN
  rw [Int.natCast_mul, h, show ((n + d - 1 : Nat) : Int) = (n : Int) + d - 1 by omega]
theorem implAlignUp_in (n d : Nat) (w : World) (hn : n ≤ 4000) (h1 : 1 ≤ d) (h2 : d ≤ 16) :
    Calls Try.prog 16 #[.int .i64 n, .int .i64 d] w fun e w' => e = .returned (.tuple #[.int .i64 (padN n d), .bool true]) ∧ w = w' := by
  rw [← padN_cast n d h1]
  have e1 : decide ((n : Int) < 0) = false := decide_eq_false (by omega)
  have e2 : decide (1000000 < (n : Int)) = false := decide_eq_false (by omega)
  have e3 : decide ((d : Int) < 1) = false := decide_eq_false (by omega)
  have e4 : decide (16 < (d : Int)) = false := decide_eq_false (by omega)
  have hc := padN_cast n d h1
  have hb := padN_bd n d h1 h2
  have hm1 : 0 ≤ ((n : Int) + d - 1) / d * d := by omega
  have hm2 : ((n : Int) + d - 1) / d * d ≤ 5000 := by omega
  clear hc
  go_enter Try.func16, Try.ntmps16
  go_wp2
  go_ret2
  exact ⟨rfl, rfl⟩
theorem scAlign_in (n d : Nat) (w : World) (hn : n ≤ 4000) (h1 : 1 ≤ d) (h2 : d ≤ 16) :
    Calls Try.prog 44 #[.int .i64 n, .int .i64 d] w fun e w' => e = .returned (.int .i64 (padN n d)) ∧ w = w' := by
  rw [← padN_cast n d h1]
  have hc := padN_cast n d h1
  have hb := padN_bd n d h1 h2
  have hm1 : 0 ≤ ((n : Int) + d - 1) / d * d := by omega
  have hm2 : ((n : Int) + d - 1) / d * d ≤ 5000 := by omega
  clear hc
  go_enter Try.func44, Try.ntmps44
  go_wp2
  go_ret
  exact ⟨rfl, rfl⟩
theorem made_list (z : Value) (m : Nat) : madeCells #[z] m = (List.replicate m z).toArray := by
  apply Array.ext'
  apply List.ext_getElem
  · simp [madeCells]
  · intro i h1 h2
    simp [madeCells, Nat.mod_one]
theorem Own.of_heap {w : World} {g : Nat} {cs : Array Value} {t : TypeId} (h : w.heap[g]? = some (.cells cs t (0, 0))) {N : Nat} {F : Nat → Value} (hF : ∀ i, i < N → cs[i]? = some (F i)) : Own w g N F := by
  refine ⟨?_, fun i hi => ⟨(cell_of_row w g i cs t (0, 0) h).trans (hF i hi), by simp [World.frozen?, h]⟩⟩
  rcases Nat.lt_or_ge g w.heap.size with h1 | h1
  · exact h1
  · rw [Array.getElem?_eq_none h1] at h; cases h
theorem splice_pad (f : Nat → Int) (n N i : Nat) (hn : n ≤ N) (hi : i < N) : (splice (List.replicate N (.int .u8 0)) 0 ((List.range n).map fun i => Value.int .u8 (f i))).toArray[i]? = some (.int .u8 (padf f n i)) := by
  simp only [splice, List.take_zero, List.nil_append, Nat.zero_add, List.getElem?_toArray]
  unfold padf
  by_cases h : i < n
  · rw [List.getElem?_append_left (by simpa using h), if_pos h]
    simp [h]
  · rw [List.getElem?_append_right (by simp; omega), if_neg h, List.length_map, List.length_range, List.drop_replicate, List.getElem?_replicate, if_pos (by omega)]
set_option maxHeartbeats 400000 in
theorem implPadTo_in (g n c d : Nat) (f : Nat → Int) (w : World) (hn : n ≤ 4000) (h1 : 1 ≤ d) (h2 : d ≤ 16) (hN : padN n d ≤ 4000) (hown : Own w g n fun i => .int .u8 (f i)) :
    Calls Try.prog 38 #[.slice (some ⟨g, 0, none⟩) n c, .int .i64 d] w fun e w' => SliceOut w (padN n d) (fun i => .int .u8 (padf f n i)) true e w' := by
  have hb := padN_bd n d h1 h2
  have HA := Lib.hid (implAlignUp_in n d w hn h1 h2)
  have HPF : Hid (padf f n = fun i => if i < n then f i else 0) := rfl
  have hmk := run_make_row' (P := Try.prog) 30 5 (.int .u8 0) 1 Try.underlying30 infoByteS rfl .i64 .i64 (padN n d) (by omega) (by omega)
  generalize padf f n = pf at *
  generalize padN n d = N at *
  have HC := Lib.hid hown
  clear hown
  have e0 : decide (4000 < (n : Int)) = false := decide_eq_false (by omega)
  have e3 : decide ((d : Int) < 1) = false := decide_eq_false (by omega)
  have e4 : decide (16 < (d : Int)) = false := decide_eq_false (by omega)
  have e5 : decide (4000 < (N : Int)) = false := decide_eq_false (by omega)
  go_enter Try.func38, Try.ntmps38
  go_wp2_with (first | (go_at_call 16; refine HA.out.mono ?_; rintro e w1 ⟨rfl, rfl⟩) | (with_reducible refine wpList_copy_splice rfl _ _ 30 30 rfl 5 Try.underlying30 (by kernel_rfl) (some ⟨w.heap.size, 0, none⟩) (some ⟨g, 0, none⟩) N N n c rfl rfl w.heap.size 0 (List.replicate N (.int .u8 0)) 5 ?k1 ((List.range n).map fun i => .int .u8 (f i)) ?k2 ?k3 ?k4 ?k5 w.heap.size w ?k6 (Nat.le_refl _) ?_))
  case k1 => exact (heap_alloc_new w _).trans (by rw [made_list])
  case k2 => rw [List.length_map, List.length_range]; exact (Nat.min_eq_left hb.1).symm
  case k3 =>
    intro hp j a hj
    have hj' : j < n := by have := (List.getElem?_eq_some_iff.1 hj).1; simpa using this
    have ha : a = j := by rw [List.getElem?_range hj'] at hj; exact (Option.some.inj hj).symm
    rw [ha]
    exact (((Below.refl w.heap.size w).alloc (Nat.le_refl _) _).cell (p := ⟨g, j, none⟩) HC.out.1).trans (HC.out.cell hj')
  case k4 => simp; omega
  case k5 => intro v hv; simp at hv; obtain ⟨_, _, rfl⟩ := hv; rfl
  case k6 => exact (Below.refl _ _).alloc (Nat.le_refl _) _
  intro w' hh hb'
  have HB := Lib.hid hb'
  clear hb' hmk
  go_wp2
  go_ret2
  refine ⟨_, _, rfl, fun _ => ⟨w.heap.size, rfl, Nat.le_refl _, Own.of_heap hh.out fun i hi => ?_⟩, HB.out⟩
  rw [HPF.out]
  exact splice_pad f n N i hb.1 hi
set_option maxHeartbeats 1000000 in
theorem scPad_in (g n c d : Nat) (f : Nat → Int) (w : World) (hn : n ≤ 4000) (h1 : 1 ≤ d) (h2 : d ≤ 16) (_hN : padN n d ≤ 4000) (hown : Own w g n fun i => .int .u8 (f i)) :
    Calls Try.prog 60 #[.slice (some ⟨g, 0, none⟩) n c, .int .i64 d] w fun e w' => (∃ sv, e = .returned sv ∧ Grows w' w.heap.size 5 sv (padN n d) (fun i => .int .u8 (padf f n i))) ∧ Below w.heap.size w w' := by
  obtain ⟨i0, hi, hz0, hz1, hz2⟩ := info_parts infoByteS
  have hb := padN_bd n d h1 h2
  have HA := Lib.hid (fun W => scAlign_in n d W hn h1 h2)
  have HC := Lib.hid hown
  have h63 : 0 + n ≤ maxLen := by unfold maxLen; omega
  have hby : (0 + n) * 1 ≤ 140737488355328 := by omega
  clear hown
  generalize padN n d = N at *
  go_enter Try.func60, Try.ntmps60
  go_wp2_with (at_builtin; refine wpList_append_own _ rfl (.tmp 6) (.tmp 7) 30 rfl w.heap.size 5 i0 (.int .u8 0) 1 1 Try.underlying30 hi hz0 hz1 hz2 rfl (by decide) _ 0 [] rfl (World.ownsRow_made w #[] 0 (Nat.le_refl _) (Nat.zero_le _) rfl) ⟨g, 0, none⟩ n c ((List.range n).map fun i => .int .u8 (f i)) rfl ?c1 ?c2 ?c3 h63 hby ?c4 ?_)
  case c1 => simp
  case c2 =>
    intro j u hj
    have hj' : j < n := by have := (List.getElem?_eq_some_iff.1 hj).1; simpa using this
    have hu : u = .int .u8 (f j) := by simp [hj'] at hj; exact hj.symm
    have e1 : (⟨g, 0, none⟩ : Addr).add j = ⟨g, j, none⟩ := by unfold Addr.add; split <;> simp_all
    rw [hu, e1]
    exact (((Below.refl w.heap.size w).alloc (Nat.le_refl _) _).cell (p := ⟨g, j, none⟩) HC.out.1).trans (HC.out.cell hj')
  case c3 => intro v hv; simp at hv; obtain ⟨_, _, rfl⟩ := hv; rfl
  case c4 => simp
  intro v1 w1 hown1 hg1 hne1
  have hB1 : Below w.heap.size w w1 := ((Below.refl w.heap.size w).alloc (Nat.le_refl _) _).grown hg1 (by simp) (fun k hk => by simp [Value.ownBlock] at hk; omega)
  have hform : ∃ g1 cap1, v1 = .slice (some ⟨g1, 0, none⟩) n cap1 ∧ w.heap.size ≤ g1 := by
    rcases hown1.2 with ⟨hv, _⟩ | ⟨g1, cap1, _, hv, hge, _⟩
    · exact absurd hv hne1
    · exact ⟨g1, cap1, hv, hge⟩
  obtain ⟨g1, cap1, rfl, hg1'⟩ := hform
  have HO := Lib.hid hown1
  have HB := Lib.hid hB1
  have hsz := hB1.size
  have h63b : n + (N - n) ≤ maxLen := by unfold maxLen; omega
  have hbyb : (n + (N - n)) * 1 ≤ 140737488355328 := by omega
  have HZ : Hid (((List.range n).map fun i => Value.int .u8 (f i)) ++ List.replicate (N - n) (.int .u8 0) = (List.range N).map fun i => .int .u8 (padf f n i)) := by
    show _ = _
    apply List.ext_getElem
    · simp; omega
    · intro i h1 h2
      by_cases h : i < n
      · rw [List.getElem_append_left (by simpa using h)]; simp [padf, h]
      · rw [List.getElem_append_right (by simp; omega)]; simp [padf, h]
  clear hown1 hg1 hne1 hB1
  go_wp2_with (first | (go_at_call 44; refine (HA.out _).mono ?_; rintro e w2 ⟨rfl, rfl⟩) | (at_builtin; refine wpList_append_zeros _ rfl (.tmp 9) (.tmp 16) 30 3 rfl w.heap.size 5 i0 (.int .u8 0) 1 .i64 Try.underlying30 Try.underlying3 hi hz0 hz1 hz2 rfl rfl g1 n cap1 _ HO.out (N - n) h63b hbyb hsz rfl ?c5 ?_))
  case c5 => show Value.int _ _ = _; congr 1; omega
  intro v2 w2 hown2 hg2
  rw [HZ.out] at hown2
  have HO2 := Lib.hid (show Grows w2 w.heap.size 5 v2 N (fun i => .int .u8 (padf f n i)) from hown2)
  have HB2 := Lib.hid (HB.out.grown hg2 hsz (fun k hk => by cases hk; exact hg1'))
  clear hown2 hg2
  go_wp2
  go_ret
  exact ⟨⟨v2, rfl, HO2.out⟩, HB2.out⟩
def pdOk (n : Nat) (d : Int) : Bool := decide (n ≤ 4000 ∧ 1 ≤ d ∧ d ≤ 16 ∧ padN n d.toNat ≤ 4000)
def pdM (n : Nat) (d : Int) : Nat := if pdOk n d then padN n d.toNat else 0
theorem pd_yes {n : Nat} {d : Int} (h : n ≤ 4000 ∧ 1 ≤ d ∧ d ≤ 16 ∧ padN n d.toNat ≤ 4000) : pdOk n d = true ∧ pdM n d = padN n d.toNat := by
  have : pdOk n d = true := decide_eq_true h
  exact ⟨this, by rw [pdM, if_pos this]⟩
theorem pd_no {n : Nat} {d : Int} (h : ¬ (n ≤ 4000 ∧ 1 ≤ d ∧ d ≤ 16 ∧ padN n d.toNat ≤ 4000)) : pdOk n d = false ∧ pdM n d = 0 := by
  have : pdOk n d = false := decide_eq_false h
  exact ⟨this, by rw [pdM, if_neg (by simp [this])]⟩
theorem pdM_le (n : Nat) (d : Int) : pdM n d ≤ 4000 := by
  unfold pdM pdOk
  split
  · rename_i h
    have := of_decide_eq_true h
    omega
  · omega
set_option maxHeartbeats 1000000 in
theorem implPadTo_any (g c n : Nat) (d : Int) (f : Nat → Int) (w : World) (_hf : ∀ i, 0 ≤ f i ∧ f i ≤ 255) (hn : n ≤ 1048576) (hown : Own w g n fun i => .int .u8 (f i)) :
    Calls Try.prog 38 #[.slice (some ⟨g, 0, none⟩) n c, .int .i64 d] w fun e w' => SliceOut w (pdM n d) (fun i => .int .u8 (padf f n i)) (pdOk n d) e w' := by
  by_cases hok : n ≤ 4000 ∧ 1 ≤ d ∧ d ≤ 16 ∧ padN n d.toNat ≤ 4000
  · rw [(pd_yes hok).1, (pd_yes hok).2]
    obtain ⟨y, rfl⟩ := Int.eq_ofNat_of_zero_le (show 0 ≤ d by omega)
    rw [Int.toNat_natCast] at hok ⊢
    exact implPadTo_in g n c y f w hok.1 (by omega) (by omega) hok.2.2.2 hown
  · rw [(pd_no hok).1, (pd_no hok).2]
    clear hown _hf
    have hcases : 4000 < (n : Int) ∨ ((n : Int) ≤ 4000 ∧ d < 1) ∨ ((n : Int) ≤ 4000 ∧ 1 ≤ d ∧ 16 < d) ∨ (n ≤ 4000 ∧ 1 ≤ d ∧ d ≤ 16 ∧ 4000 < padN n d.toNat) := by omega
    clear hok
    rcases hcases with h | ⟨h1, h⟩ | ⟨h1, h2, h⟩ | ⟨h1, h2, h3, h⟩
    · go_enter Try.func38, Try.ntmps38
      go_wp2
      go_ret2
      exact SliceOut.none_ _ _
    · go_enter Try.func38, Try.ntmps38
      go_wp2
      go_ret2
      exact SliceOut.none_ _ _
    · go_enter Try.func38, Try.ntmps38
      go_wp2
      go_ret2
      exact SliceOut.none_ _ _
    · obtain ⟨y, rfl⟩ := Int.eq_ofNat_of_zero_le (show 0 ≤ d by omega)
      rw [Int.toNat_natCast] at h
      have HA := Lib.hid (implAlignUp_in n y w h1 (by omega) (by omega))
      have hb := padN_bd n y (by omega) (by omega)
      have e0 : decide (4000 < (n : Int)) = false := decide_eq_false (by omega)
      have e3 : decide ((y : Int) < 1) = false := decide_eq_false (by omega)
      have e4 : decide (16 < (y : Int)) = false := decide_eq_false (by omega)
      generalize padN n y = N at *
      go_enter Try.func38, Try.ntmps38
      go_wp2_with (go_at_call 16; refine HA.out.mono ?_; rintro e w1 ⟨rfl, rfl⟩)
      go_ret2
      exact SliceOut.none_ _ _
set_option maxHeartbeats 1000000 in
theorem specPadTo_any (g c n : Nat) (d : Int) (f : Nat → Int) (w : World) (_hf : ∀ i, 0 ≤ f i ∧ f i ≤ 255) (hn : n ≤ 1048576) (hown : Own w g n fun i => .int .u8 (f i)) :
    Calls Try.prog 37 #[.slice (some ⟨g, 0, none⟩) n c, .int .i64 d] w fun e w' => SliceOut w (pdM n d) (fun i => .int .u8 (padf f n i)) (pdOk n d) e w' := by
  by_cases hok : n ≤ 4000 ∧ 1 ≤ d ∧ d ≤ 16 ∧ padN n d.toNat ≤ 4000
  · rw [(pd_yes hok).1, (pd_yes hok).2]
    obtain ⟨y, rfl⟩ := Int.eq_ofNat_of_zero_le (show 0 ≤ d by omega)
    rw [Int.toNat_natCast] at hok ⊢
    obtain ⟨k1, k2, k3, k4⟩ := hok
    have HA := Lib.hid (fun W => scAlign_in n y W k1 (by omega) (by omega))
    have HP := Lib.hid (scPad_in g n c y f w k1 (by omega) (by omega) k4 hown)
    clear hown _hf
    generalize padN n y = N at *
    go_enter Try.func37, Try.ntmps37
    go_wp2_with (first | (go_at_call 43; refine (l1In_yes _ _ _ _ (by omega) (by omega)).mono ?_; rintro e w1 ⟨rfl, rfl⟩) | (go_at_call 43; refine (l1In_no _ _ _ _ (by omega)).mono ?_; rintro e w1 ⟨rfl, rfl⟩) | (go_at_call 46; refine (scBytes_yes _ _ (by omega)).mono ?_; rintro e w1 ⟨rfl, rfl⟩) | (go_at_call 46; refine (scBytes_no _ _ (by omega)).mono ?_; rintro e w1 ⟨rfl, rfl⟩) | (go_at_call 44; refine (HA.out _).mono ?_; rintro e w1 ⟨rfl, rfl⟩) | (go_at_call 60; refine HP.out.mono ?_; rintro e w1 ⟨⟨sv, rfl, hg⟩, hb⟩))
    have HG := Lib.hid hg
    have HB := Lib.hid hb
    clear hg hb
    go_wp2
    go_ret2
    obtain ⟨A, c, rfl, hA⟩ := HG.out.form
    exact ⟨A, c, rfl, hA, HB.out⟩
  · rw [(pd_no hok).1, (pd_no hok).2]
    clear hown _hf
    have hcases : 4000 < (n : Int) ∨ ((n : Int) ≤ 4000 ∧ (d < 1 ∨ 16 < d)) ∨ (n ≤ 4000 ∧ 1 ≤ d ∧ d ≤ 16 ∧ 4000 < padN n d.toNat) := by omega
    clear hok
    rcases hcases with h | ⟨h1, h⟩ | ⟨h1, h2, h3, h⟩
    · go_enter Try.func37, Try.ntmps37
      go_wp2_with (first | (go_at_call 46; refine (scBytes_yes _ _ (by omega)).mono ?_; rintro e w1 ⟨rfl, rfl⟩) | (go_at_call 46; refine (scBytes_no _ _ (by omega)).mono ?_; rintro e w1 ⟨rfl, rfl⟩))
      go_ret2
      exact SliceOut.none_ _ _
    · go_enter Try.func37, Try.ntmps37
      go_wp2_with (first | (go_at_call 43; refine (l1In_yes _ _ _ _ (by omega) (by omega)).mono ?_; rintro e w1 ⟨rfl, rfl⟩) | (go_at_call 43; refine (l1In_no _ _ _ _ (by omega)).mono ?_; rintro e w1 ⟨rfl, rfl⟩) | (go_at_call 46; refine (scBytes_yes _ _ (by omega)).mono ?_; rintro e w1 ⟨rfl, rfl⟩) | (go_at_call 46; refine (scBytes_no _ _ (by omega)).mono ?_; rintro e w1 ⟨rfl, rfl⟩))
      go_ret2
      exact SliceOut.none_ _ _
    · obtain ⟨y, rfl⟩ := Int.eq_ofNat_of_zero_le (show 0 ≤ d by omega)
      rw [Int.toNat_natCast] at h
      have HA := Lib.hid (fun W => scAlign_in n y W h1 (by omega) (by omega))
      have hb := padN_bd n y (by omega) (by omega)
      generalize padN n y = N at *
      go_enter Try.func37, Try.ntmps37
      go_wp2_with (first | (go_at_call 43; refine (l1In_yes _ _ _ _ (by omega) (by omega)).mono ?_; rintro e w1 ⟨rfl, rfl⟩) | (go_at_call 43; refine (l1In_no _ _ _ _ (by omega)).mono ?_; rintro e w1 ⟨rfl, rfl⟩) | (go_at_call 46; refine (scBytes_yes _ _ (by omega)).mono ?_; rintro e w1 ⟨rfl, rfl⟩) | (go_at_call 46; refine (scBytes_no _ _ (by omega)).mono ?_; rintro e w1 ⟨rfl, rfl⟩) | (go_at_call 44; refine (HA.out _).mono ?_; rintro e w1 ⟨rfl, rfl⟩))
      go_ret2
      exact SliceOut.none_ _ _
set_option maxHeartbeats 4000000 in
theorem fnExactPadTo_walk (w : World) (A : Option Addr) (n c : Nat) (f : Nat → Int) (hf : ∀ i, 0 ≤ f i ∧ f i ≤ 255) (hn : n ≤ maxLen) (hr : Row w w.heap.size A n fun i => .int .u8 (f i)) (d : Int) (_ : -9223372036854775808 ≤ d) (_ : d ≤ 9223372036854775807) :
    Calls Try.prog 12 #[.slice A n c, .int .i64 d] w fun e w' => e = .returned (.bool true) ∧ Below w.heap.size w w' := by
  unfold maxLen at hn
  have HF := Lib.hid hf
  have HR := Lib.hid hr
  clear hf hr
  by_cases hbig : 1048576 < (n : Int)
  · go_enter Try.func12, Try.ntmps12
    go_wp2
    go_ret
    exact ⟨rfl, Below.refl _ _⟩
  have hM : pdM n d ≤ 1048576 := by have := pdM_le n d; omega
  have hS : ∀ (g c : Nat) (W : World), Own W g n (fun i => .int .u8 (f i)) → Calls Try.prog 37 #[.slice (some ⟨g, 0, none⟩) n c, .int .i64 d] W fun e w' => SliceOut W (pdM n d) (fun i => .int .u8 (padf f n i)) (pdOk n d) e w' := fun g c W ho => specPadTo_any g c n _ f W HF.out (by omega) ho
  have hI : ∀ (g c : Nat) (W : World), Own W g n (fun i => .int .u8 (f i)) → Calls Try.prog 38 #[.slice (some ⟨g, 0, none⟩) n c, .int .i64 d] W fun e w' => SliceOut W (pdM n d) (fun i => .int .u8 (padf f n i)) (pdOk n d) e w' := fun g c W ho => implPadTo_any g c n _ f W HF.out (by omega) ho
  generalize pdM n d = M at hM hS hI
  generalize pdOk n d = ok at hS hI
  generalize padf f n = bf at hS hI
  have HS := Lib.hid hS
  have HI := Lib.hid hI
  clear hS hI
  go_enter Try.func12, Try.ntmps12
  go_wp2_with fail
  refine (toByteS_any A n c f _ (by omega) HR.out).mono ?_
  rintro e w1 ⟨rfl, hr1, hb1⟩
  have O1 := Lib.hid (Own.of_row hr1)
  have B1 := Lib.hid hb1
  clear hr1 hb1
  rcases Nat.eq_zero_or_pos M with rfl | hm
  · go_wp2_with fail
    refine ((HS.out _ _ _ O1.out).mono fun _ _ h => h.zero_).mono ?_
    rintro e w2 ⟨A1, c1, rfl, hb2⟩
    have B2 := Lib.hid (B1.out.trans (hb2.mono B1.out.size))
    clear hb2 O1
    go_wp2_with fail
    refine (toByteS_any A n c f _ (by omega) ((HR.out.below B2.out).more B2.out.size)).mono ?_
    rintro e w3 ⟨rfl, hr2, hb3⟩
    have O2 := Lib.hid (Own.of_row hr2)
    have B3 := Lib.hid (B2.out.trans (hb3.mono B2.out.size))
    have hgX : w.heap.size ≤ w2.heap.size := B2.out.size
    clear hr2 hb3
    go_wp2_with fail
    refine ((HI.out _ _ _ O2.out).mono fun _ _ h => h.zero_).mono ?_
    rintro e w4 ⟨A2, c2, rfl, hb4⟩
    have O2 := Lib.hid (O2.out.later hb4)
    have B4 := Lib.hid (B3.out.trans (hb4.mono B3.out.size))
    clear hb4
    go_wp2_with fail
    refine (eqByteS_any A2 A1 c2 c1 0 (fun _ => 0) 0 0 _ (by omega) (fun h => absurd h (by omega)) (fun h => absurd h (by omega))).mono ?_
    rintro e w5 ⟨rfl, hb5⟩
    have O2 := Lib.hid (O2.out.later hb5)
    have B5 := Lib.hid (B4.out.trans (hb5.mono B4.out.size))
    clear hb5
    go_wp2_with fail
    refine (toByteS_any A n c f _ (by omega) ((HR.out.below B5.out).more B5.out.size)).mono ?_
    rintro e w6 ⟨rfl, hr3, hb6⟩
    have O3 := Lib.hid (Own.of_row hr3)
    have O2 := Lib.hid (O2.out.later hb6)
    have B6 := Lib.hid (B5.out.trans (hb6.mono B5.out.size))
    clear hr3 hb6
    go_wp2_with fail
    refine (eqByteS_any _ _ _ _ n f _ _ _ (by omega) O2.out.row O3.out.row).mono ?_
    rintro e w7 ⟨rfl, hb7⟩
    have O2 := Lib.hid (O2.out.later hb7)
    have B7 := Lib.hid (B6.out.trans (hb7.mono B6.out.size))
    clear hb7 O3
    go_wp2_with fail
    refine (markByteS_own _ n _ f _ (by omega) O2.out).mono ?_
    rintro e w8 ⟨rfl, ho8, hb8, hs8, ht8⟩
    have B8 := Lib.hid (B7.out.trans (hb8 _ hgX))
    clear ho8 hb8 hs8 ht8 O2
    go_wp2_with fail
    refine (eqByteS_any A2 A1 c2 c1 0 (fun _ => 0) 0 0 _ (by omega) (fun h => absurd h (by omega)) (fun h => absurd h (by omega))).mono ?_
    rintro e w9 ⟨rfl, hb9⟩
    have B9 := Lib.hid (B8.out.trans (hb9.mono B8.out.size))
    clear hb9
    go_wp2_with fail
    refine (markByteS_none A2 c2 _).mono ?_
    rintro e w10 ⟨rfl, rfl⟩
    go_wp2_with fail
    refine (heldByteS_none A2 c2 _).mono ?_
    rintro e w10 ⟨rfl, rfl⟩
    go_wp2_with fail
    refine (toByteS_any A n c f _ (by omega) ((HR.out.below B9.out).more B9.out.size)).mono ?_
    rintro e w11 ⟨rfl, hr4, hb11⟩
    have O4 := Lib.hid (Own.of_row hr4)
    have B11 := Lib.hid (B9.out.trans (hb11.mono B9.out.size))
    clear hr4 hb11
    go_wp2_with fail
    refine ((HI.out _ _ _ O4.out).mono fun _ _ h => h.zero_).mono ?_
    rintro e w12 ⟨A4, c4, rfl, hb12⟩
    have B12 := Lib.hid (B11.out.trans (hb12.mono B11.out.size))
    clear hb12
    go_wp2_with fail
    refine (eqByteS_any A4 A1 c4 c1 0 (fun _ => 0) 0 0 _ (by omega) (fun h => absurd h (by omega)) (fun h => absurd h (by omega))).mono ?_
    rintro e w13 ⟨rfl, hb13⟩
    have B13 := Lib.hid (B12.out.trans (hb13.mono B12.out.size))
    clear hb13
    go_wp2_with fail
    refine (heldByteS_none A2 c2 _).mono ?_
    rintro e w14 ⟨rfl, rfl⟩
    go_wp2_with fail
    go_ret
    exact ⟨rfl, B13.out⟩
  · go_wp2_with fail
    refine ((HS.out _ _ _ O1.out).mono fun _ _ h => h.some_ hm).mono ?_
    rintro e w2 ⟨gS, c1, rfl, hgS, hoS, hb2⟩
    have OS := Lib.hid hoS
    have B2 := Lib.hid (B1.out.trans (hb2.mono B1.out.size))
    clear hb2 hoS O1
    go_wp2_with fail
    refine (toByteS_any A n c f _ (by omega) ((HR.out.below B2.out).more B2.out.size)).mono ?_
    rintro e w3 ⟨rfl, hr2, hb3⟩
    have O2 := Lib.hid (Own.of_row hr2)
    have hneSX : gS ≠ w2.heap.size := Nat.ne_of_lt OS.out.1
    have HSX := Lib.hid hneSX
    have OS := Lib.hid (OS.out.later hb3)
    have B3 := Lib.hid (B2.out.trans (hb3.mono B2.out.size))
    have hgX : w.heap.size ≤ w2.heap.size := B2.out.size
    clear hr2 hb3 hneSX
    go_wp2_with fail
    refine ((HI.out _ _ _ O2.out).mono fun _ _ h => h.some_ hm).mono ?_
    rintro e w4 ⟨gG, c2, rfl, hgG, hoG, hb4⟩
    have OG := Lib.hid hoG
    have hneGX : gG ≠ w2.heap.size := by have := O2.out.1; omega
    have HGX := Lib.hid hneGX
    have hneSG : gS ≠ gG := by have := OS.out.1; omega
    have HSG := Lib.hid hneSG
    have hgB : w.heap.size ≤ gG := Nat.le_trans B3.out.size hgG
    have O2 := Lib.hid (O2.out.later hb4)
    have OS := Lib.hid (OS.out.later hb4)
    have B4 := Lib.hid (B3.out.trans (hb4.mono B3.out.size))
    clear hb4 hoG hneGX hneSG
    go_wp2_with fail
    refine (eqByteS_any _ _ c2 c1 M bf _ _ _ hM OG.out.row OS.out.row).mono ?_
    rintro e w5 ⟨rfl, hb5⟩
    have O2 := Lib.hid (O2.out.later hb5)
    have OS := Lib.hid (OS.out.later hb5)
    have OG := Lib.hid (OG.out.later hb5)
    have B5 := Lib.hid (B4.out.trans (hb5.mono B4.out.size))
    clear hb5
    go_wp2_with fail
    refine (toByteS_any A n c f _ (by omega) ((HR.out.below B5.out).more B5.out.size)).mono ?_
    rintro e w6 ⟨rfl, hr3, hb6⟩
    have O3 := Lib.hid (Own.of_row hr3)
    have O2 := Lib.hid (O2.out.later hb6)
    have OS := Lib.hid (OS.out.later hb6)
    have OG := Lib.hid (OG.out.later hb6)
    have B6 := Lib.hid (B5.out.trans (hb6.mono B5.out.size))
    clear hr3 hb6
    go_wp2_with fail
    refine (eqByteS_any _ _ _ _ n f _ _ _ (by omega) O2.out.row O3.out.row).mono ?_
    rintro e w7 ⟨rfl, hb7⟩
    have O2 := Lib.hid (O2.out.later hb7)
    have OS := Lib.hid (OS.out.later hb7)
    have OG := Lib.hid (OG.out.later hb7)
    have B7 := Lib.hid (B6.out.trans (hb7.mono B6.out.size))
    clear hb7 O3
    go_wp2_with fail
    refine (markByteS_own _ n _ f _ (by omega) O2.out).mono ?_
    rintro e w8 ⟨rfl, ho8, hb8, hs8, ht8⟩
    have OS := Lib.hid (OS.out.other hs8 (ht8 _ HSX.out))
    have OG := Lib.hid (OG.out.other hs8 (ht8 _ HGX.out))
    have B8 := Lib.hid (B7.out.trans (hb8 _ hgX))
    clear ho8 hb8 hs8 ht8 O2
    go_wp2_with fail
    refine (eqByteS_any _ _ c2 c1 M bf _ _ _ hM OG.out.row OS.out.row).mono ?_
    rintro e w9 ⟨rfl, hb9⟩
    have OS := Lib.hid (OS.out.later hb9)
    have OG := Lib.hid (OG.out.later hb9)
    have B9 := Lib.hid (B8.out.trans (hb9.mono B8.out.size))
    clear hb9
    go_wp2_with fail
    refine (markByteS_own gG M c2 bf _ hM OG.out).mono ?_
    rintro e w10 ⟨rfl, ho10, hb10, hs10, ht10⟩
    have OS := Lib.hid (OS.out.other hs10 (ht10 _ HSG.out))
    have OG := Lib.hid ho10
    have B10 := Lib.hid (B9.out.trans (hb10 _ hgB))
    clear ho10 hb10 hs10 ht10
    go_wp2_with fail
    refine (heldByteS_own gG M c2 _ _ hM OG.out).mono ?_
    rintro e w11 ⟨rfl, rfl⟩
    go_wp2_with fail
    refine (toByteS_any A n c f _ (by omega) ((HR.out.below B10.out).more B10.out.size)).mono ?_
    rintro e w11 ⟨rfl, hr4, hb11⟩
    have O4 := Lib.hid (Own.of_row hr4)
    have OS := Lib.hid (OS.out.later hb11)
    have OG := Lib.hid (OG.out.later hb11)
    have B11 := Lib.hid (B10.out.trans (hb11.mono B10.out.size))
    clear hr4 hb11
    go_wp2_with fail
    refine ((HI.out _ _ _ O4.out).mono fun _ _ h => h.some_ hm).mono ?_
    rintro e w12 ⟨gH, c4, rfl, hgH, hoH, hb12⟩
    have OH := Lib.hid hoH
    have OS := Lib.hid (OS.out.later hb12)
    have OG := Lib.hid (OG.out.later hb12)
    have B12 := Lib.hid (B11.out.trans (hb12.mono B11.out.size))
    clear hb12 hoH O4
    go_wp2_with fail
    refine (eqByteS_any _ _ c4 c1 M bf _ _ _ hM OH.out.row OS.out.row).mono ?_
    rintro e w13 ⟨rfl, hb13⟩
    have OG := Lib.hid (OG.out.later hb13)
    have B13 := Lib.hid (B12.out.trans (hb13.mono B12.out.size))
    clear hb13
    go_wp2_with fail
    refine (heldByteS_own gG M c2 _ _ hM OG.out).mono ?_
    rintro e w14 ⟨rfl, rfl⟩
    go_wp2_with fail
    go_ret
    exact ⟨rfl, B13.out⟩
end Go.Proofs.Ytfddfhobkfkmiaa
