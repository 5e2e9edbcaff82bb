/-
  The reference's times: l1Put and cuTimes.
-/
import Derived.Test.YtnfkepngjbjeoaaBends
namespace Go.Proofs.Ytnfkepngjbjeoaa
open Go.RowKit
theorem addr_add (g j : Nat) : (⟨g, 0, none⟩ : Addr).add j = ⟨g, j, none⟩ := by unfold Addr.add; split <;> simp_all
theorem addr_add' (g k j : Nat) : (⟨g, k, none⟩ : Addr).add j = ⟨g, k + j, none⟩ := by unfold Addr.add; split <;> simp_all
def intVs (l : List Int) : List Value := l.map (Value.int .i64)
theorem intVs_len (l : List Int) : (intVs l).length = l.length := by simp [intVs]
theorem intVs_get {l : List Int} {j : Nat} {u : Value} (h : (intVs l)[j]? = some u) : j < l.length ∧ u = .int .i64 (l.getD j 0) := by
  have hj : j < l.length := by have := (List.getElem?_eq_some_iff.1 h).1; rwa [intVs_len] at this
  refine ⟨hj, ?_⟩
  rw [intVs, List.getElem?_map, List.getElem?_eq_getElem hj] at h
  rw [List.getD_eq_getElem?_getD, List.getElem?_eq_getElem hj]
  simpa using h.symm
theorem intVs_one {l : List Int} : ∀ v ∈ intVs l, v.oneCell' = true := by
  intro v hv
  simp only [intVs, List.mem_map] at hv
  obtain ⟨_, _, rfl⟩ := hv
  rfl
theorem getD_take {l : List Int} {k j : Nat} (h : j < k) : (l.take k).getD j 0 = l.getD j 0 := by
  rw [List.getD_eq_getElem?_getD, List.getElem?_take, if_pos h, List.getD_eq_getElem?_getD]
theorem getD_drop {l : List Int} {k j : Nat} : (l.drop k).getD j 0 = l.getD (k + j) 0 := by
  rw [List.getD_eq_getElem?_getD, List.getElem?_drop, List.getD_eq_getElem?_getD]
set_option maxHeartbeats 4000000 in
theorem l1Put_any (g c m : Nat) (zs : List Int) (x : Int) (w : World) (hm : zs.length = m) (h20 : m ≤ 20) (hc : m ≤ c) (hk0 : below x zs < m) (hown : Own w g m (intsF zs)) :
    Calls Try.prog 62 #[.slice (some ⟨g, 0, none⟩) m c, .int .i64 x] w (TimesOut w (put zs x)) := by
  obtain ⟨i0, hi, hz0, hz1, hz2⟩ := info_parts info_int
  have HC := Lib.hid hown
  have HM := Lib.hid hm
  have HK := Lib.hid (show below x zs < zs.length by omega)
  have hgl := hown.1
  clear hown hm
  obtain ⟨B, hB⟩ : ∃ B, below x zs = B := ⟨_, rfl⟩
  have HB := Lib.hid hB
  rw [hB] at hk0
  clear hB
  go_enter Try.func62, Try.ntmps62
  go_wp2
  go_loop [5] (fun i => ∃ k : Nat, k ≤ B ∧ i = .int .i64 k) (fun i => m - (intOf i).toNat)
  case atStart => exact ⟨0, Nat.zero_le _, rfl⟩
  case round =>
    obtain ⟨k, hk, rfl⟩ := hrel
    have hkm : k < m := by omega
    have hcell : w.cell? ⟨g, k, none⟩ = some (.int .i64 (zs.getD k 0)) := HC.out.cell hkm
    obtain ⟨z, hz⟩ : ∃ z, zs.getD k 0 = z := ⟨_, rfl⟩
    rw [hz] at hcell
    have HZ := Lib.hid hz
    clear hz
    by_cases hlt : k < B
    · have hzx : z < x := by
        have := below_lt x zs k (by rw [HB.out]; exact hlt)
        rwa [HZ.out] at this
      go_wp2
      go_round
      case rel => exact ⟨k + 1, by omega, by go_num⟩
      case measure => simp [intOf]; omega
    · obtain rfl : k = B := by omega
      have hzx : ¬ z < x := by
        have := below_at x zs HK.out
        rwa [HB.out, HZ.out] at this
      have hd : decide (z < x) = false := decide_eq_false hzx
      by_cases he : z = x
      · have e1 : (z == x) = true := by simpa using he
        have HE : Hid (put zs x = zs) := put_same HK.out (by rw [HB.out, HZ.out]; exact he)
        clear he
        go_wp2
        go_ret
        refine ⟨g, c, ?_, ?_, ?_, Below.refl _ _⟩
        · rw [HE.out, HM.out]; rfl
        · rw [HE.out, HM.out]; exact hc
        · rw [HE.out, HM.out]; exact HC.out
      · have e1 : (z == x) = false := by simpa using he
        have HE : Hid (put zs x = zs.take k ++ [x] ++ zs.drop k) := by
          have := put_new (by rw [HB.out, HZ.out]; exact he)
          rwa [HB.out] at this
        clear he
        have h63 : 0 + k ≤ maxLen := by unfold maxLen; omega
        have hby : (0 + k) * 8 ≤ 140737488355328 := by omega
        go_wp2_with (at_builtin; refine wpList_append_own _ rfl (.tmp 34) (.tmp 37) 56 rfl w.heap.size 3 i0 (.int .i64 0) 1 8 Try.underlying56 hi hz0 hz1 hz2 rfl (by decide) _ 0 [] rfl (World.ownsRow_made w #[] 0 (Nat.le_refl _) (Nat.zero_le _) rfl) ⟨g, 0, none⟩ k c (intVs (zs.take k)) rfl ?c1 ?c2 ?c3 h63 hby ?c4 ?_)
        case c1 => have := HM.out; rw [intVs_len, List.length_take]; omega
        case c2 =>
          intro j u hj
          obtain ⟨hj', rfl⟩ := intVs_get hj
          rw [List.length_take] at hj'
          rw [getD_take (by omega)]
          exact HC.out.cell (by omega)
        case c3 => exact intVs_one
        intro v1 w1 hown1 hg1 hne1
        (try simp only [Nat.zero_add, List.nil_append] at hown1)
        have hB1 : Below w.heap.size w w1 := ((Below.refl w.heap.size w).alloc (Nat.le_refl _) _).grown hg1 (by simp) (fun k hk => by simp [Value.ownBlock] at hk; omega)
        have HO1 := Lib.hid hown1
        have HB1 := Lib.hid hB1
        have hsz1 := hB1.size
        have h63b : k + 1 ≤ maxLen := by unfold maxLen; omega
        have hbyb : (k + 1) * 8 ≤ 140737488355328 := by omega
        clear hown1 hg1 hne1 hB1
        go_wp2_with (at_builtin; refine wpList_append_own _ rfl (.tmp 39) (.tmp 41) 56 rfl w.heap.size 3 i0 (.int .i64 0) 1 8 Try.underlying56 hi hz0 hz1 hz2 rfl (by decide) _ _ _ rfl (HO1.out.alloc _) ⟨w1.heap.size, 0, none⟩ 1 1 [.int .i64 x] rfl rfl ?d1 ?d2 h63b hbyb ?d5 ?_)
        case d1 => exact news_one _ _ _
        case d2 => intro u hu; simp at hu; subst hu; rfl
        case d5 => simp; omega
        intro v2 w2 hown2 hg2 hne2
        have hB2 : Below w.heap.size w w2 := (HB1.out.alloc hsz1 _).grown hg2 (by simp; omega) (fun y hy => (HO1.out.lt y hy).1)
        have HO2 := Lib.hid hown2
        have HB2 := Lib.hid hB2
        have hsz2 := hB2.size
        have h63c : k + 1 + (m - k) ≤ maxLen := by unfold maxLen; omega
        have hbyc : (k + 1 + (m - k)) * 8 ≤ 140737488355328 := by omega
        clear hown2 hg2 hne2 hB2
        go_wp2_with (at_builtin; refine wpList_append_own _ rfl (.tmp 43) (.tmp 46) 56 rfl w.heap.size 3 i0 (.int .i64 0) 1 8 Try.underlying56 hi hz0 hz1 hz2 rfl (by decide) _ _ _ rfl HO2.out ⟨g, k, none⟩ (m - k) (c - k) (intVs (zs.drop k)) ?f0 ?f1 ?f2 ?f3 h63c hbyc ?f5 ?_)
        case f0 => simp [go_sem]
        case f1 => have := HM.out; rw [intVs_len, List.length_drop]; omega
        case f2 =>
          intro j u hj
          obtain ⟨hj', rfl⟩ := intVs_get hj
          have := HM.out
          rw [List.length_drop] at hj'
          rw [getD_drop, addr_add']
          exact (HB2.out.cell (p := ⟨g, k + j, none⟩) HC.out.1).trans (HC.out.cell (by omega))
        case f3 => exact intVs_one
        case f5 => omega
        intro v3 w3 hown3 hg3 hne3
        have hB3 : Below w.heap.size w w3 := HB2.out.grown hg3 hsz2 (fun y hy => (HO2.out.lt y hy).1)
        have hlen : (put zs x).length = k + 1 + (m - k) := by have := HM.out; rw [HE.out]; simp; omega
        have hrow : w3.ownsRow w.heap.size 3 1 v3 (put zs x).length ((put zs x).map (Value.int .i64)) := by
          rw [hlen, HE.out, List.map_append, List.map_append, List.append_assoc]
          exact hown3
        have HO3 := Lib.hid hrow
        have HB3 := Lib.hid hB3
        clear hown3 hg3 hne3 hB3 hlen hrow
        go_wp2
        go_ret
        obtain ⟨g3, c3, rfl, _, _, hcap, _, _, _⟩ := Lib.holds_of_ownsRow HO3.out (by
          intro e
          have h := HO3.out
          rw [e] at h
          rcases h.2 with ⟨_, h⟩ | ⟨_, _, _, h, _⟩
          · have := HM.out; rw [HE.out] at h; simp at h
          · simp at h)
        exact ⟨g3, c3, rfl, hcap, own_ints HO3.out rfl, HB3.out⟩
theorem puts_len : ∀ (r l : List Int), (puts l r).length ≤ l.length + r.length
  | [], l => by simp [puts]
  | n :: r, l => by
    have h1 := puts_len r (put l n)
    have h2 := put_length l n
    rw [puts, List.length_cons]
    omega
def TimesIn (w : World) (zs : List Int) (v : Value) (wr : World) : Prop :=
  ∃ g c, v = .slice (some ⟨g, 0, none⟩) zs.length c ∧ zs.length ≤ c ∧ Own wr g zs.length (intsF zs) ∧ Below w.heap.size w wr
set_option maxHeartbeats 2000000 in
theorem cuTimes_any (g c n : Nat) (f : Nat → Nat → Int) (w : World) (hn : n ≤ 13) (hl : ∀ i, i < n → f i 1 ≤ 10000) (hown : OwnCurveS w g n f) :
    Calls Try.prog 56 #[.slice (some ⟨g, 0, none⟩) n c] w (TimesOut w (puts [0, 100000] (lens f n))) := by
  have HC := Lib.hid hown
  have HLL := Lib.hid hl
  clear hown hl
  go_enter Try.func56, Try.ntmps56
  go_wp2
  go_loopw [3, 9] (fun sv i wr => ∃ k : Nat, k ≤ n ∧ i = .int .i64 k ∧ TimesIn w (puts [0, 100000] (lens f k)) sv wr) (fun _ i _ => n - (intOf i).toNat)
  case atStart =>
    refine ⟨0, Nat.zero_le _, rfl, w.heap.size, 2, rfl, Nat.le_refl _, Own.lit w _ _ _ _ (fun i hi => ?_), belAlloc (Below.refl _ _) _⟩
    have hi2 : i < 2 := hi
    match i, hi2 with
    | 0, _ => rfl
    | 1, _ => rfl
  case round =>
    obtain ⟨k, hk, rfl, g1, c1, rfl, hcap, hown, hb⟩ := hrel
    have HB := Lib.hid hb
    have HO := Lib.hid hown
    have hsz := hb.size
    clear hb hown
    by_cases hlt : k < n
    · obtain ⟨hw0, hw1, hw2⟩ := (HC.out.later HB.out).at_ hlt
      have hgl : g < wr.heap.size := Nat.lt_of_lt_of_le HC.out.1 HB.out.size
      have hlen := puts_len (lens f k) [0, 100000]
      rw [lens_length] at hlen
      simp only [List.length_cons, List.length_nil] at hlen
      have hmem : below (f k 1) (puts [0, 100000] (lens f k)) < (puts [0, 100000] (lens f k)).length :=
        below_mem _ 100000 _ (((puts_spec (lens f k) _ base_rises).2 100000).2 (by simp)) (by have := HLL.out k hlt; omega)
      have HX : Hid (∀ W, Own W g1 (puts [0, 100000] (lens f k)).length (intsF (puts [0, 100000] (lens f k))) → Calls Try.prog 62 #[.slice (some ⟨g1, 0, none⟩) (puts [0, 100000] (lens f k)).length c1, .int .i64 (f k 1)] W (TimesOut W (puts [0, 100000] (lens f (k + 1))))) := fun W hW => by
        rw [lens_snoc, puts_snoc]
        exact l1Put_any g1 c1 _ _ (f k 1) W rfl (by omega) hcap hmem hW
      clear hmem
      generalize (puts [0, 100000] (lens f k)) = zs at *
      go_wp2_with fail
      refine (HX.out _ ((HO.out.later (belAlloc (Below.refl _ wr) _)))).mono ?_
      rintro e w1 ⟨g2, c2, rfl, hcap2, hown2, hb2⟩
      have HO2 := Lib.hid hown2
      have HB2 := Lib.hid (belNext (belAlloc HB.out _) hb2)
      have HC2 := Lib.hid hcap2
      clear hown2 hb2 hcap2
      go_wp2_with fail
      go_roundw
      case rel => exact ⟨k + 1, by omega, by go_num, g2, c2, rfl, HC2.out, HO2.out, HB2.out⟩
      case measure => simp [intOf]; omega
    · obtain rfl : k = n := by omega
      go_wp2_with fail
      go_ret
      exact ⟨g1, c1, rfl, hcap, HO.out, HB.out⟩
end Go.Proofs.Ytnfkepngjbjeoaa
