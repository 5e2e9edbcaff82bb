/-
  TokenAt, the program's and the reference's; the walk of FnExactTokenAt.
-/
import Derived.Test.YtopolfibledmnaaDoorTokAt2
import Derived.Test.YtopolfibledmnaaDoorScBytes
import Derived.Deep.RegionWith
namespace Go.Proofs.YtopolfibledmnaaDoor
open Go.RowKit
/-- A token, an index and a fault. -/
def tri (k a : Int) (t : ByteArray) (v e fk fa : Int) : Value := .tuple #[.agg #[.int .i64 k, .int .i64 a, .string t, .int .i64 v], .int .i64 e, .agg #[.int .i64 fk, .int .i64 fa]]
theorem rdOut_form (s : ByteArray) (a : Nat) : ∃ k b t v e fk fa, rdOut s a = tri k b t v e fk fa := by
  unfold rdOut
  split
  · exact ⟨_, _, _, _, _, _, _, rfl⟩
  · exact ⟨_, _, _, _, _, _, _, rfl⟩
theorem atOut_form (s : ByteArray) (a : Nat) : ∃ k b t v e fk fa, atOut s a = tri k b t v e fk fa := by
  unfold atOut
  split
  · exact rdOut_form _ _
  · exact ⟨_, _, _, _, _, _, _, rfl⟩
set_option maxHeartbeats 1000000 in
theorem specTokenAt_yes (s : ByteArray) (x : Nat) (k b : Int) (t : ByteArray) (v e0 fk fa : Int) (w : World) (hs : s.size ≤ 4000) (hx : x ≤ s.size) (h : atOut s x = tri k b t v e0 fk fa) :
    Calls Tryd.prog 18 #[.string s, .int .i64 x] w fun e w' => e = .returned (.tuple #[.agg #[.int .i64 k, .int .i64 b, .string t, .int .i64 v], .int .i64 e0, .agg #[.int .i64 fk, .int .i64 fa], .bool true]) ∧ Below w.heap.size w w' := by
  have HT := Lib.hid (fun W => tkAt_any s x W hs hx)
  rw [h] at HT
  unfold tri at HT
  clear h
  go_enter Tryd.func18, Tryd.ntmps18
  go_wp2_with (first | (go_at_call 57; refine (scBytes_yes _ _ (by omega)).mono ?_; rintro e w1 ⟨rfl, rfl⟩) | (go_at_call 57; refine (scBytes_no _ _ (by omega)).mono ?_; rintro e w1 ⟨rfl, rfl⟩) | (go_at_call 61; refine (l1In_yes _ _ _ _ (by omega) (by omega)).mono ?_; rintro e w1 ⟨rfl, rfl⟩) | (go_at_call 61; refine (l1In_no _ _ _ _ (by omega)).mono ?_; rintro e w1 ⟨rfl, rfl⟩) | (go_at_call 47; go_in))
  refine (HT.out _).mono ?_
  rintro e w2 ⟨rfl, hb2⟩
  have HB2 := Lib.hid hb2
  have HB := Lib.hid (belNext (belAlloc (belAlloc (Below.refl _ w) _) _) HB2.out)
  have R := resB HB2.out
  obtain ⟨a0, a1, a2, a3, b0, b1, c0, c1, c2, c3, d0, d1, hz, hzz⟩ := resB HB2.out
  clear hb2
  go_wp2_with fail
  go_region_with (fail)
  all_goals
    go_wp2_with fail
    exact bodyPost_ret (v := .tuple #[.agg #[.int .i64 k, .int .i64 b, .string t, .int .i64 v], .int .i64 e0, .agg #[.int .i64 fk, .int .i64 fa], .bool true]) (by simp [results, Tryd.results18, go_sem, R.r0, R.r1, R.r2, R.r3, R.q0, R.q1, R.sz, R.sz0]) rfl ⟨rfl, by repeat (first | (with_reducible exact HB.out) | (with_reducible refine belAlloc ?_ _) | (with_reducible refine Below.setCell ?_ (by simp) _) | (with_reducible refine Below.drew ?_))⟩
set_option maxHeartbeats 1000000 in
theorem implTokenAt_yes (s : ByteArray) (x : Nat) (k b : Int) (t : ByteArray) (v e0 fk fa : Int) (w : World) (hs : s.size ≤ 4000) (hx : x ≤ s.size) (h : atOut s x = tri k b t v e0 fk fa) (hK : TabS w 0 keyNs) (hG : TabS w 1 signNs) :
    Calls Tryd.prog 19 #[.string s, .int .i64 x] w fun e w' => e = .returned (.tuple #[.agg #[.int .i64 k, .int .i64 b, .string t, .int .i64 v], .int .i64 e0, .agg #[.int .i64 fk, .int .i64 fa], .bool true]) ∧ Below w.heap.size w w' := by
  have HS := Lib.hid (fun W => skipSpace_any s x W hs hx)
  have hle := skp_le s hx
  by_cases hp : skp s x < s.size
  · have HT : Hid (∀ W, Below w.heap.size w W → Calls Tryd.prog 51 #[.string s, .int .i64 (skp s x)] W fun e w' => e = .returned (.tuple #[.agg #[.int .i64 k, .int .i64 b, .string t, .int .i64 v], .int .i64 e0, .agg #[.int .i64 fk, .int .i64 fa]]) ∧ Below W.heap.size W w') := fun W hW => by
      have := readToken_any s (skp s x) W (by omega) hp (hK.later hW) (hG.later hW)
      rw [atOut, if_pos hp] at h
      rwa [h] at this
    generalize skp s x = p at *
    have hq : ((p : Int) == (s.size : Int)) = false := by simp; omega
    have hq2 : (p == s.size) = false := by simp; omega
    clear h hK hG
    go_enter Tryd.func19, Tryd.ntmps19
    go_wp2_with (go_at_call 49; go_in)
    refine (HS.out _).mono ?_
    rintro e w1 ⟨rfl, rfl⟩
    go_wp2_with fail
    refine (HT.out _ (by repeat (first | (with_reducible exact Below.refl _ _) | (with_reducible refine belAlloc ?_ _) | (with_reducible refine Below.setCell ?_ (by simp) _) | (with_reducible refine Below.drew ?_)))).mono ?_
    rintro e w2 ⟨rfl, hb2⟩
    have HB2 := Lib.hid hb2
    have HB := Lib.hid (belNext (belAlloc (belAlloc (Below.refl _ w) _) _) HB2.out)
    have R := resB HB2.out
    obtain ⟨a0, a1, a2, a3, b0, b1, c0, c1, c2, c3, d0, d1, hz, hzz⟩ := resB HB2.out
    clear hb2
    go_wp2_with fail
    go_region_with (fail)
    all_goals
      go_wp2_with fail
      exact bodyPost_ret (v := .tuple #[.agg #[.int .i64 k, .int .i64 b, .string t, .int .i64 v], .int .i64 e0, .agg #[.int .i64 fk, .int .i64 fa], .bool true]) (by simp [results, Tryd.results19, go_sem, R.r0, R.r1, R.r2, R.r3, R.q0, R.q1, R.sz, R.sz0]) rfl ⟨rfl, by repeat (first | (with_reducible exact HB.out) | (with_reducible refine belAlloc ?_ _) | (with_reducible refine Below.setCell ?_ (by simp) _) | (with_reducible refine Below.drew ?_))⟩
  · have HR : Hid (Value.tuple #[.agg #[.int .i64 0, .int .i64 0, .string ⟨#[]⟩, .int .i64 0], .int .i64 (skp s x), .agg #[.int .i64 0, .int .i64 0], .bool true] = .tuple #[.agg #[.int .i64 k, .int .i64 b, .string t, .int .i64 v], .int .i64 e0, .agg #[.int .i64 fk, .int .i64 fa], .bool true]) := Lib.hid (by
      rw [atOut, if_neg hp, tri] at h
      injection h with h
      have h0 := congrArg (·[0]?) h
      have h1 := congrArg (·[1]?) h
      have h2 := congrArg (·[2]?) h
      simp at h0 h1 h2
      obtain ⟨rfl, rfl, rfl, rfl⟩ := h0
      obtain ⟨rfl, rfl⟩ := h2
      rw [h1])
    generalize skp s x = p at *
    have hq : ((p : Int) == (s.size : Int)) = true := by simp; omega
    have hq2 : (p == s.size) = true := by simp; omega
    clear h hK hG
    go_enter Tryd.func19, Tryd.ntmps19
    go_wp2_with (go_at_call 49; go_in)
    refine (HS.out _).mono ?_
    rintro e w1 ⟨rfl, rfl⟩
    go_wp2_with fail
    exact bodyPost_ret (v := .tuple #[.agg #[.int .i64 0, .int .i64 0, .string ⟨#[]⟩, .int .i64 0], .int .i64 p, .agg #[.int .i64 0, .int .i64 0], .bool true]) (by simp [results, Tryd.results19, go_sem]) rfl ⟨by rw [← HR.out], by repeat (first | (with_reducible exact Below.refl _ _) | (with_reducible refine belAlloc ?_ _) | (with_reducible refine Below.setCell ?_ (by simp) _) | (with_reducible refine Below.drew ?_))⟩
set_option maxHeartbeats 1000000 in
theorem implTokenAt_no (s : ByteArray) (x : Int) (w : World) (hs : s.size ≤ 1048576) (h : 4000 < (s.size : Int) ∨ ((s.size : Int) ≤ 4000 ∧ (x < 0 ∨ (0 ≤ x ∧ (s.size : Int) < x)))) :
    Calls Tryd.prog 19 #[.string s, .int .i64 x] w fun e w' => e = .returned (.tuple #[.agg #[.int .i64 0, .int .i64 0, .string ⟨#[]⟩, .int .i64 0], .int .i64 0, .agg #[.int .i64 0, .int .i64 0], .bool false]) ∧ Below w.heap.size w w' := by
  rcases h with h1 | ⟨h1, h2 | ⟨h2, h3⟩⟩
  · have hd : decide ((s.size : Int) ≤ 4000) = false := decide_eq_false (by omega)
    go_enter Tryd.func19, Tryd.ntmps19
    go_wp2_with (first | (go_at_call 57; refine (scBytes_yes _ _ (by omega)).mono ?_; rintro e w1 ⟨rfl, rfl⟩) | (go_at_call 57; refine (scBytes_no _ _ (by omega)).mono ?_; rintro e w1 ⟨rfl, rfl⟩) | (go_at_call 61; refine (l1In_yes _ _ _ _ (by omega) (by omega)).mono ?_; rintro e w1 ⟨rfl, rfl⟩) | (go_at_call 61; refine (l1In_no _ _ _ _ (by omega)).mono ?_; rintro e w1 ⟨rfl, rfl⟩) | (go_at_call 49; go_in))
    exact bodyPost_ret (v := .tuple #[.agg #[.int .i64 0, .int .i64 0, .string ⟨#[]⟩, .int .i64 0], .int .i64 0, .agg #[.int .i64 0, .int .i64 0], .bool false]) (by simp [results, Tryd.results19, go_sem]) rfl ⟨rfl, by repeat (first | (with_reducible exact Below.refl _ _) | (with_reducible refine belAlloc ?_ _) | (with_reducible refine Below.setCell ?_ (by simp) _) | (with_reducible refine Below.drew ?_))⟩
  · have hd : decide (0 ≤ x) = false := decide_eq_false (by omega)
    go_enter Tryd.func19, Tryd.ntmps19
    go_wp2_with (first | (go_at_call 57; refine (scBytes_yes _ _ (by omega)).mono ?_; rintro e w1 ⟨rfl, rfl⟩) | (go_at_call 57; refine (scBytes_no _ _ (by omega)).mono ?_; rintro e w1 ⟨rfl, rfl⟩) | (go_at_call 61; refine (l1In_yes _ _ _ _ (by omega) (by omega)).mono ?_; rintro e w1 ⟨rfl, rfl⟩) | (go_at_call 61; refine (l1In_no _ _ _ _ (by omega)).mono ?_; rintro e w1 ⟨rfl, rfl⟩) | (go_at_call 49; go_in))
    exact bodyPost_ret (v := .tuple #[.agg #[.int .i64 0, .int .i64 0, .string ⟨#[]⟩, .int .i64 0], .int .i64 0, .agg #[.int .i64 0, .int .i64 0], .bool false]) (by simp [results, Tryd.results19, go_sem]) rfl ⟨rfl, by repeat (first | (with_reducible exact Below.refl _ _) | (with_reducible refine belAlloc ?_ _) | (with_reducible refine Below.setCell ?_ (by simp) _) | (with_reducible refine Below.drew ?_))⟩
  · have hd : decide (x ≤ (s.size : Int)) = false := decide_eq_false (by omega)
    go_enter Tryd.func19, Tryd.ntmps19
    go_wp2_with (first | (go_at_call 57; refine (scBytes_yes _ _ (by omega)).mono ?_; rintro e w1 ⟨rfl, rfl⟩) | (go_at_call 57; refine (scBytes_no _ _ (by omega)).mono ?_; rintro e w1 ⟨rfl, rfl⟩) | (go_at_call 61; refine (l1In_yes _ _ _ _ (by omega) (by omega)).mono ?_; rintro e w1 ⟨rfl, rfl⟩) | (go_at_call 61; refine (l1In_no _ _ _ _ (by omega)).mono ?_; rintro e w1 ⟨rfl, rfl⟩) | (go_at_call 49; go_in))
    exact bodyPost_ret (v := .tuple #[.agg #[.int .i64 0, .int .i64 0, .string ⟨#[]⟩, .int .i64 0], .int .i64 0, .agg #[.int .i64 0, .int .i64 0], .bool false]) (by simp [results, Tryd.results19, go_sem]) rfl ⟨rfl, by repeat (first | (with_reducible exact Below.refl _ _) | (with_reducible refine belAlloc ?_ _) | (with_reducible refine Below.setCell ?_ (by simp) _) | (with_reducible refine Below.drew ?_))⟩
set_option maxHeartbeats 1000000 in
theorem specTokenAt_no (s : ByteArray) (x : Int) (w : World) (hs : s.size ≤ 1048576) (h : 4000 < (s.size : Int) ∨ ((s.size : Int) ≤ 4000 ∧ (x < 0 ∨ (0 ≤ x ∧ (s.size : Int) < x)))) :
    Calls Tryd.prog 18 #[.string s, .int .i64 x] w fun e w' => e = .returned (.tuple #[.agg #[.int .i64 0, .int .i64 0, .string ⟨#[]⟩, .int .i64 0], .int .i64 0, .agg #[.int .i64 0, .int .i64 0], .bool false]) ∧ Below w.heap.size w w' := by
  rcases h with h1 | ⟨h1, h2 | ⟨h2, h3⟩⟩
  · have hd : decide ((s.size : Int) ≤ 4000) = false := decide_eq_false (by omega)
    go_enter Tryd.func18, Tryd.ntmps18
    go_wp2_with (first | (go_at_call 57; refine (scBytes_yes _ _ (by omega)).mono ?_; rintro e w1 ⟨rfl, rfl⟩) | (go_at_call 57; refine (scBytes_no _ _ (by omega)).mono ?_; rintro e w1 ⟨rfl, rfl⟩) | (go_at_call 61; refine (l1In_yes _ _ _ _ (by omega) (by omega)).mono ?_; rintro e w1 ⟨rfl, rfl⟩) | (go_at_call 61; refine (l1In_no _ _ _ _ (by omega)).mono ?_; rintro e w1 ⟨rfl, rfl⟩) | (go_at_call 47; go_in))
    exact bodyPost_ret (v := .tuple #[.agg #[.int .i64 0, .int .i64 0, .string ⟨#[]⟩, .int .i64 0], .int .i64 0, .agg #[.int .i64 0, .int .i64 0], .bool false]) (by simp [results, Tryd.results18, go_sem]) rfl ⟨rfl, by repeat (first | (with_reducible exact Below.refl _ _) | (with_reducible refine belAlloc ?_ _) | (with_reducible refine Below.setCell ?_ (by simp) _) | (with_reducible refine Below.drew ?_))⟩
  · have hd : decide (0 ≤ x) = false := decide_eq_false (by omega)
    go_enter Tryd.func18, Tryd.ntmps18
    go_wp2_with (first | (go_at_call 57; refine (scBytes_yes _ _ (by omega)).mono ?_; rintro e w1 ⟨rfl, rfl⟩) | (go_at_call 57; refine (scBytes_no _ _ (by omega)).mono ?_; rintro e w1 ⟨rfl, rfl⟩) | (go_at_call 61; refine (l1In_yes _ _ _ _ (by omega) (by omega)).mono ?_; rintro e w1 ⟨rfl, rfl⟩) | (go_at_call 61; refine (l1In_no _ _ _ _ (by omega)).mono ?_; rintro e w1 ⟨rfl, rfl⟩) | (go_at_call 47; go_in))
    exact bodyPost_ret (v := .tuple #[.agg #[.int .i64 0, .int .i64 0, .string ⟨#[]⟩, .int .i64 0], .int .i64 0, .agg #[.int .i64 0, .int .i64 0], .bool false]) (by simp [results, Tryd.results18, go_sem]) rfl ⟨rfl, by repeat (first | (with_reducible exact Below.refl _ _) | (with_reducible refine belAlloc ?_ _) | (with_reducible refine Below.setCell ?_ (by simp) _) | (with_reducible refine Below.drew ?_))⟩
  · have hd : decide (x ≤ (s.size : Int)) = false := decide_eq_false (by omega)
    go_enter Tryd.func18, Tryd.ntmps18
    go_wp2_with (first | (go_at_call 57; refine (scBytes_yes _ _ (by omega)).mono ?_; rintro e w1 ⟨rfl, rfl⟩) | (go_at_call 57; refine (scBytes_no _ _ (by omega)).mono ?_; rintro e w1 ⟨rfl, rfl⟩) | (go_at_call 61; refine (l1In_yes _ _ _ _ (by omega) (by omega)).mono ?_; rintro e w1 ⟨rfl, rfl⟩) | (go_at_call 61; refine (l1In_no _ _ _ _ (by omega)).mono ?_; rintro e w1 ⟨rfl, rfl⟩) | (go_at_call 47; go_in))
    exact bodyPost_ret (v := .tuple #[.agg #[.int .i64 0, .int .i64 0, .string ⟨#[]⟩, .int .i64 0], .int .i64 0, .agg #[.int .i64 0, .int .i64 0], .bool false]) (by simp [results, Tryd.results18, go_sem]) rfl ⟨rfl, by repeat (first | (with_reducible exact Below.refl _ _) | (with_reducible refine belAlloc ?_ _) | (with_reducible refine Below.setCell ?_ (by simp) _) | (with_reducible refine Below.drew ?_))⟩
/-- A token's and a fault's cells, as they were stored. -/
structure IsTF (w W : World) (k b : Int) (t : ByteArray) (v fk fa : Int) : Prop where
  r0 : W.cell? ⟨w.heap.size, 0, none⟩ = some (.int .i64 k)
  r1 : W.cell? ⟨w.heap.size, 1, none⟩ = some (.int .i64 b)
  r2 : W.cell? ⟨w.heap.size, 2, none⟩ = some (.string t)
  r3 : W.cell? ⟨w.heap.size, 3, none⟩ = some (.int .i64 v)
  q0 : W.cell? ⟨w.heap.size + 1, 0, none⟩ = some (.int .i64 fk)
  q1 : W.cell? ⟨w.heap.size + 1, 1, none⟩ = some (.int .i64 fa)
  sz : w.heap.size + 1 < W.heap.size
  sz0 : w.heap.size < W.heap.size
theorem isTF {w W : World} {ty u : TypeId} {k b : Int} {t : ByteArray} {v fk fa : Int} (hb : Below ((w.alloc (.cells #[.int .i64 k, .int .i64 b, .string t, .int .i64 v] ty)).alloc (.cells #[.int .i64 fk, .int .i64 fa] u)).heap.size ((w.alloc (.cells #[.int .i64 k, .int .i64 b, .string t, .int .i64 v] ty)).alloc (.cells #[.int .i64 fk, .int .i64 fa] u)) W) : IsTF w W k b t v fk fa := by
  obtain ⟨hc, _⟩ := bcell hb
  have hs := hb.size
  simp at hs
  constructor
  all_goals first
    | exact (hc _ _ (by simp <;> omega)).trans (by simp [go_sem])
    | omega
set_option maxHeartbeats 1000000 in
theorem tokenAt_law (s : ByteArray) (x : Int) (k b : Int) (t : ByteArray) (v e0 fk fa : Int) (ok : Bool) (w : World) (hs : s.size ≤ 1048576)
    (hS : ∀ W, Below w.heap.size w W → Calls Tryd.prog 18 #[.string s, .int .i64 x] W fun e w' => e = .returned (.tuple #[.agg #[.int .i64 k, .int .i64 b, .string t, .int .i64 v], .int .i64 e0, .agg #[.int .i64 fk, .int .i64 fa], .bool ok]) ∧ Below W.heap.size W w')
    (hI : ∀ W, Below w.heap.size w W → Calls Tryd.prog 19 #[.string s, .int .i64 x] W fun e w' => e = .returned (.tuple #[.agg #[.int .i64 k, .int .i64 b, .string t, .int .i64 v], .int .i64 e0, .agg #[.int .i64 fk, .int .i64 fa], .bool ok]) ∧ Below W.heap.size W w') :
    Calls Tryd.prog 5 #[.string s, .int .i64 x] w fun e w' => e = .returned (.bool true) ∧ Below w.heap.size w w' := by
  have HS := Lib.hid hS
  have HI := Lib.hid hI
  have HE : Hid (∀ W, _) := fun W => eqToken_any k b t v W
  have HF : Hid (∀ W, _) := fun W => eqFault_tk fk fa W
  clear hS hI
  go_enter Tryd.func5, Tryd.ntmps5
  go_wp2_with fail
  refine (HS.out _ (Below.refl _ _)).mono ?_
  rintro e w1 ⟨rfl, hb1⟩
  have HB1 := Lib.hid hb1
  clear hb1
  go_wp2_with fail
  refine (HI.out _ (belAlloc (belAlloc HB1.out _) _)).mono ?_
  rintro e w2 ⟨rfl, hb2⟩
  have HB2 := Lib.hid hb2
  obtain ⟨r0, r1, r2, r3, q0, q1, z1, z0⟩ := isTF hb2
  clear hb2
  go_wp2_with fail
  refine (HE.out _).mono ?_
  rintro e w3 ⟨rfl, hb3⟩
  have HB3 := Lib.hid hb3
  clear r0 r1 r2 r3 q0 q1 z1 z0
  obtain ⟨r0, r1, r2, r3, q0, q1, z1, z0⟩ := isTF (belNext HB2.out (belNext (belAlloc (belAlloc (Below.refl _ _) _) _) hb3))
  obtain ⟨t0, t1, t2, t3, u0, u1, y1, y0⟩ := isTF hb3
  clear hb3
  go_wp2_with fail
  refine (HF.out _).mono ?_
  rintro e w4 ⟨rfl, hb4⟩
  have HB4 := Lib.hid hb4
  clear hb4 r0 r1 r2 r3 q0 q1 z1 z0 t0 t1 t2 t3 u0 u1 y1 y0
  go_wp2_with fail
  go_ret
  exact ⟨rfl, belNext (belNext (belAlloc (belAlloc (belNext (belAlloc (belAlloc HB1.out _) _) HB2.out) _) _) HB3.out) HB4.out⟩
set_option maxHeartbeats 1000000 in
theorem fnExactTokenAt_walk (s : ByteArray) (hs : s.size ≤ maxLen) (x : Int) (_ : -9223372036854775808 ≤ x) (_ : x ≤ 9223372036854775807) (w : World) (hL : laidMetH Tryd.prog Rows.fnExactTokenAtRow.laid w) :
    Calls Tryd.prog 5 #[.string s, .int .i64 x] w fun e w' => e = .returned (.bool true) ∧ Below w.heap.size w w' := by
  have hK := keyTab_of hL (by simp [Rows.fnExactTokenAtRow])
  have hG := signTab_of hL (by simp [Rows.fnExactTokenAtRow])
  clear hL
  unfold maxLen at hs
  rcases (show 1048576 < (s.size : Int) ∨ ((s.size : Int) ≤ 1048576 ∧ (4000 < (s.size : Int) ∨ ((s.size : Int) ≤ 4000 ∧ (x < 0 ∨ (0 ≤ x ∧ (s.size : Int) < x))))) ∨ ((s.size : Int) ≤ 4000 ∧ 0 ≤ x ∧ x ≤ s.size) by omega) with h | ⟨h1, h2⟩ | ⟨h1, h2, h3⟩
  · clear hK hG
    go_enter Tryd.func5, Tryd.ntmps5
    go_wp2
    go_ret
    exact ⟨rfl, Below.refl _ _⟩
  · exact tokenAt_law s x 0 0 ⟨#[]⟩ 0 0 0 0 false w (by omega) (fun W _ => specTokenAt_no s x W (by omega) h2) (fun W _ => implTokenAt_no s x W (by omega) h2)
  · obtain ⟨n, rfl⟩ := Int.eq_ofNat_of_zero_le h2
    obtain ⟨k, b, t, v, e0, fk, fa, h⟩ := atOut_form s n
    exact tokenAt_law s n k b t v e0 fk fa true w (by omega) (fun W _ => specTokenAt_yes s n k b t v e0 fk fa W (by omega) (by omega) h) (fun W hW => implTokenAt_yes s n k b t v e0 fk fa W (by omega) (by omega) h (hK.later hW) (hG.later hW))
end Go.Proofs.YtopolfibledmnaaDoor
