/-
  Two tokens alike, two rows of tokens alike: alike of the program, tkSame of the reference.
-/
import Derived.Test.YtopolfibledmnaaDoorTokensOfWalk
import Derived.Test.YtopolfibledmnaaDoorAll
import Derived.Test.YtopolfibledmnaaDoorTokGoodWalk
namespace Go.Proofs.YtopolfibledmnaaDoor
open Go.RowKit
def alkB (x y : Tk) : Bool := decide (x.k = y.k) && (x.t.toList == y.t.toList) && decide (x.v = y.v)
def alkAt (f h : Nat → Tk) (i : Nat) : Bool := alkB (f i) (h i)
def samB (f h : Nat → Tk) (n : Nat) : Bool := allV (alkAt f h) n
theorem samAll_succ {p : Nat → Bool} {k : Nat} (h : allV p k = true) (hp : p k = true) : allV p (k + 1) = true := allV_of fun i hi => by
  rcases Nat.lt_succ_iff_lt_or_eq.1 hi with h1 | rfl
  · exact allV_at h i h1
  · exact hp
theorem bne_of {α : Type} [BEq α] {a b : α} {c : Bool} (h : (a == b) = c) : (a != b) = !c := by rw [bne, h]
set_option maxHeartbeats 1000000 in
theorem alike_any (x y : Tk) (w : World) :
    Calls Tryd.prog 56 #[.agg #[.int .i64 x.k, .int .i64 x.a, .string x.t, .int .i64 x.v], .agg #[.int .i64 y.k, .int .i64 y.a, .string y.t, .int .i64 y.v]] w fun e w' => e = .returned (.bool (alkB x y)) ∧ Below w.heap.size w w' := by
  unfold alkB
  obtain ⟨k, a, t, v⟩ := x
  obtain ⟨k', a', t', v'⟩ := y
  dsimp only
  by_cases hk : k = k'
  · have ek : (k == k') = true := by simpa using hk
    rw [decide_eq_true hk, Bool.true_and]
    clear hk
    cases ht : (t.toList == t'.toList) with
    | true =>
      by_cases hv : v = v'
      · have ev : (v == v') = true := by simpa using hv
        rw [decide_eq_true hv]
        clear hv
        go_enter Tryd.func56, Tryd.ntmps56
        go_wp2_with fail
        go_ret
        exact ⟨rfl, by repeat (first | (with_reducible exact Below.refl _ _) | (with_reducible refine belAlloc ?_ _) | (with_reducible refine Below.setCell ?_ (by simp) _) | (with_reducible refine Below.drew ?_))⟩
      · have ev : (v == v') = false := by simpa using hv
        rw [decide_eq_false hv]
        clear hv
        go_enter Tryd.func56, Tryd.ntmps56
        go_wp2_with fail
        go_ret
        exact ⟨rfl, by repeat (first | (with_reducible exact Below.refl _ _) | (with_reducible refine belAlloc ?_ _) | (with_reducible refine Below.setCell ?_ (by simp) _) | (with_reducible refine Below.drew ?_))⟩
    | false =>
      rw [Bool.false_and]
      go_enter Tryd.func56, Tryd.ntmps56
      go_wp2_with fail
      go_ret
      exact ⟨rfl, by repeat (first | (with_reducible exact Below.refl _ _) | (with_reducible refine belAlloc ?_ _) | (with_reducible refine Below.setCell ?_ (by simp) _) | (with_reducible refine Below.drew ?_))⟩
  · have ek : (k == k') = false := by simpa using hk
    rw [decide_eq_false hk, Bool.false_and, Bool.false_and]
    clear hk
    go_enter Tryd.func56, Tryd.ntmps56
    go_wp2_with fail
    go_ret
    exact ⟨rfl, by repeat (first | (with_reducible exact Below.refl _ _) | (with_reducible refine belAlloc ?_ _) | (with_reducible refine Below.setCell ?_ (by simp) _) | (with_reducible refine Below.drew ?_))⟩
theorem tkSame_len (A A' : Option Addr) (n n' c c' : Nat) (w : World) (h : n ≠ n') : Calls Tryd.prog 55 #[.slice A n c, .slice A' n' c'] w fun e w' => e = .returned (.bool false) ∧ w = w' := by
  have e1 : ((n : Int) != (n' : Int)) = true := by simp; omega
  have e2 : (n != n') = true := by simpa using h
  have e3 : (n == n') = false := by simpa using h
  clear h
  go_enter Tryd.func55, Tryd.ntmps55
  go_wp2_with fail
  go_ret
  exact ⟨rfl, rfl⟩
theorem tkSame_nil (A A' : Option Addr) (c c' : Nat) (w : World) : Calls Tryd.prog 55 #[.slice A 0 c, .slice A' 0 c'] w fun e w' => e = .returned (.bool true) ∧ w = w' := by
  go_enter Tryd.func55, Tryd.ntmps55
  go_wp2_with fail
  refine wp_loop_rounds 1 ?_; rw [rounds_succ]
  go_wp2_with fail
  go_ret
  exact ⟨rfl, rfl⟩
set_option maxHeartbeats 4000000 in
theorem tkSame_own (g g' c c' n : Nat) (f h : Nat → Tk) (w : World) (hn : n ≤ 1048576) (ho : OwnT w g n f) (ho' : OwnT w g' n h) :
    Calls Tryd.prog 55 #[.slice (some ⟨g, 0, none⟩) n c, .slice (some ⟨g', 0, none⟩) n c'] w fun e w' => e = .returned (.bool (samB f h n)) ∧ Below w.heap.size w w' := by
  have H := Lib.hid ho
  have H' := Lib.hid ho'
  have hgl := ho.1
  have hgl' := ho'.1
  clear ho ho'
  go_enter Tryd.func55, Tryd.ntmps55
  go_wp2_with fail
  go_loopw [14] (fun i wr => ∃ k : Nat, k ≤ n ∧ i = .int .i64 k ∧ allV (alkAt f h) k = true ∧ Below w.heap.size w wr) (fun i _ => n - (intOf i).toNat)
  case atStart => exact ⟨0, Nat.zero_le _, rfl, rfl, Below.refl _ _⟩
  case round =>
    obtain ⟨k, hk, rfl, hall, hb⟩ := hrel
    have HAL := Lib.hid hall
    have HB := Lib.hid hb
    clear hall
    by_cases hlt : k < n
    · obtain ⟨x0, x1, x2, x3⟩ := (H.out.later hb).at_ hlt
      obtain ⟨y0, y1, y2, y3⟩ := (H'.out.later hb).at_ hlt
      have hgr : g < wr.heap.size := Nat.lt_of_lt_of_le hgl hb.size
      have hgr' : g' < wr.heap.size := Nat.lt_of_lt_of_le hgl' hb.size
      have hlt' : (k : Int) < (n : Int) := by omega
      clear hb
      cases hp : alkAt f h k with
      | true =>
        have HS := Lib.hid (samAll_succ HAL.out hp)
        unfold alkAt alkB at hp
        simp only [Bool.and_eq_true, decide_eq_true_eq] at hp
        obtain ⟨⟨p1, p2⟩, p3⟩ := hp
        generalize f k = x at x0 x1 x2 x3 p1 p2 p3
        generalize h k = y at y0 y1 y2 y3 p1 p2 p3
        have q1 : (x.k != y.k) = false := by simpa using p1
        have q2 := bne_of p2
        have q3 : (x.v != y.v) = false := by simpa using p3
        have q1' : (x.k == y.k) = true := by simpa using p1
        have q3' : (x.v == y.v) = true := by simpa using p3
        clear p1 p3
        go_wp2_with fail
        go_quiet (fail)
        go_wp2_with fail
        go_roundw
        case rel => exact ⟨k + 1, by omega, by go_num, HS.out, belDrewN (belAlloc HB.out _) _⟩
        case measure => simp [intOf]; omega
      | false =>
        have HR : Hid (samB f h n = false) := Lib.hid (by rw [samB]; exact allV_no hp hlt)
        unfold alkAt alkB at hp
        generalize f k = x at x0 x1 x2 x3 hp
        generalize h k = y at y0 y1 y2 y3 hp
        by_cases p1 : x.k = y.k
        · have q1 : (x.k != y.k) = false := by simpa using p1
          have q1' : (x.k == y.k) = true := by simpa using p1
          rw [decide_eq_true p1, Bool.true_and] at hp
          clear p1
          cases p2 : (x.t.toList == y.t.toList) with
          | false =>
            have q2 := bne_of p2
            clear hp
            go_wp2_with fail
            go_quiet (fail)
            go_wp2_with fail
            go_ret
            exact ⟨by rw [HR.out]; rfl, belDrewN (belAlloc HB.out _) _⟩
          | true =>
            rw [p2, Bool.true_and] at hp
            have q2 := bne_of p2
            have p3 := of_decide_eq_false hp
            have q3 : (x.v != y.v) = true := by simpa using p3
            have q3' : (x.v == y.v) = false := by simpa using p3
            clear hp p3
            go_wp2_with fail
            go_quiet (fail)
            go_wp2_with fail
            go_ret
            exact ⟨by rw [HR.out]; rfl, belDrewN (belAlloc HB.out _) _⟩
        · have q1 : (x.k != y.k) = true := by simpa using p1
          have q1' : (x.k == y.k) = false := by simpa using p1
          clear p1 hp
          go_wp2_with fail
          go_quiet (fail)
          go_wp2_with fail
          go_ret
          exact ⟨by rw [HR.out]; rfl, belDrewN (belAlloc HB.out _) _⟩
    · have hkn : k = n := by omega
      have HR : Hid (samB f h n = true) := Lib.hid (by rw [samB, ← hkn]; exact HAL.out)
      clear hb hkn
      go_wp2_with fail
      go_ret
      exact ⟨by rw [HR.out]; rfl, HB.out⟩
end Go.Proofs.YtopolfibledmnaaDoor
