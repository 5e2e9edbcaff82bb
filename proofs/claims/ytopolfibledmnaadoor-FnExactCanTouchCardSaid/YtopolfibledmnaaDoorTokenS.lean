/-
  Slices of tokens: how they come in, and the law files' helpers on them (copy, comparison, size), walked once each.
-/
import Derived.Test.YtopolfibledmnaaDoorProg
import Derived.WalkKit
import Derived.Outline
import Derived.WalkLawsBesides
import Derived.Test.YtopolfibledmnaaDoorBase
import Derived.Test.YtopolfibledmnaaDoorBel
import Derived.Lib.Hide
import Derived.Deep.OwnRows
import Derived.Deep.RegionWith
namespace Go.Proofs.YtopolfibledmnaaDoor
open Go.RowKit
/-- A token. -/
structure Tk where
  k : Int
  a : Int
  t : ByteArray
  v : Int
def Tk.cell (x : Tk) : Nat → Value
  | 0 => .int .i64 x.k
  | 1 => .int .i64 x.a
  | 2 => .string x.t
  | _ => .int .i64 x.v
/-- The token's numbers are ints, its text no longer than a text can be. -/
def Tk.Ok (x : Tk) : Prop := (-9223372036854775808 ≤ x.k ∧ x.k ≤ 9223372036854775807) ∧ (-9223372036854775808 ≤ x.a ∧ x.a ≤ 9223372036854775807) ∧ x.t.size ≤ maxLen ∧ (-9223372036854775808 ≤ x.v ∧ x.v ≤ 9223372036854775807)
/-- The cells of a row of tokens, one after the other. -/
def flatT (f : Nat → Tk) (m : Nat) : Value := (f (m / 4)).cell (m % 4)
/-- Block g holds a row of tokens. -/
def OwnT (w : World) (g n : Nat) (f : Nat → Tk) : Prop := Own w g (n * 4) (flatT f)
section
variable {w w' : World} {g n : Nat} {f : Nat → Tk}
theorem OwnT.later (h : OwnT w g n f) (hb : Below w.heap.size w w') : OwnT w' g n f := Own.later h hb
theorem OwnT.row (h : OwnT w g n f) : Row w w.heap.size (some ⟨g, 0, none⟩) (n * 4) (flatT f) := Own.row h
theorem flatT_at (f : Nat → Tk) (i j : Nat) (hj : j < 4) : flatT f (i * 4 + j) = (f i).cell j := by rw [flatT, show (i * 4 + j) / 4 = i by omega, show (i * 4 + j) % 4 = j by omega]
theorem OwnT.at_ (h : OwnT w g n f) {i : Nat} (hi : i < n) : w.cell? ⟨g, i * 4, none⟩ = some (.int .i64 (f i).k) ∧ w.cell? ⟨g, i * 4 + 1, none⟩ = some (.int .i64 (f i).a) ∧ w.cell? ⟨g, i * 4 + 2, none⟩ = some (.string (f i).t) ∧ w.cell? ⟨g, i * 4 + 3, none⟩ = some (.int .i64 (f i).v) :=
  ⟨(Own.cell h (show i * 4 < n * 4 by omega)).trans (by rw [show i * 4 = i * 4 + 0 by rfl, flatT_at f i 0 (by omega)]; rfl), (Own.cell h (show i * 4 + 1 < n * 4 by omega)).trans (by rw [flatT_at f i 1 (by omega)]; rfl), (Own.cell h (show i * 4 + 2 < n * 4 by omega)).trans (by rw [flatT_at f i 2 (by omega)]; rfl), (Own.cell h (show i * 4 + 3 < n * 4 by omega)).trans (by rw [flatT_at f i 3 (by omega)]; rfl)⟩
theorem OwnT.frz (h : OwnT w g n f) {i : Nat} (hi : i < n) : w.frozen? ⟨g, i * 4, none⟩ = false ∧ w.frozen? ⟨g, i * 4 + 1, none⟩ = false ∧ w.frozen? ⟨g, i * 4 + 2, none⟩ = false ∧ w.frozen? ⟨g, i * 4 + 3, none⟩ = false :=
  ⟨Own.frozen h (by omega), Own.frozen h (by omega), Own.frozen h (by omega), Own.frozen h (by omega)⟩
/-- Row f with x at place k. -/
def putT (f : Nat → Tk) (k : Nat) (x : Tk) : Nat → Tk := fun i => if i = k then x else f i
theorem putT_flat (f : Nat → Tk) (k : Nat) (x : Tk) (m : Nat) : (if m = k * 4 + 3 then Value.int .i64 x.v else if m = k * 4 + 2 then Value.string x.t else if m = k * 4 + 1 then Value.int .i64 x.a else if m = k * 4 then Value.int .i64 x.k else flatT f m) = flatT (putT f k x) m := by
  by_cases h : m / 4 = k
  · have e : flatT (putT f k x) m = x.cell (m % 4) := by rw [flatT, putT, if_pos h]
    rw [e]
    have h4 : m % 4 = 0 ∨ m % 4 = 1 ∨ m % 4 = 2 ∨ m % 4 = 3 := by omega
    rcases h4 with h4 | h4 | h4 | h4
    · rw [h4, if_neg (by omega), if_neg (by omega), if_neg (by omega), if_pos (by omega)]; rfl
    · rw [h4, if_neg (by omega), if_neg (by omega), if_pos (by omega)]; rfl
    · rw [h4, if_neg (by omega), if_pos (by omega)]; rfl
    · rw [h4, if_pos (by omega)]; rfl
  · rw [if_neg (by omega), if_neg (by omega), if_neg (by omega), if_neg (by omega), flatT, flatT, putT, if_neg h]
theorem OwnT.put (h : OwnT w g n f) {k : Nat} (hk : k < n) (x : Tk) :
    OwnT ((((w.setCell ⟨g, k * 4, none⟩ (.int .i64 x.k)).setCell ⟨g, k * 4 + 1, none⟩ (.int .i64 x.a)).setCell ⟨g, k * 4 + 2, none⟩ (.string x.t)).setCell ⟨g, k * 4 + 3, none⟩ (.int .i64 x.v)) g n (putT f k x) :=
  ((((Own.set h (show k * 4 < n * 4 by omega) _).set (show k * 4 + 1 < n * 4 by omega) _).set (show k * 4 + 2 < n * 4 by omega) _).set (show k * 4 + 3 < n * 4 by omega) _).congr fun m _ => putT_flat f k x m
end
def tk0 : Tk := ⟨0, 0, ⟨#[]⟩, 0⟩
theorem infoT : (Tryd.prog.info? 27).map (fun i => (i.zero, i.size, i.bytes)) = some (some (.agg #[.int .i64 0, .int .i64 0, .string ⟨#[]⟩, .int .i64 0]), 4, 40) := by kernel_rfl
section
open Go.ChangeShapes Go.WideShapes Go.Deep
variable {H : Type} {enc : TypeId × Value → H} {P : Program} {w : World} {spare : Nat → Bool} {held : Bool}
theorem open_rows_iisi {t e u v : TypeId} {f0 f1 f2 f3 : Field} {fuel n c : Nat} {A : Option Addr} {d : DataW H} {p : List MemPlace} (ht : P.underlying t = some (.slice e)) (he : P.underlying e = some (.struct #[f0, f1, f2, f3]))
    (hall : (oneCellFields P #[f0, f1, f2, f3] && P.cellsOf e == 4 && f0.type == u && f1.type == u && f2.type == v && f3.type == u) = true) (hu : P.underlying u = some (.int .i64)) (hv : P.underlying v = some .string) (h : DataW.trod enc P w 0 spare held fuel t #[.slice A n c].toList = some (d, p)) :
    ∃ F : Nat → Tk, n ≤ maxLen ∧ (∀ i, (F i).Ok) ∧ Seg w w.heap.size 4 A n fun i j => (F i).cell j := by
  simp only [Bool.and_eq_true, beq_iff_eq] at hall
  obtain ⟨⟨⟨⟨⟨h1, h2⟩, h3⟩, h4⟩, h5⟩, h6⟩ := hall
  obtain ⟨hn, F, hs, hf⟩ := open_segs ht he h1 h2 (by simp) h
  have hex : ∀ i, ∃ x : Tk, x.Ok ∧ (i < n → ∀ j, j < 4 → F i j = x.cell j) := fun i => by
    by_cases hi : i < n
    · obtain ⟨m0, y0, q0⟩ := hf i 0 f0 hi rfl
      obtain ⟨m1, y1, q1⟩ := hf i 1 f1 hi rfl
      obtain ⟨m2, y2, q2⟩ := hf i 2 f2 hi rfl
      obtain ⟨m3, y3, q3⟩ := hf i 3 f3 hi rfl
      rw [h3] at q0
      rw [h4] at q1
      rw [h5] at q2
      rw [h6] at q3
      obtain ⟨x0, e0, _, w0⟩ := DataW.trod_int hu q0
      obtain ⟨x1, e1, _, w1⟩ := DataW.trod_int hu q1
      obtain ⟨x2, e2, _, w2⟩ := DataW.trod_string hv q2
      obtain ⟨x3, e3, _, w3⟩ := DataW.trod_int hu q3
      refine ⟨⟨x0, x1, x2, x3⟩, ⟨bounds_i64 w0, bounds_i64 w1, w2, bounds_i64 w3⟩, fun _ j hj => ?_⟩
      match j, hj with
      | 0, _ => show F i 0 = .int .i64 x0; simpa using e0
      | 1, _ => show F i 1 = .int .i64 x1; simpa using e1
      | 2, _ => show F i 2 = .string x2; simpa using e2
      | 3, _ => show F i 3 = .int .i64 x3; simpa using e3
    · exact ⟨tk0, ⟨by decide, by decide, by decide, by decide⟩, fun h => absurd h hi⟩
  refine ⟨fun i => Classical.choose (hex i), hn, fun i => (Classical.choose_spec (hex i)).1, fun hp => ?_⟩
  obtain ⟨b, o, e, hb, hc⟩ := hs hp
  exact ⟨b, o, e, hb, fun i j hi hj => (hc i j hi hj).trans (by rw [(Classical.choose_spec (hex i)).2 hi j hj])⟩
end
theorem Seg.tok {w : World} {b o n : Nat} {f : Nat → Tk} (hc : ∀ i j, i < n → j < 4 → w.cell? ⟨b, o + i * 4 + j, none⟩ = some ((f i).cell j)) {i : Nat} (hi : i < n) :
    w.cell? ⟨b, o + i * 4, none⟩ = some (.int .i64 (f i).k) ∧ w.cell? ⟨b, o + i * 4 + 1, none⟩ = some (.int .i64 (f i).a) ∧ w.cell? ⟨b, o + i * 4 + 2, none⟩ = some (.string (f i).t) ∧ w.cell? ⟨b, o + i * 4 + 3, none⟩ = some (.int .i64 (f i).v) :=
  ⟨hc i 0 hi (by omega), hc i 1 hi (by omega), hc i 2 hi (by omega), hc i 3 hi (by omega)⟩
theorem toToken_any (k a : Int) (t : ByteArray) (v : Int) (w : World) :
    Calls Tryd.prog 16 #[.agg #[.int .i64 k, .int .i64 a, .string t, .int .i64 v]] w fun e w' => e = .returned (.agg #[.int .i64 k, .int .i64 a, .string t, .int .i64 v]) ∧ Below w.heap.size w w' := by
  go_enter Tryd.func16, Tryd.ntmps16
  go_wp2
  exact bodyPost_ret (v := .agg #[.int .i64 k, .int .i64 a, .string t, .int .i64 v]) (by simp [results, Tryd.results16, go_sem]) rfl ⟨rfl, by repeat (first | exact Below.refl _ _ | assumption | refine Below.alloc ?_ (by simp; try omega) _ | refine Below.setCell ?_ (by simp; try omega) _ | refine Below.drew ?_)⟩
theorem eqToken_any (k a : Int) (t : ByteArray) (v : Int) (w : World) :
    Calls Tryd.prog 20 #[.agg #[.int .i64 k, .int .i64 a, .string t, .int .i64 v], .agg #[.int .i64 k, .int .i64 a, .string t, .int .i64 v]] w fun e w' => e = .returned (.bool true) ∧ Below w.heap.size w w' := by
  go_enter Tryd.func20, Tryd.ntmps20
  go_wp2
  go_ret
  exact ⟨rfl, by repeat (first | exact Below.refl _ _ | assumption | refine Below.alloc ?_ (by simp; try omega) _ | refine Below.setCell ?_ (by simp; try omega) _ | refine Below.drew ?_)⟩
theorem szToken_small (k a : Int) (t : ByteArray) (v left : Int) (w : World) (h0 : 0 ≤ left) (h1 : left ≤ 1048576) (h : (t.size : Int) ≤ left) :
    Calls Tryd.prog 14 #[.agg #[.int .i64 k, .int .i64 a, .string t, .int .i64 v], .int .i64 left] w fun e w' => e = .returned (.int .i64 (left - (t.size : Int))) ∧ Below w.heap.size w w' := by
  have h2 : ¬ left - (t.size : Int) < 0 := by omega
  go_enter Tryd.func14, Tryd.ntmps14
  go_wp2
  go_ret
  exact ⟨rfl, by repeat (first | exact Below.refl _ _ | assumption | refine Below.alloc ?_ (by simp; try omega) _ | refine Below.setCell ?_ (by simp; try omega) _ | refine Below.drew ?_)⟩
theorem szToken_big (k a : Int) (t : ByteArray) (v left : Int) (w : World) (h0 : 0 ≤ left) (h1 : left ≤ 1048576) (ht : t.size ≤ 9223372036854775807) (h : left < (t.size : Int)) :
    Calls Tryd.prog 14 #[.agg #[.int .i64 k, .int .i64 a, .string t, .int .i64 v], .int .i64 left] w fun e w' => e = .returned (.int .i64 (-1)) ∧ Below w.heap.size w w' := by
  have h2 : left - (t.size : Int) < 0 := by omega
  go_enter Tryd.func14, Tryd.ntmps14
  go_wp2
  go_ret
  exact ⟨rfl, by repeat (first | exact Below.refl _ _ | assumption | refine Below.alloc ?_ (by simp; try omega) _ | refine Below.setCell ?_ (by simp; try omega) _ | refine Below.drew ?_)⟩
set_option maxHeartbeats 1000000 in
theorem eqTokenS_some (b o c b' o' c' n : Nat) (f : Nat → Tk) (w : World) (hn : n ≤ 1048576) (hl : b < w.heap.size) (hl' : b' < w.heap.size) (hcells : ∀ i, i < n → w.cell? ⟨b, o + i * 4, none⟩ = some (.int .i64 (f i).k) ∧ w.cell? ⟨b, o + i * 4 + 1, none⟩ = some (.int .i64 (f i).a) ∧ w.cell? ⟨b, o + i * 4 + 2, none⟩ = some (.string (f i).t) ∧ w.cell? ⟨b, o + i * 4 + 3, none⟩ = some (.int .i64 (f i).v))
    (hcells' : ∀ i, i < n → w.cell? ⟨b', o' + i * 4, none⟩ = some (.int .i64 (f i).k) ∧ w.cell? ⟨b', o' + i * 4 + 1, none⟩ = some (.int .i64 (f i).a) ∧ w.cell? ⟨b', o' + i * 4 + 2, none⟩ = some (.string (f i).t) ∧ w.cell? ⟨b', o' + i * 4 + 3, none⟩ = some (.int .i64 (f i).v)) :
    Calls Tryd.prog 27 #[.slice (some ⟨b, o, none⟩) n c, .slice (some ⟨b', o', none⟩) n c'] w fun e w' => e = .returned (.bool true) ∧ Below w.heap.size w w' := by
  have H := Lib.hid hcells
  have H' := Lib.hid hcells'
  clear hcells hcells'
  go_enter Tryd.func27, Tryd.ntmps27
  go_wp2
  go_loopw [5] (fun i wr => ∃ k : Nat, k ≤ n ∧ i = .int .i64 k ∧ Below w.heap.size w wr) (fun i _ => n - (intOf i).toNat)
  case atStart => exact ⟨0, Nat.zero_le _, rfl, Below.refl _ _⟩
  case round =>
    obtain ⟨k, hk, rfl, hb⟩ := hrel
    have HB := Lib.hid hb
    clear hb
    by_cases hlt : k < n
    · obtain ⟨x0, x1, x2, x3⟩ := H.out k hlt
      obtain ⟨z0, z1, z2, z3⟩ := H'.out k hlt
      have a0 : wr.cell? ⟨b, o + k * 4, none⟩ = some (.int .i64 (f k).k) := (HB.out.cell hl).trans x0
      have a1 : wr.cell? ⟨b, o + k * 4 + 1, none⟩ = some (.int .i64 (f k).a) := (HB.out.cell hl).trans x1
      have a2 : wr.cell? ⟨b, o + k * 4 + 2, none⟩ = some (.string (f k).t) := (HB.out.cell hl).trans x2
      have a3 : wr.cell? ⟨b, o + k * 4 + 3, none⟩ = some (.int .i64 (f k).v) := (HB.out.cell hl).trans x3
      have c0 : wr.cell? ⟨b', o' + k * 4, none⟩ = some (.int .i64 (f k).k) := (HB.out.cell hl').trans z0
      have c1 : wr.cell? ⟨b', o' + k * 4 + 1, none⟩ = some (.int .i64 (f k).a) := (HB.out.cell hl').trans z1
      have c2 : wr.cell? ⟨b', o' + k * 4 + 2, none⟩ = some (.string (f k).t) := (HB.out.cell hl').trans z2
      have c3 : wr.cell? ⟨b', o' + k * 4 + 3, none⟩ = some (.int .i64 (f k).v) := (HB.out.cell hl').trans z3
      clear x0 x1 x2 x3 z0 z1 z2 z3
      have hlt' : (k : Int) < (n : Int) := by omega
      generalize f k = x at *
      have HE : Hid (∀ W, _) := fun W => eqToken_any x.k x.a x.t x.v W
      go_wp2_with fail
      go_region_with ((go_at_call 20; refine (HE.out _).mono ?_; rintro e w1 ⟨rfl, hb1⟩))
      all_goals
        have HB1 := Lib.hid (HB.out.drew.trans (hb1.mono HB.out.size))
        clear hb1
        go_wp2_with fail
        go_roundw
        case rel => exact ⟨k + 1, by omega, by go_num, HB1.out⟩
        case measure => simp [intOf]; omega
    · go_wp2
      go_ret
      exact ⟨rfl, HB.out⟩
theorem eqTokenS_nil (A A' : Option Addr) (c c' : Nat) (w : World) : Calls Tryd.prog 27 #[.slice A 0 c, .slice A' 0 c'] w fun e w' => e = .returned (.bool true) ∧ w = w' := by
  go_enter Tryd.func27, Tryd.ntmps27
  go_wp2
  refine wp_loop_rounds 1 ?_; rw [rounds_succ]
  go_wp2
  go_ret
  exact ⟨rfl, rfl⟩
theorem eqTokenS_own (g g' c c' n : Nat) (f : Nat → Tk) (w : World) (hn : n ≤ 1048576) (h : OwnT w g n f) (h' : OwnT w g' n f) :
    Calls Tryd.prog 27 #[.slice (some ⟨g, 0, none⟩) n c, .slice (some ⟨g', 0, none⟩) n c'] w fun e w' => e = .returned (.bool true) ∧ Below w.heap.size w w' :=
  eqTokenS_some g 0 c g' 0 c' n f w hn h.1 h'.1 (fun i hi => by simpa using h.at_ hi) (fun i hi => by simpa using h'.at_ hi)
theorem run_make_T (n : Nat) (hn : n ≤ 1048576) (W : World) : (Instr.makeSlice 42 (.int .i64 n) (.int .i64 n)).run Tryd.prog W = .ok (.slice (some ⟨W.heap.size, 0, none⟩) n n) (W.alloc (.cells (madeCells #[.int .i64 0, .int .i64 0, .string ⟨#[]⟩, .int .i64 0] (n * 4)) 27)) := by
  obtain ⟨i, hi, hz, hs, hby⟩ := info_parts infoT
  have hr := run_make (P := Tryd.prog) W 42 27 i _ Tryd.underlying42 hi hz .i64 .i64 n n (by omega) (by omega) (by rw [hby]; omega) (by omega)
  rw [hs] at hr
  exact hr
theorem madeT (w : World) (n : Nat) : OwnT (w.alloc (.cells (madeCells #[.int .i64 0, .int .i64 0, .string ⟨#[]⟩, .int .i64 0] (n * 4)) 27)) w.heap.size n (fun _ => tk0) :=
  ⟨by simp, fun i hi => ⟨(World.cell?_alloc_at (hn := rfl) ..).trans (by
    have h2 : i % 4 < 4 := Nat.mod_lt _ (by omega)
    rw [flatT, madeCells, Array.getElem?_map, Array.getElem?_range]
    simp only [hi, if_true, Option.map_some]
    match i % 4, h2 with
    | 0, _ => simp [Tk.cell, tk0]
    | 1, _ => simp [Tk.cell, tk0]
    | 2, _ => simp [Tk.cell, tk0]
    | 3, _ => simp [Tk.cell, tk0]), World.frozen?_alloc_at (hn := rfl) ..⟩⟩
/-- The first k are copied. -/
def cpT (f : Nat → Tk) (k : Nat) : Nat → Tk := fun i => if i < k then f i else tk0
theorem cpT_step (f : Nat → Tk) (k : Nat) : putT (cpT f k) k (f k) = cpT f (k + 1) := by
  funext i
  unfold putT cpT
  by_cases h : i = k
  · subst h; rw [if_pos rfl, if_pos (by omega)]
  · rw [if_neg h]
    by_cases h2 : i < k
    · rw [if_pos h2, if_pos (by omega)]
    · rw [if_neg h2, if_neg (by omega)]
set_option maxHeartbeats 1000000 in
theorem toTokenS_some (b o n c : Nat) (f : Nat → Tk) (w : World) (hn : n ≤ 1048576) (hbl : b < w.heap.size) (hcells : ∀ i, i < n → w.cell? ⟨b, o + i * 4, none⟩ = some (.int .i64 (f i).k) ∧ w.cell? ⟨b, o + i * 4 + 1, none⟩ = some (.int .i64 (f i).a) ∧ w.cell? ⟨b, o + i * 4 + 2, none⟩ = some (.string (f i).t) ∧ w.cell? ⟨b, o + i * 4 + 3, none⟩ = some (.int .i64 (f i).v)) :
    Calls Tryd.prog 24 #[.slice (some ⟨b, o, none⟩) n c] w fun e w' => e = .returned (.slice (some ⟨w.heap.size, 0, none⟩) n n) ∧ OwnT w' w.heap.size n f ∧ Below w.heap.size w w' := by
  have hmk := run_make_T n (by omega)
  have H := Lib.hid hcells
  clear hcells
  go_enter Tryd.func24, Tryd.ntmps24
  go_wp2
  go_loopw [4] (fun i wr => ∃ k : Nat, k ≤ n ∧ i = .int .i64 k ∧ OwnT wr w.heap.size n (cpT f k) ∧ Below w.heap.size w wr) (fun i _ => n - (intOf i).toNat)
  case atStart => exact ⟨0, Nat.zero_le _, rfl, madeT w n, (Below.refl _ _).alloc (Nat.le_refl _) _⟩
  case round =>
    obtain ⟨k, hk, rfl, hrow, hb⟩ := hrel
    by_cases hlt : k < n
    · obtain ⟨x0, x1, x2, x3⟩ := H.out k hlt
      have a0 : wr.cell? ⟨b, o + k * 4, none⟩ = some (.int .i64 (f k).k) := (hb.cell hbl).trans x0
      have a1 : wr.cell? ⟨b, o + k * 4 + 1, none⟩ = some (.int .i64 (f k).a) := (hb.cell hbl).trans x1
      have a2 : wr.cell? ⟨b, o + k * 4 + 2, none⟩ = some (.string (f k).t) := (hb.cell hbl).trans x2
      have a3 : wr.cell? ⟨b, o + k * 4 + 3, none⟩ = some (.int .i64 (f k).v) := (hb.cell hbl).trans x3
      have HR := Lib.hid hrow
      have HB := Lib.hid hb
      have hsz : w.heap.size < wr.heap.size := hrow.1
      have HST := Lib.hid (cpT_step f k)
      clear hrow hb hmk x0 x1 x2 x3
      generalize f k = x at *
      have HT : Hid (∀ W, _) := fun W => toToken_any x.k x.a x.t x.v W
      go_wp2_with fail
      refine (HT.out _).mono ?_
      rintro e w1 ⟨rfl, hb1⟩
      have HR1 := Lib.hid (HR.out.later hb1)
      have HB1 := Lib.hid (HB.out.trans (hb1.mono HB.out.size))
      obtain ⟨y0, y1, y2, y3⟩ := HR1.out.at_ hlt
      obtain ⟨z0, z1, z2, z3⟩ := HR1.out.frz hlt
      clear hb1
      go_wp2_with fail
      go_roundw
      case rel => exact ⟨k + 1, by omega, by go_num, HST.out ▸ HR1.out.put hlt x, (((HB1.out.setCell (Nat.le_refl _) _).setCell (Nat.le_refl _) _).setCell (Nat.le_refl _) _).setCell (Nat.le_refl _) _⟩
      case measure => simp [intOf]; omega
    · have HR := Lib.hid hrow
      have HB := Lib.hid hb
      clear hrow hb hmk
      go_wp2
      go_ret
      have hkn : k = n := by omega
      subst hkn
      exact ⟨rfl, Own.congr HR.out fun m hm => by rw [flatT, flatT, cpT, if_pos (by omega)], HB.out⟩
theorem toTokenS_any (A : Option Addr) (n c : Nat) (f : Nat → Tk) (w : World) (hn : n ≤ 1048576) (hr : Seg w w.heap.size 4 A n fun i j => (f i).cell j) :
    Calls Tryd.prog 24 #[.slice A n c] w fun e w' => e = .returned (.slice (some ⟨w.heap.size, 0, none⟩) n n) ∧ OwnT w' w.heap.size n f ∧ Below w.heap.size w w' := by
  rcases Nat.eq_zero_or_pos n with rfl | h0
  · have hmk := run_make_T 0 (by omega)
    simp only [Int.natCast_zero, Nat.zero_mul] at hmk
    clear hr
    go_enter Tryd.func24, Tryd.ntmps24
    go_wp2
    refine wp_loop_rounds 1 ?_; rw [rounds_succ]
    go_wp2
    go_ret
    exact ⟨rfl, ⟨by simp, fun i hi => absurd hi (by omega)⟩, (Below.refl _ _).alloc (Nat.le_refl _) _⟩
  · obtain ⟨b, o, rfl, hb, hc⟩ := hr h0
    exact toTokenS_some b o n c f w hn hb fun i hi => Seg.tok hc hi
/-- What is left of a room behind n tokens, -1 if it does not do. -/
def SzT (f : Nat → Tk) (n : Nat) (x : Int) : Prop := x = -1 ∨ (0 ≤ x ∧ n ≤ 1048576 ∧ ∀ i, i < n → (f i).t.size ≤ 1048576)
set_option maxHeartbeats 1000000 in
theorem szTokenS_any (A : Option Addr) (n c : Nat) (f : Nat → Tk) (w : World) (hn : n ≤ maxLen) (hok : ∀ i, (f i).Ok) (hr : Seg w w.heap.size 4 A n fun i j => (f i).cell j) :
    Calls Tryd.prog 22 #[.slice A n c, .int .i64 1048576] w fun e w' => ∃ x, e = .returned (.int .i64 x) ∧ SzT f n x ∧ Below w.heap.size w w' := by
  unfold maxLen at hn
  by_cases hbig : 1048576 < (n : Int)
  · have h2 : 1048576 - (n : Int) < 0 := by omega
    clear hok hr
    go_enter Tryd.func22, Tryd.ntmps22
    go_wp2
    go_ret
    exact ⟨_, rfl, .inl rfl, Below.refl _ _⟩
  have h2 : ¬ 1048576 - (n : Int) < 0 := by omega
  rcases Nat.eq_zero_or_pos n with rfl | h0
  · clear hok hr
    go_enter Tryd.func22, Tryd.ntmps22
    go_wp2
    refine wp_loop_rounds 1 ?_; rw [rounds_succ]
    go_wp2
    go_ret
    exact ⟨_, rfl, .inr ⟨by omega, by omega, fun i hi => absurd hi (by omega)⟩, Below.refl _ _⟩
  obtain ⟨b, o, rfl, hbl, hc⟩ := hr h0
  have H : Hid (∀ i, i < n → _) := fun i hi => Seg.tok hc hi
  have HO : Hid (∀ i, (f i).t.size ≤ 9223372036854775807) := fun i => by have := (hok i).2.2.1; unfold maxLen at this; omega
  clear hok hc hr
  go_enter Tryd.func22, Tryd.ntmps22
  go_wp2
  go_loopw [1, 5] (fun lf i wr => ∃ (k : Nat) (x : Int), k ≤ n ∧ i = .int .i64 k ∧ lf = .int .i64 x ∧ 0 ≤ x ∧ x ≤ 1048576 ∧ (∀ j, j < k → (f j).t.size ≤ 1048576) ∧ Below w.heap.size w wr) (fun _ i _ => n - (intOf i).toNat)
  case atStart => exact ⟨0, 1048576 - (n : Int), Nat.zero_le _, rfl, rfl, by omega, by omega, fun j hj => absurd hj (by omega), Below.refl _ _⟩
  case round =>
    obtain ⟨k, x, hk, rfl, rfl, hx0, hx1, hall, hb⟩ := hrel
    have HB := Lib.hid hb
    have HA := Lib.hid hall
    clear hb hall
    by_cases hlt : k < n
    · obtain ⟨x0, x1, x2, x3⟩ := H.out k hlt
      have a0 := (HB.out.cell (p := ⟨b, o + k * 4, none⟩) hbl).trans x0
      have a1 := (HB.out.cell (p := ⟨b, o + k * 4 + 1, none⟩) hbl).trans x1
      have a2 := (HB.out.cell (p := ⟨b, o + k * 4 + 2, none⟩) hbl).trans x2
      have a3 := (HB.out.cell (p := ⟨b, o + k * 4 + 3, none⟩) hbl).trans x3
      clear x0 x1 x2 x3
      have hts := HO.out k
      obtain ⟨y, hy⟩ : ∃ y, f k = y := ⟨_, rfl⟩
      rw [hy] at a0 a1 a2 a3 hts
      have HY := Lib.hid hy
      clear hy
      have hlt' : (k : Int) < (n : Int) := by omega
      by_cases hfit : (y.t.size : Int) ≤ x
      · have HT : Hid (∀ W, _) := fun W => szToken_small y.k y.a y.t y.v x W hx0 hx1 hfit
        go_wp2_with fail
        refine (HT.out _).mono ?_
        rintro e w1 ⟨rfl, hb1⟩
        have HB1 := Lib.hid (HB.out.trans (hb1.mono HB.out.size))
        clear hb1
        go_wp2_with fail
        go_roundw
        case rel => exact ⟨k + 1, x - (y.t.size : Int), by omega, by go_num, rfl, by omega, by omega, fun j hj => by rcases Nat.lt_succ_iff_lt_or_eq.1 hj with h | rfl; exact HA.out j h; rw [HY.out]; omega, HB1.out⟩
        case measure => simp [intOf]; omega
      · have HT : Hid (∀ W, _) := fun W => szToken_big y.k y.a y.t y.v x W hx0 hx1 hts (by omega)
        go_wp2_with fail
        refine (HT.out _).mono ?_
        rintro e w1 ⟨rfl, hb1⟩
        have HB1 := Lib.hid (HB.out.trans (hb1.mono HB.out.size))
        clear hb1
        go_wp2_with fail
        go_ret
        exact ⟨_, rfl, .inl rfl, HB1.out⟩
    · have hkn : k = n := by omega
      have HK := Lib.hid hkn
      clear hkn
      go_wp2
      go_ret
      exact ⟨x, rfl, .inr ⟨hx0, by omega, fun i hi => HA.out i (by have := HK.out; omega)⟩, HB.out⟩
end Go.Proofs.YtopolfibledmnaaDoor
