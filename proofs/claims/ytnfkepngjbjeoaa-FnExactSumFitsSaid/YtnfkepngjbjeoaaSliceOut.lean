/-
  What a function that returns a slice and a bool leaves: the slice is of the call's own making, its cells are F's values; old memory stands. And small words for rows that grow by append.
-/
import Derived.Test.YtnfkepngjbjeoaaProg
import Derived.WalkKit
import Derived.Outline
import Derived.WalkLawsBesides
import Derived.Test.YtnfkepngjbjeoaaBase
import Derived.Lib.Hide
import Derived.OwnWalk
import Derived.Maps.AppendAt
import Derived.Laws.MakeOwn
namespace Go.Proofs.Ytnfkepngjbjeoaa
open Go.RowKit
def SliceOut (w : World) (m : Nat) (F : Nat → Value) (ok : Bool) (e : Ending) (w' : World) : Prop :=
  ∃ A c, e = .returned (.tuple #[.slice A m c, .bool ok]) ∧ (0 < m → ∃ g, A = some ⟨g, 0, none⟩ ∧ w.heap.size ≤ g ∧ Own w' g m F) ∧ Below w.heap.size w w'
/-- A row of the call's own, as append's law has it, as a function of the index. -/
def Grows (w : World) (base : Nat) (e : TypeId) (v : Value) (n : Nat) (F : Nat → Value) : Prop := w.ownsRow base e 1 v n ((List.range n).map F)
theorem Grows.nil (w : World) (base : Nat) (e : TypeId) (F : Nat → Value) : Grows w base e (.slice none 0 0) 0 F := World.ownsRow_nil _ _ _ _
theorem Grows.congr {w : World} {base : Nat} {e : TypeId} {v : Value} {n : Nat} {F G : Nat → Value} (h : Grows w base e v n F) (he : ∀ i, i < n → F i = G i) : Grows w base e v n G := by
  unfold Grows at *
  rwa [show (List.range n).map G = (List.range n).map F from List.map_congr_left fun i hi => (he i (List.mem_range.1 hi)).symm]
theorem Grows.snoc {w : World} {base : Nat} {e : TypeId} {v : Value} {n : Nat} {F : Nat → Value} (h : w.ownsRow base e 1 v (n + 1) ((List.range n).map F ++ [F n])) : Grows w base e v (n + 1) F := by
  unfold Grows
  rwa [List.range_succ, List.map_append]
theorem Grows.snoc2 {w : World} {base : Nat} {e : TypeId} {v : Value} {n : Nat} {F : Nat → Value} (h : w.ownsRow base e 1 v (n + 2) ((List.range n).map F ++ [F n, F (n + 1)])) : Grows w base e v (n + 2) F := by
  unfold Grows
  rw [show n + 2 = (n + 1) + 1 from rfl, List.range_succ, List.range_succ, List.map_append, List.map_append]
  simpa using h
theorem Grows.form {w : World} {base : Nat} {e : TypeId} {v : Value} {n : Nat} {F : Nat → Value} (h : Grows w base e v n F) : ∃ A c, v = .slice A n c ∧ (0 < n → ∃ g, A = some ⟨g, 0, none⟩ ∧ base ≤ g ∧ Own w g n F) := by
  have h0 := h
  unfold Grows at h0
  rcases h0.2 with ⟨rfl, rfl⟩ | ⟨g, cap, cur, rfl, hb, _⟩
  · exact ⟨none, 0, rfl, fun hn => absurd hn (by omega)⟩
  · exact ⟨some ⟨g, 0, none⟩, cap, rfl, fun _ => ⟨g, rfl, hb, (Own.of_owns (z := .int .i64 0) h0).congr fun i hi => by
      simp [hi]⟩⟩
theorem Grows.ownBlock {w : World} {base : Nat} {e : TypeId} {v : Value} {n : Nat} {F : Nat → Value} (h : Grows w base e v n F) : ∀ k, v.ownBlock = some k → base ≤ k := fun k hk => (World.ownsRow.lt h k hk).1
theorem Own.lit (w : World) (cs : Array Value) (t : TypeId) (m : Nat) (F : Nat → Value) (h : ∀ i, i < m → cs[i]? = some (F i)) : Own (w.alloc (.cells cs t)) w.heap.size m F :=
  ⟨by simp, fun i hi => ⟨(World.cell?_alloc_at (hn := rfl) ..).trans (h i hi), World.frozen?_alloc_at (hn := rfl) ..⟩⟩
theorem news_one (w : World) (x : Value) (t : TypeId) : ∀ (j : Nat) (u : Value), [x][j]? = some u → (w.alloc (.cells #[x] t)).cell? ((⟨w.heap.size, 0, none⟩ : Addr).add j) = some u := by
  intro j u hj
  match j, hj with
  | 0, hj => simp at hj; subst hj; simp [Addr.add]
theorem news_two (w : World) (x y : Value) (t : TypeId) : ∀ (j : Nat) (u : Value), [x, y][j]? = some u → (w.alloc (.cells #[x, y] t)).cell? ((⟨w.heap.size, 0, none⟩ : Addr).add j) = some u := by
  intro j u hj
  match j, hj with
  | 0, hj => simp at hj; subst hj; simp [Addr.add]
  | 1, hj => simp at hj; subst hj; simp [Addr.add]
/-- 'make([]T, 0, c)' for elements of one cell. -/
theorem run_make_cap {P : Program} (t e : TypeId) (z : Value) (bytes : Nat) (ht : P.underlying t = some (.slice e)) (hinfo : (P.info? e).map (fun i => (i.zero, i.size, i.bytes)) = some (some z, 1, bytes)) (hz1 : z.cells = #[z])
    (x : Int) (h0 : 0 ≤ x) (hb : (bytes : Int) * x ≤ 281474976710656) (h63 : x ≤ 9223372036854775807) (w : World) :
    (Instr.makeSlice t (.int .i64 0) (.int .i64 x)).run P w = .ok (.slice (some ⟨w.heap.size, 0, none⟩) 0 x.toNat) (w.alloc (.cells (madeCells #[z] x.toNat) e)) := by
  obtain ⟨i, hi, hz, hs, hby⟩ := info_parts hinfo
  have hr := run_make (P := P) w t e i z ht hi hz .i64 .i64 0 x (by omega) h0 (by rw [hby]; exact hb) h63
  rw [hs, hz1, Nat.mul_one] at hr
  exact hr
theorem Grows.made (w : World) (base : Nat) (e : TypeId) (z : Value) (c : Nat) (F : Nat → Value) (hb : base ≤ w.heap.size) (hc : c ≤ maxLen) :
    Grows (w.alloc (.cells (madeCells #[z] c) e)) base e (.slice (some ⟨w.heap.size, 0, none⟩) 0 c) 0 F := World.ownsRow_made _ _ _ hb hc (by simp [madeCells])
theorem SliceOut.none_ (w : World) (F : Nat → Value) : SliceOut w 0 F false (.returned (.tuple #[.slice none 0 0, .bool false])) w := ⟨none, 0, rfl, fun h => absurd h (by omega), Below.refl _ _⟩
theorem SliceOut.some_ {w : World} {m : Nat} {F : Nat → Value} {ok : Bool} {e : Ending} {w' : World} (h : SliceOut w m F ok e w') (hm : 0 < m) :
    ∃ g c, e = .returned (.tuple #[.slice (some ⟨g, 0, none⟩) m c, .bool ok]) ∧ w.heap.size ≤ g ∧ Own w' g m F ∧ Below w.heap.size w w' := by
  obtain ⟨A, c, he, hA, hb⟩ := h
  obtain ⟨g, rfl, hg, ho⟩ := hA hm
  exact ⟨g, c, he, hg, ho, hb⟩
theorem SliceOut.zero_ {w : World} {F : Nat → Value} {ok : Bool} {e : Ending} {w' : World} (h : SliceOut w 0 F ok e w') :
    ∃ A c, e = .returned (.tuple #[.slice A 0 c, .bool ok]) ∧ Below w.heap.size w w' := by
  obtain ⟨A, c, he, _, hb⟩ := h
  exact ⟨A, c, he, hb⟩
theorem Own.other {w w' : World} {g n : Nat} {F : Nat → Value} (h : Own w g n F) (hs : w.heap.size = w'.heap.size) (ho : w'.heap[g]? = w.heap[g]?) : Own w' g n F :=
  ⟨by rw [← hs]; exact h.1, fun i hi => ⟨(World.cell?_of_block (w := w) ho).trans (h.cell hi), (World.frozen?_of_block (w := w) ho).trans (h.frozen hi)⟩⟩
end Go.Proofs.Ytnfkepngjbjeoaa
