/-
  Words of my own for slices that come in, by index: 'Row': a row of one-cell elements; 'Seg': a row of elements of several cells. And how an argument that reads as data is opened to them.
-/
import Derived.WalkKit
import Derived.ProofKit
import Derived.OpenShut
import Derived.Below
import Derived.ChangeOld
import Derived.Deep.Slices
import Derived.Deep.Fields
import Derived.Deep.OwnRows
import Derived.Laws.OwnMore
namespace Go.Proofs.YtopolfibledmnaaDoor
open Go.ChangeShapes Go.WideShapes Go.RowKit Go.Deep

/-- The slice '.slice A n _' holds the values 'F 0', .. 'F (n - 1)', one cell each, in a block below 'B'. -/
def Row (w : World) (B : Nat) (A : Option Addr) (n : Nat) (F : Nat → Value) : Prop :=
  0 < n → ∃ b o, A = some ⟨b, o, none⟩ ∧ b < B ∧ ∀ i, i < n → w.cell? ⟨b, o + i, none⟩ = some (F i)
/-- The same with 'k' cells an element: cell j of element i holds 'F i j'. -/
def Seg (w : World) (B k : Nat) (A : Option Addr) (n : Nat) (F : Nat → Nat → Value) : Prop :=
  0 < n → ∃ b o, A = some ⟨b, o, none⟩ ∧ b < B ∧ ∀ i j, i < n → j < k → w.cell? ⟨b, o + i * k + j, none⟩ = some (F i j)

section
variable {w w' : World} {B k n : Nat} {A : Option Addr}
theorem Row.keep {F : Nat → Value} (h : Row w B A n F) (hk : ∀ b o, b < B → w'.cell? ⟨b, o, none⟩ = w.cell? ⟨b, o, none⟩) : Row w' B A n F := fun hn => by
  obtain ⟨b, o, e, hb, hc⟩ := h hn
  exact ⟨b, o, e, hb, fun i hi => (hk _ _ hb).trans (hc i hi)⟩
theorem Row.below {F : Nat → Value} (h : Row w B A n F) (hb : Below B w w') : Row w' B A n F := h.keep fun _ _ hl => hb.cell hl
theorem Row.more {F : Nat → Value} {B' : Nat} (h : Row w B A n F) (hB : B ≤ B') : Row w B' A n F := fun hn => by
  obtain ⟨b, o, e, hb, hc⟩ := h hn
  exact ⟨b, o, e, by omega, hc⟩
theorem Seg.keep {F : Nat → Nat → Value} (h : Seg w B k A n F) (hk : ∀ b o, b < B → w'.cell? ⟨b, o, none⟩ = w.cell? ⟨b, o, none⟩) : Seg w' B k A n F := fun hn => by
  obtain ⟨b, o, e, hb, hc⟩ := h hn
  exact ⟨b, o, e, hb, fun i j hi hj => (hk _ _ hb).trans (hc i j hi hj)⟩
theorem Seg.below {F : Nat → Nat → Value} (h : Seg w B k A n F) (hb : Below B w w') : Seg w' B k A n F := h.keep fun _ _ hl => hb.cell hl
theorem Seg.more {F : Nat → Nat → Value} {B' : Nat} (h : Seg w B k A n F) (hB : B ≤ B') : Seg w B' k A n F := fun hn => by
  obtain ⟨b, o, e, hb, hc⟩ := h hn
  exact ⟨b, o, e, by omega, hc⟩
end

/-- Block g holds, in its first n cells, F's values, and none of them is frozen. -/
def Own (w : World) (g n : Nat) (F : Nat → Value) : Prop := g < w.heap.size ∧ ∀ i, i < n → w.cell? ⟨g, i, none⟩ = some (F i) ∧ w.frozen? ⟨g, i, none⟩ = false
section
variable {w w' : World} {B g n : Nat} {F G : Nat → Value}
theorem Own.cell (h : Own w g n F) {i : Nat} (hi : i < n) : w.cell? ⟨g, i, none⟩ = some (F i) := (h.2 i hi).1
theorem Own.frozen (h : Own w g n F) {i : Nat} (hi : i < n) : w.frozen? ⟨g, i, none⟩ = false := (h.2 i hi).2
theorem Own.congr (h : Own w g n F) (e : ∀ i, i < n → F i = G i) : Own w g n G := ⟨h.1, fun i hi => ⟨by rw [h.cell hi, e i hi], h.frozen hi⟩⟩
theorem Own.below (h : Own w g n F) (hb : Below B w w') (hg : g < B) : Own w' g n F :=
  ⟨Nat.lt_of_lt_of_le h.1 hb.size, fun i hi => ⟨(hb.cell (p := ⟨g, i, none⟩) hg).trans (h.cell hi), (hb.frozen (p := ⟨g, i, none⟩) hg).trans (h.frozen hi)⟩⟩
theorem Own.later (h : Own w g n F) (hb : Below w.heap.size w w') : Own w' g n F := h.below hb h.1
theorem Own.row (h : Own w g n F) : Row w w.heap.size (some ⟨g, 0, none⟩) n F := fun _ => ⟨g, 0, rfl, h.1, fun i hi => by rw [Nat.zero_add]; exact h.cell hi⟩
theorem Own.of_row {t : TypeId} (h : w.rowIs g t n F) : Own w g n F := ⟨h.lt, fun i hi => ⟨h.cell hi, h.frozen i⟩⟩
theorem Own.fewer {m : Nat} (h : Own w g n F) (hm : m ≤ n) : Own w g m F := ⟨h.1, fun i hi => h.2 i (by omega)⟩
theorem Own.set (h : Own w g n F) {i : Nat} (hi : i < n) (v : Value) : Own (w.setCell ⟨g, i, none⟩ v) g n (fun j => if j = i then v else F j) := by
  refine ⟨by simpa [World.setCell] using h.1, fun j hj => ?_⟩
  have hc := h.cell hi
  have hc' := h.cell hj
  have hf := h.frozen hj
  cases hb : w.heap[g]? with
  | none => simp [World.cell?, hb] at hc
  | some o =>
    cases o with
    | cells cs t fr =>
      simp only [World.cell?, World.frozen?, World.setCell, hb, Array.getElem?_modify, if_true, Option.map_some] at hc hc' hf ⊢
      by_cases e : j = i
      · subst e
        have hlt : j < cs.size := by
          rcases Nat.lt_or_ge j cs.size with h1 | h1
          · exact h1
          · simp [Array.getElem?_eq_none h1] at hc
        simp [hlt, hf]
      · simp at hc'
        simp [e, Ne.symm e, hc', hf]
    | _ => simp [World.cell?, hb] at hc
theorem Own.of_owns {base : Nat} {e : TypeId} {cap : Nat} {xs : List Value} {z : Value} (h : w.ownsRow base e 1 (.slice (some ⟨g, 0, none⟩) n cap) n xs) : Own w g n fun i => xs.getD i z :=
  ⟨(h.lt g rfl).2, fun i hi => ⟨by
    rw [h.cellAt i (by omega)]
    have hl : xs.length = n := by have := h.1; omega
    show xs[i]? = some (xs.getD i z)
    rw [List.getD_eq_getElem?_getD, List.getElem?_eq_getElem (by omega)]
    rfl, h.frozenAt i⟩⟩
end

theorem cell_lt_size {w : World} {b o : Nat} {v : Value} (h : w.cell? ⟨b, o, none⟩ = some v) : b < w.heap.size := by
  rcases Nat.lt_or_ge b w.heap.size with h1 | h1
  · exact h1
  · simp [World.cell?, Array.getElem?_eq_none h1] at h

section
variable {H : Type} {enc : TypeId × Value → H} {P : Program} {w : World} {spare : Nat → Bool} {held : Bool}

/-- A slice of integers that came in. -/
theorem open_row {t e : TypeId} {k : IntKind} {fuel n c : Nat} {A : Option Addr} {d : DataW H} {p : List MemPlace} (ht : P.underlying t = some (.slice e)) (he : P.underlying e = some (.int k)) (hC : P.cellsOf e = 1)
    (h : DataW.trod enc P w 0 spare held fuel t #[.slice A n c].toList = some (d, p)) :
    ∃ f : Nat → Int, (∀ i, (Lit.int k (f i)).wf = true) ∧ n ≤ maxLen ∧ Row w w.heap.size A n fun i => .int k (f i) := by
  have z0 : (Lit.int k 0).wf = true := by cases k <;> decide
  rcases open_ints ht he hC h with ⟨hcs, _⟩ | ⟨x, l, c', zs, hcs, _, hl, hm, hz, _, hcell, hwz⟩
  · simp at hcs
    obtain ⟨rfl, rfl, rfl⟩ := hcs
    exact ⟨fun _ => 0, fun _ => z0, Nat.zero_le _, fun hn => absurd hn (by omega)⟩
  · simp at hcs
    obtain ⟨rfl, rfl, rfl⟩ := hcs
    have hz' : n ≤ zs.length := by rw [hz]; split <;> omega
    refine ⟨fun i => zs.getD i 0, fun i => ?_, by omega, fun hn => ?_⟩
    · show (Lit.int k (zs.getD i 0)).wf = true
      by_cases hi : i < zs.length
      · rw [List.getD_eq_getElem?_getD, List.getElem?_eq_getElem hi]
        exact hwz _ (List.getElem_mem hi)
      · rw [List.getD_eq_getElem?_getD, List.getElem?_eq_none (by omega)]
        exact z0
    · obtain ⟨b, o, spot⟩ := x
      have hc0 := hcell 0 (by omega)
      have hs : spot = none := by simpa [Addr.add] using World.cell?_spot hc0
      subst hs
      have hall : ∀ i, i < n → w.cell? ⟨b, o + i, none⟩ = some (.int k (zs.getD i 0)) := fun i hi => by
        have := hcell i (by omega)
        unfold Addr.add at this
        split at this
        · rename_i h0; subst h0; simpa using this
        · simpa using this
      exact ⟨b, o, rfl, cell_lt_size (hall 0 hn), hall⟩

/-- A slice of structs of one-cell fields that came in: the cells, and each field's own reading. -/
theorem open_segs {t e : TypeId} {fs : Array Field} {fuel n c : Nat} {A : Option Addr} {d : DataW H} {p : List MemPlace} (ht : P.underlying t = some (.slice e)) (he : P.underlying e = some (.struct fs))
    (hone : oneCellFields P fs = true) (hC : P.cellsOf e = fs.size) (h0 : 0 < fs.size) (h : DataW.trod enc P w 0 spare held fuel t #[.slice A n c].toList = some (d, p)) :
    n ≤ maxLen ∧ ∃ F : Nat → Nat → Value, Seg w w.heap.size fs.size A n F ∧
      ∀ i j f, i < n → fs[j]? = some f → ∃ (m : Nat) (y : DataW H × List MemPlace), DataW.trod enc P w 0 spare held m f.type [F i j] = some y := by
  rcases open_slice ht h with ⟨hcs, _⟩ | ⟨a, len, cap, m, q, D, Pl, hcs, _, hl, hm, hmm, _, hi⟩
  · simp at hcs
    obtain ⟨rfl, rfl, rfl⟩ := hcs
    exact ⟨Nat.zero_le _, fun _ _ => .int .i64 0, fun hn => absurd hn (by omega), fun i j f hi => absurd hi (by omega)⟩
  · simp at hcs
    obtain ⟨rfl, rfl, rfl⟩ := hcs
    refine ⟨by omega, fun i j => (w.cell? (a.add (i * fs.size + j))).getD (.int .i64 0), ?_, ?_⟩
    · have hm' : n ≤ m := by rw [hmm]; split <;> omega
      have hat : ∀ i j, i < n → j < fs.size → ∃ v, w.cell? (a.add (i * fs.size + j)) = some v := fun i j hi1 hj => by
        obtain ⟨cs', hc, _⟩ := hi i (by omega)
        rw [hC] at hc
        obtain ⟨_, hcl, hx⟩ := World.cells?_some hc
        have := hx j hj
        rw [Go.Deep.add_add] at this
        exact ⟨cs'[j]'(by omega), by rw [this, List.getElem?_eq_getElem]⟩
      intro hn
      obtain ⟨b, o, spot⟩ := a
      obtain ⟨v0, hv0⟩ := hat 0 0 hn h0
      have hs : spot = none := by simpa [Addr.add] using World.cell?_spot hv0
      subst hs
      have hall : ∀ i j, (⟨b, o, none⟩ : Addr).add (i * fs.size + j) = ⟨b, o + i * fs.size + j, none⟩ := fun i j => by
        unfold Addr.add
        split
        · simp_all
        · simp [Nat.add_assoc]
      refine ⟨b, o, rfl, ?_, fun i j hi1 hj => ?_⟩
      · have := hv0
        rw [hall] at this
        exact cell_lt_size this
      · obtain ⟨v, hv⟩ := hat i j hi1 hj
        dsimp only
        rw [hv]
        rw [hall] at hv
        exact hv
    · intro i j f hi1 hj
      have hm' : n ≤ m := by rw [hmm]; split <;> omega
      obtain ⟨cs', hc, ht'⟩ := hi i (by omega)
      rw [hC] at hc
      obtain ⟨xs, n', _, _, _, hyl, hf⟩ := DataW.trod_struct he ht'
      obtain ⟨_, hcl, hx⟩ := World.cells?_some hc
      have hjl : j < fs.size := (Array.getElem?_eq_some_iff.1 hj).1
      obtain ⟨ho, hk⟩ := hone_of hone j f hj
      have h1 := hf j f hj
      rw [ho, hk] at h1
      have e1 : (cs'.drop j).take 1 = [cs'[j]'(by omega)] := by
        rw [List.drop_eq_getElem_cons (by omega)]
        rfl
      have hcell := hx j hjl
      rw [Go.Deep.add_add, List.getElem?_eq_getElem (by omega)] at hcell
      rw [e1] at h1
      exact ⟨n', xs[j]'(by omega), by dsimp only; rw [hcell, Option.getD_some, h1, List.getElem?_eq_getElem]⟩

/-- A slice of structs whose fields are all of type int. -/
theorem open_rows_int {t e u : TypeId} {fs : Array Field} {fuel n c : Nat} {A : Option Addr} {d : DataW H} {p : List MemPlace} (ht : P.underlying t = some (.slice e)) (he : P.underlying e = some (.struct fs))
    (hone : oneCellFields P fs = true) (hC : P.cellsOf e = fs.size) (h0 : 0 < fs.size) (hu : P.underlying u = some (.int .i64)) (hall : ∀ (j : Nat) (f : Field), fs[j]? = some f → f.type = u)
    (h : DataW.trod enc P w 0 spare held fuel t #[.slice A n c].toList = some (d, p)) :
    ∃ F : Nat → Nat → Int, n ≤ maxLen ∧ (∀ i j, -9223372036854775808 ≤ F i j ∧ F i j ≤ 9223372036854775807) ∧ Seg w w.heap.size fs.size A n fun i j => .int .i64 (F i j) := by
  obtain ⟨hn, F, hs, hf⟩ := open_segs ht he hone hC h0 h
  have hint : ∀ i j, ∃ x : Int, (-9223372036854775808 ≤ x ∧ x ≤ 9223372036854775807) ∧ (i < n → j < fs.size → F i j = .int .i64 x) := fun i j => by
    by_cases hi : i < n
    · by_cases hj : j < fs.size
      · obtain ⟨m, y, hy⟩ := hf i j fs[j] hi (by simp [hj])
        rw [hall j fs[j] (by simp [hj])] at hy
        obtain ⟨x, hx, _, wx⟩ := DataW.trod_int hu hy
        exact ⟨x, bounds_i64 wx, fun _ _ => by simpa using hx⟩
      · exact ⟨0, by omega, fun _ h => absurd h hj⟩
    · exact ⟨0, by omega, fun h => absurd h hi⟩
  refine ⟨fun i j => Classical.choose (hint i j), hn, fun i j => (Classical.choose_spec (hint i j)).1, fun hp => ?_⟩
  obtain ⟨b, o, e, hb, hc⟩ := hs hp
  exact ⟨b, o, e, hb, fun i j hi hj => (hc i j hi hj).trans (by rw [(Classical.choose_spec (hint i j)).2 hi hj])⟩
theorem open_rows_ii {t e u : TypeId} {f0 f1 : Field} {fuel n c : Nat} {A : Option Addr} {d : DataW H} {p : List MemPlace} (ht : P.underlying t = some (.slice e)) (he : P.underlying e = some (.struct #[f0, f1]))
    (hall : (oneCellFields P #[f0, f1] && P.cellsOf e == 2 && f0.type == u && f1.type == u) = true) (hu : P.underlying u = some (.int .i64)) (h : DataW.trod enc P w 0 spare held fuel t #[.slice A n c].toList = some (d, p)) :
    ∃ F : Nat → Nat → Int, n ≤ maxLen ∧ (∀ i j, -9223372036854775808 ≤ F i j ∧ F i j ≤ 9223372036854775807) ∧ Seg w w.heap.size 2 A n fun i j => .int .i64 (F i j) := by
  simp only [Bool.and_eq_true, beq_iff_eq] at hall
  obtain ⟨⟨⟨h1, h2⟩, h3⟩, h4⟩ := hall
  exact open_rows_int ht he h1 h2 (by simp) hu (fun j f hj => by match j, hj with | 0, hj => simp at hj; subst hj; exact h3 | 1, hj => simp at hj; subst hj; exact h4) h
theorem open_rows_iii {t e u : TypeId} {f0 f1 f2 : Field} {fuel n c : Nat} {A : Option Addr} {d : DataW H} {p : List MemPlace} (ht : P.underlying t = some (.slice e)) (he : P.underlying e = some (.struct #[f0, f1, f2]))
    (hall : (oneCellFields P #[f0, f1, f2] && P.cellsOf e == 3 && f0.type == u && f1.type == u && f2.type == u) = true) (hu : P.underlying u = some (.int .i64)) (h : DataW.trod enc P w 0 spare held fuel t #[.slice A n c].toList = some (d, p)) :
    ∃ F : Nat → Nat → Int, n ≤ maxLen ∧ (∀ i j, -9223372036854775808 ≤ F i j ∧ F i j ≤ 9223372036854775807) ∧ Seg w w.heap.size 3 A n fun i j => .int .i64 (F i j) := by
  simp only [Bool.and_eq_true, beq_iff_eq] at hall
  obtain ⟨⟨⟨⟨h1, h2⟩, h3⟩, h4⟩, h5⟩ := hall
  exact open_rows_int ht he h1 h2 (by simp) hu (fun j f hj => by match j, hj with | 0, hj => simp at hj; subst hj; exact h3 | 1, hj => simp at hj; subst hj; exact h4 | 2, hj => simp at hj; subst hj; exact h5) h
end

section
variable {H : Type} {enc : TypeId × Value → H} {P : Program} {w : World} {sp : Nat → Bool}
theorem vars_one {a : String} {gs : List (DataW H)} {ps : List MemPlace} (h : DataW.TrodVars enc P w sp [a] gs ps) : ∃ g, gs = [g] := by
  match gs, h with
  | [g], _ => exact ⟨g, rfl⟩
  | [], h => exact h.elim
  | _ :: _ :: _, h => obtain ⟨_, _, _, _, _, _, _, _, _, _, hs, _⟩ := h; exact hs.elim
theorem vars_two {a b : String} {gs : List (DataW H)} {ps : List MemPlace} (h : DataW.TrodVars enc P w sp [a, b] gs ps) : ∃ g1 g2, gs = [g1, g2] := by
  match gs, h with
  | [], h => exact h.elim
  | g :: r, h =>
    obtain ⟨_, _, _, _, _, _, _, _, _, _, hs, _⟩ := h
    obtain ⟨g2, rfl⟩ := vars_one hs
    exact ⟨g, g2, rfl⟩
end
end Go.Proofs.YtopolfibledmnaaDoor
