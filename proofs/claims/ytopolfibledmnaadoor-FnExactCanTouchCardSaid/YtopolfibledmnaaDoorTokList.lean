/-
  The tokens of a text, in plain words.
-/
import Derived.Test.YtopolfibledmnaaDoorTokAt2
import Derived.Test.YtopolfibledmnaaDoorTokenS
import Derived.Deep.RegionWith
import Derived.OwnWalk
import Derived.Maps.AppendAt
import Derived.Laws.MakeOwn
namespace Go.Proofs.YtopolfibledmnaaDoor
open Go.RowKit
structure TR where
  fk : Int
  fa : Int
  l : List Tk
/-- The token at p. -/
def tokD (s : ByteArray) (p : Nat) : Tk := ⟨mkK (tkT s p), p, tkT s p, mkV (tkT s p)⟩
/-- A list of tokens ahead of a result. -/
def app (done : List Tk) (r : TR) : TR := if r.fk ≠ 0 then ⟨r.fk, r.fa, []⟩ else ⟨r.fk, r.fa, done ++ r.l⟩
theorem skp_ge (s : ByteArray) (a : Nat) : a ≤ skp s a := by
  rw [skp]
  split
  · split
    · have := skp_ge s (a + 1); omega
    · split
      · have := skp_ge s (a + 2); omega
      · split
        · have := skp_ge s (cmEnd s (a + 1)); have := cmEnd_ge s (a + 1); omega
        · exact Nat.le_refl _
  · exact Nat.le_refl _
termination_by s.size - a
decreasing_by
  all_goals (try have := cmEnd_ge s (a + 1)); omega
/-- The tokens from a on, n being there already. -/
def tks (s : ByteArray) (a n : Nat) : TR :=
  if skp s a < s.size then
    if rdF s (skp s a) ≠ 0 then ⟨rdF s (skp s a), skp s a, []⟩
    else if n = 600 then ⟨5, skp s a, []⟩
    else if skp s a + (tkT s (skp s a)).size ≤ a then ⟨0, 0, []⟩
    else app [tokD s (skp s a)] (tks s (skp s a + (tkT s (skp s a)).size) (n + 1))
  else ⟨0, 0, []⟩
termination_by s.size - a
decreasing_by have := skp_ge s a; omega
theorem rdF_size {s : ByteArray} {p : Nat} (h : rdF s p = 0) : 1 ≤ (tkT s p).size := by
  rcases Nat.eq_zero_or_pos (tkT s p).size with h0 | h0
  · rw [rdF, if_pos h0] at h; omega
  · exact h0
theorem tks_end {s : ByteArray} {a : Nat} (n : Nat) (h : ¬ skp s a < s.size) : tks s a n = ⟨0, 0, []⟩ := by rw [tks, if_neg h]
theorem tks_bad {s : ByteArray} {a : Nat} (n : Nat) (h : skp s a < s.size) (hf : rdF s (skp s a) ≠ 0) : tks s a n = ⟨rdF s (skp s a), skp s a, []⟩ := by rw [tks, if_pos h, if_pos hf]
theorem tks_full {s : ByteArray} {a n : Nat} (h : skp s a < s.size) (hf : rdF s (skp s a) = 0) (hn : n = 600) : tks s a n = ⟨5, skp s a, []⟩ := by rw [tks, if_pos h, if_neg (by omega), if_pos hn]
theorem tks_go {s : ByteArray} {a n : Nat} (h : skp s a < s.size) (hf : rdF s (skp s a) = 0) (hn : n ≠ 600) : tks s a n = app [tokD s (skp s a)] (tks s (skp s a + (tkT s (skp s a)).size) (n + 1)) := by
  have := rdF_size hf
  have := skp_ge s a
  rw [tks, if_pos h, if_neg (by omega), if_neg hn, if_neg (by omega)]
theorem app_app (d e : List Tk) (r : TR) : app d (app e r) = app (d ++ e) r := by
  unfold app
  by_cases h : r.fk ≠ 0
  · rw [if_pos h, if_pos h, if_pos h]
  · rw [if_neg h, if_neg h, if_neg h]
    simp
theorem app_nil {r : TR} (h : r.fk ≠ 0 → r.l = []) : app [] r = r := by
  unfold app
  by_cases h1 : r.fk ≠ 0
  · rw [if_pos h1, ← h h1]
  · rw [if_neg h1]; rfl
theorem tks_l (s : ByteArray) (a n : Nat) : (tks s a n).fk ≠ 0 → (tks s a n).l = [] := by
  rw [tks]
  split
  · split
    · intro _; rfl
    · split
      · intro _; rfl
      · split
        · intro _; rfl
        · intro h
          unfold app at h ⊢
          by_cases h1 : (tks s (skp s a + (tkT s (skp s a)).size) (n + 1)).fk ≠ 0
          · rw [if_pos h1]
          · rw [if_neg h1] at h; exact absurd h h1
  · intro _; rfl
theorem app_zero (d : List Tk) : app d ⟨0, 0, []⟩ = ⟨0, 0, d⟩ := by unfold app; simp
theorem app_bad (d : List Tk) {f : Int} (a : Int) (h : f ≠ 0) : app d ⟨f, a, []⟩ = ⟨f, a, []⟩ := by unfold app; rw [if_pos h]
/-- The rows' cells, one after the other. -/
def flatL (l : List Tk) : List Value := l.flatMap fun x => [.int .i64 x.k, .int .i64 x.a, .string x.t, .int .i64 x.v]
theorem flatL_snoc (l : List Tk) (x : Tk) : flatL (l ++ [x]) = flatL l ++ [.int .i64 x.k, .int .i64 x.a, .string x.t, .int .i64 x.v] := by simp [flatL]
theorem flatL_len (l : List Tk) : (flatL l).length = l.length * 4 := by
  induction l with
  | nil => rfl
  | cons x r ih =>
    have : flatL (x :: r) = [.int .i64 x.k, .int .i64 x.a, .string x.t, .int .i64 x.v] ++ flatL r := rfl
    rw [this, List.length_append, ih]
    simp
    omega
theorem flatL_get (l : List Tk) : ∀ (m : Nat), m < l.length * 4 → (flatL l)[m]? = some (flatT (fun i => l.getD i tk0) m) := by
  induction l with
  | nil => intro m hm; simp at hm
  | cons x r ih =>
    intro m hm
    have e : flatL (x :: r) = [.int .i64 x.k, .int .i64 x.a, .string x.t, .int .i64 x.v] ++ flatL r := rfl
    rw [e]
    rcases Nat.lt_or_ge m 4 with h | h
    · have hd : m / 4 = 0 := by omega
      rw [List.getElem?_append_left (by simpa using h), flatT, hd]
      match m, h with
      | 0, _ => rfl
      | 1, _ => rfl
      | 2, _ => rfl
      | 3, _ => rfl
    · obtain ⟨j, rfl⟩ : ∃ j, m = j + 4 := ⟨m - 4, by omega⟩
      rw [List.getElem?_append_right (by simp)]
      simp only [List.length_cons, List.length_nil] at hm ⊢
      rw [show j + 4 - (0 + 1 + 1 + 1 + 1) = j by omega, ih j (by omega), flatT, flatT, show (j + 4) / 4 = j / 4 + 1 by omega, show (j + 4) % 4 = j % 4 by omega]
      rfl
/-- A row of tokens, of the call's own making. -/
def TokRow (w' : World) (B : Nat) (l : List Tk) (v : Value) : Prop := ∃ A c, v = .slice A l.length c ∧ (0 < l.length → ∃ g, A = some ⟨g, 0, none⟩ ∧ B ≤ g ∧ OwnT w' g l.length (fun i => l.getD i tk0))
theorem tokRow_of {w : World} {base : Nat} {v : Value} {l : List Tk} (h : w.ownsRow base 27 4 v l.length (flatL l)) : TokRow w base l v := by
  have h' := h
  rcases h.2 with ⟨rfl, e⟩ | ⟨g, cap, cur, rfl, hbg, hr, hcap, hcs⟩
  · obtain rfl : l = [] := List.eq_nil_of_length_eq_zero e
    exact ⟨none, 0, rfl, fun h => absurd h (by simp)⟩
  · refine ⟨some ⟨g, 0, none⟩, cap, rfl, fun _ => ⟨g, rfl, hbg, (h.lt g rfl).2, fun i hi => ⟨?_, h.frozenAt i⟩⟩⟩
    rw [h.cellAt i (by omega)]
    exact flatL_get l i hi
theorem tokRow_nil (w : World) (B : Nat) (A : Option Addr) (c : Nat) : TokRow w B [] (.slice A 0 c) := ⟨A, c, rfl, fun h => absurd h (by simp)⟩
theorem TokRow.later {w w' : World} {B : Nat} {l : List Tk} {v : Value} (h : TokRow w B l v) (hb : Below w.heap.size w w') : TokRow w' B l v := by
  obtain ⟨A, c, e, hA⟩ := h
  refine ⟨A, c, e, fun h0 => ?_⟩
  obtain ⟨g, e1, e2, e3⟩ := hA h0
  exact ⟨g, e1, e2, e3.later hb⟩
theorem TokRow.same {w w' : World} {B : Nat} {l : List Tk} {v : Value} (h : TokRow w B l v) (hs : w.heap.size ≤ w'.heap.size) (hh : ∀ g, B ≤ g → g < w.heap.size → w'.heap[g]? = w.heap[g]?) : TokRow w' B l v := by
  obtain ⟨A, c, e, hA⟩ := h
  refine ⟨A, c, e, fun h0 => ?_⟩
  obtain ⟨g, e1, e2, e3⟩ := hA h0
  refine ⟨g, e1, e2, Nat.lt_of_lt_of_le e3.1 hs, fun i hi => ?_⟩
  have h1 := hh g e2 e3.1
  exact ⟨by have := Own.cell e3 hi; unfold World.cell? at this ⊢; rw [h1]; exact this, by have := Own.frozen e3 hi; unfold World.frozen? at this ⊢; rw [h1]; exact this⟩
theorem TokRow.set {w : World} {B R o : Nat} {l : List Tk} {v u : Value} (h : TokRow w B l v) (hR : R < B) : TokRow (w.setCell ⟨R, o, none⟩ u) B l v :=
  h.same (by simp [World.setCell]) fun g hg _ => Below.heap_setCell _ _ _ _ (by show g ≠ R; omega)
theorem TokRow.weak {w : World} {B B' : Nat} {l : List Tk} {v : Value} (h : TokRow w B l v) (hB : B' ≤ B) : TokRow w B' l v := by
  obtain ⟨A, c, e, hA⟩ := h
  refine ⟨A, c, e, fun h0 => ?_⟩
  obtain ⟨g, e1, e2, e3⟩ := hA h0
  exact ⟨g, e1, by omega, e3⟩
theorem TokRow.alloc {w : World} {B : Nat} {l : List Tk} {v : Value} (h : TokRow w B l v) (o : Obj) : TokRow (w.alloc o) B l v := h.later (belAlloc (Below.refl _ _) _)
theorem TokRow.drew {w : World} {B : Nat} {l : List Tk} {v : Value} (h : TokRow w B l v) : TokRow w.drew B l v := h.later (Below.refl _ _).drew
theorem ownsRow_laterT {w w' : World} {base size n : Nat} {e : TypeId} {v : Value} {xs : List Value} (h : w.ownsRow base e size v n xs) (hb : Below w.heap.size w w') : w'.ownsRow base e size v n xs := by
  refine ⟨h.1, ?_⟩
  rcases h.2 with h0 | ⟨g, cap, cur, rfl, hbg, hg, hr⟩
  · exact .inl h0
  · refine .inr ⟨g, cap, cur, rfl, hbg, ?_, hr⟩
    have hlt : g < w.heap.size := by
      rcases Nat.lt_or_ge g w.heap.size with h' | h'
      · exact h'
      · rw [Array.getElem?_eq_none h'] at hg; cases hg
    rw [hb.block g hlt, hg]
theorem news_tok (w : World) (b : Nat) (x y z u : Value) (t : TypeId) (hb : b = w.heap.size) : ∀ (j : Nat) (q : Value), [x, y, z, u][j]? = some q → (w.alloc (.cells #[x, y, z, u] t)).cell? ((⟨b, 0, none⟩ : Addr).add j) = some q := by
  subst hb
  intro j q hj
  match j, hj with
  | 0, hj => simp at hj; subst hj; simp [Addr.add]
  | 1, hj => simp at hj; subst hj; simp [Addr.add]
  | 2, hj => simp at hj; subst hj; simp [Addr.add]
  | 3, hj => simp at hj; subst hj; simp [Addr.add]
/-- The result block of a call, a fault, as it was made. -/
structure ResF (W : World) (g : Nat) : Prop where
  q0 : W.cell? ⟨g, 0, none⟩ = some (.int .i64 0)
  q1 : W.cell? ⟨g, 1, none⟩ = some (.int .i64 0)
  f0 : W.frozen? ⟨g, 0, none⟩ = false
  f1 : W.frozen? ⟨g, 1, none⟩ = false
  sz : g < W.heap.size
theorem resF {w W : World} {u : TypeId} (hb : Below (w.alloc (.cells #[.int .i64 0, .int .i64 0] u)).heap.size (w.alloc (.cells #[.int .i64 0, .int .i64 0] u)) W) : ResF W w.heap.size := by
  obtain ⟨hc, hf⟩ := bcell hb
  have hs := hb.size
  simp at hs
  constructor
  all_goals first
    | exact (hc _ _ (by simp <;> omega)).trans (by simp [go_sem])
    | exact (hf _ _ (by simp <;> omega)).trans (by simp [go_sem])
    | omega
end Go.Proofs.YtopolfibledmnaaDoor
