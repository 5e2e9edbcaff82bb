/-
  The text of a curve, the program's and the reference's: the three texts and slashes.
-/
import Derived.Test.YtnfkepngjbjeoaaDoorNumText
import Derived.Test.YtnfkepngjbjeoaaDoorCurveBel
import Derived.Deep.RegionWith
namespace Go.Proofs.YtnfkepngjbjeoaaDoor
open Go.RowKit
theorem txt_len (n : Nat) (h : n ≤ 1000000000) : (txt n).size ≤ 11 := by
  by_cases h0 : 0 < n
  · by_cases h6 : n % 1000000 = 0
    · rw [txt_m h0 h6, ByteArray.size_append]
      have := decB_len (n / 1000000) (by omega)
      have : (⟨#[109]⟩ : ByteArray).size = 1 := rfl
      omega
    · by_cases h3 : n % 1000 = 0
      · rw [txt_k h0 h6 h3, ByteArray.size_append]
        have := decB_len (n / 1000) (by omega)
        have : (⟨#[107]⟩ : ByteArray).size = 1 := rfl
        omega
      · rw [txt_p (.inr h3)]
        have := decB_len n h
        omega
  · rw [txt_p (.inl (by omega))]
    have := decB_len n h
    omega
def ctxt (f l s : Nat) : ByteArray := txt f ++ ⟨#[47]⟩ ++ txt l ++ ⟨#[47]⟩ ++ txt s
theorem ctxt_cats (f l s : Nat) (hf : f ≤ 1000000000) (hl : l ≤ 1000000000) (hs : s ≤ 1000000000) (W : World) :
    (Op.stringOp .add (txt f) ⟨#[47]⟩).run Tryd.prog W = .ok (.string (txt f ++ ⟨#[47]⟩)) W ∧ (Op.stringOp .add (txt f ++ ⟨#[47]⟩) (txt l)).run Tryd.prog W = .ok (.string (txt f ++ ⟨#[47]⟩ ++ txt l)) W ∧
    (Op.stringOp .add (txt f ++ ⟨#[47]⟩ ++ txt l) ⟨#[47]⟩).run Tryd.prog W = .ok (.string (txt f ++ ⟨#[47]⟩ ++ txt l ++ ⟨#[47]⟩)) W ∧ (Op.stringOp .add (txt f ++ ⟨#[47]⟩ ++ txt l ++ ⟨#[47]⟩) (txt s)).run Tryd.prog W = .ok (.string (ctxt f l s)) W := by
  have a := txt_len f hf
  have b := txt_len l hl
  have c := txt_len s hs
  have e : (⟨#[47]⟩ : ByteArray).size = 1 := rfl
  refine ⟨cat_ok _ _ W ?_, cat_ok _ _ W ?_, cat_ok _ _ W ?_, cat_ok _ _ W ?_⟩
  all_goals ((try simp only [ByteArray.size_append]); omega)
theorem ctxt_len (f l s : Nat) (hf : f ≤ 1000000000) (hl : l ≤ 1000000000) (hs : s ≤ 1000000000) : (ctxt f l s).size ≤ 40 := by
  have a := txt_len f hf
  have b := txt_len l hl
  have c := txt_len s hs
  have e : (⟨#[47]⟩ : ByteArray).size = 1 := rfl
  simp only [ctxt, ByteArray.size_append]
  omega
/-- Block g holds a curve. -/
def IsCrv (w : World) (g : Nat) (f l s : Int) : Prop := g < w.heap.size ∧ w.cell? ⟨g, 0, none⟩ = some (.int .i64 f) ∧ w.cell? ⟨g, 1, none⟩ = some (.int .i64 l) ∧ w.cell? ⟨g, 2, none⟩ = some (.int .i64 s)
theorem IsCrv.later {w w' : World} {g : Nat} {f l s : Int} (h : IsCrv w g f l s) (hb : Below w.heap.size w w') : IsCrv w' g f l s :=
  ⟨Nat.lt_of_lt_of_le h.1 hb.size, (hb.cell (p := ⟨g, 0, none⟩) h.1).trans h.2.1, (hb.cell (p := ⟨g, 1, none⟩) h.1).trans h.2.2.1, (hb.cell (p := ⟨g, 2, none⟩) h.1).trans h.2.2.2⟩
theorem nuText_p (n : Nat) (w : World) (hn : n ≤ 1000000000) (_ : Pow10 w) : Calls Tryd.prog 19 #[.int .i64 n] w fun e w' => e = .returned (.string (txt n)) ∧ Below w.heap.size w w' := nuText_any n w hn
set_option maxHeartbeats 4000000 in
theorem implcurveText_ct (f l s : Nat) (w : World) (hf : f ≤ 1000000000) (hl : l ≤ 1000000000) (hs : s ≤ 1000000000) (hT : Pow10 w) :
    Calls Tryd.prog 14 #[.agg #[.int .i64 f, .int .i64 l, .int .i64 s]] w fun e w' => e = .returned (.string (ctxt f l s)) ∧ Below w.heap.size w w' := by
  have Hf := Lib.hid (fun W => numberText_any f W hf)
  have Hl := Lib.hid (fun W => numberText_any l W hl)
  have Hs := Lib.hid (fun W => numberText_any s W hs)
  have hc1 := fun W => (ctxt_cats f l s hf hl hs W).1
  have hc2 := fun W => (ctxt_cats f l s hf hl hs W).2.1
  have hc3 := fun W => (ctxt_cats f l s hf hl hs W).2.2.1
  have hc4 := fun W => (ctxt_cats f l s hf hl hs W).2.2.2
  have HT : Hid (∀ W, Below (w.alloc (.cells #[.int .i64 f, .int .i64 l, .int .i64 s] 26)).heap.size (w.alloc (.cells #[.int .i64 f, .int .i64 l, .int .i64 s] 26)) W → Pow10 W) := fun W hW => hT.later (belNext (belAlloc (Below.refl _ w) _) hW)
  have HX : Hid (∀ W, Below (w.alloc (.cells #[.int .i64 f, .int .i64 l, .int .i64 s] 26)).heap.size (w.alloc (.cells #[.int .i64 f, .int .i64 l, .int .i64 s] 26)) W → IsCrv W w.heap.size f l s) := fun W hb =>
    IsCrv.later ⟨by simp, by simp [go_sem], by simp [go_sem], by simp [go_sem]⟩ hb
  clear hT
  go_enter Tryd.func14, Tryd.ntmps14
  go_wp2_with fail
  go_region_with ((first | (go_at_call 20; (with_reducible refine (Hf.out _ (HT.out _ (by repeat (first | exact hB | exact Below.refl _ _ | refine belAlloc ?_ _ | refine Below.drew ?_)))).mono ?_); rintro e w1 ⟨rfl, hb⟩; have hB := belNext (show Below (w.alloc (.cells #[.int .i64 f, .int .i64 l, .int .i64 s] 26)).heap.size (w.alloc (.cells #[.int .i64 f, .int .i64 l, .int .i64 s] 26)) _ by repeat (first | exact hB | exact Below.refl _ _ | refine belAlloc ?_ _ | refine Below.drew ?_)) hb; obtain ⟨q, q0, q1, q2⟩ := HX.out _ hB; clear hb) | (go_at_call 20; (with_reducible refine (Hl.out _ (HT.out _ (by repeat (first | exact hB | exact Below.refl _ _ | refine belAlloc ?_ _ | refine Below.drew ?_)))).mono ?_); rintro e w1 ⟨rfl, hb⟩; have hB := belNext (show Below (w.alloc (.cells #[.int .i64 f, .int .i64 l, .int .i64 s] 26)).heap.size (w.alloc (.cells #[.int .i64 f, .int .i64 l, .int .i64 s] 26)) _ by repeat (first | exact hB | exact Below.refl _ _ | refine belAlloc ?_ _ | refine Below.drew ?_)) hb; obtain ⟨q, q0, q1, q2⟩ := HX.out _ hB; clear hb) | (go_at_call 20; (with_reducible refine (Hs.out _ (HT.out _ (by repeat (first | exact hB | exact Below.refl _ _ | refine belAlloc ?_ _ | refine Below.drew ?_)))).mono ?_); rintro e w1 ⟨rfl, hb⟩; have hB := belNext (show Below (w.alloc (.cells #[.int .i64 f, .int .i64 l, .int .i64 s] 26)).heap.size (w.alloc (.cells #[.int .i64 f, .int .i64 l, .int .i64 s] 26)) _ by repeat (first | exact hB | exact Below.refl _ _ | refine belAlloc ?_ _ | refine Below.drew ?_)) hb; obtain ⟨q, q0, q1, q2⟩ := HX.out _ hB; clear hb)))
  all_goals
    go_wp2_with fail
    go_ret
    exact ⟨rfl, belNext (belAlloc (Below.refl _ w) _) hB⟩
set_option maxHeartbeats 4000000 in
theorem speccuText_ct (f l s : Nat) (w : World) (hf : f ≤ 1000000000) (hl : l ≤ 1000000000) (hs : s ≤ 1000000000) (hT : Pow10 w) :
    Calls Tryd.prog 12 #[.agg #[.int .i64 f, .int .i64 l, .int .i64 s]] w fun e w' => e = .returned (.string (ctxt f l s)) ∧ Below w.heap.size w w' := by
  have Hf := Lib.hid (fun W => nuText_p f W hf)
  have Hl := Lib.hid (fun W => nuText_p l W hl)
  have Hs := Lib.hid (fun W => nuText_p s W hs)
  have hc1 := fun W => (ctxt_cats f l s hf hl hs W).1
  have hc2 := fun W => (ctxt_cats f l s hf hl hs W).2.1
  have hc3 := fun W => (ctxt_cats f l s hf hl hs W).2.2.1
  have hc4 := fun W => (ctxt_cats f l s hf hl hs W).2.2.2
  have HT : Hid (∀ W, Below (w.alloc (.cells #[.int .i64 f, .int .i64 l, .int .i64 s] 26)).heap.size (w.alloc (.cells #[.int .i64 f, .int .i64 l, .int .i64 s] 26)) W → Pow10 W) := fun W hW => hT.later (belNext (belAlloc (Below.refl _ w) _) hW)
  have HX : Hid (∀ W, Below (w.alloc (.cells #[.int .i64 f, .int .i64 l, .int .i64 s] 26)).heap.size (w.alloc (.cells #[.int .i64 f, .int .i64 l, .int .i64 s] 26)) W → IsCrv W w.heap.size f l s) := fun W hb =>
    IsCrv.later ⟨by simp, by simp [go_sem], by simp [go_sem], by simp [go_sem]⟩ hb
  clear hT
  go_enter Tryd.func12, Tryd.ntmps12
  go_wp2_with fail
  go_region_with ((first | (go_at_call 19; (with_reducible refine (Hf.out _ (HT.out _ (by repeat (first | exact hB | exact Below.refl _ _ | refine belAlloc ?_ _ | refine Below.drew ?_)))).mono ?_); rintro e w1 ⟨rfl, hb⟩; have hB := belNext (show Below (w.alloc (.cells #[.int .i64 f, .int .i64 l, .int .i64 s] 26)).heap.size (w.alloc (.cells #[.int .i64 f, .int .i64 l, .int .i64 s] 26)) _ by repeat (first | exact hB | exact Below.refl _ _ | refine belAlloc ?_ _ | refine Below.drew ?_)) hb; obtain ⟨q, q0, q1, q2⟩ := HX.out _ hB; clear hb) | (go_at_call 19; (with_reducible refine (Hl.out _ (HT.out _ (by repeat (first | exact hB | exact Below.refl _ _ | refine belAlloc ?_ _ | refine Below.drew ?_)))).mono ?_); rintro e w1 ⟨rfl, hb⟩; have hB := belNext (show Below (w.alloc (.cells #[.int .i64 f, .int .i64 l, .int .i64 s] 26)).heap.size (w.alloc (.cells #[.int .i64 f, .int .i64 l, .int .i64 s] 26)) _ by repeat (first | exact hB | exact Below.refl _ _ | refine belAlloc ?_ _ | refine Below.drew ?_)) hb; obtain ⟨q, q0, q1, q2⟩ := HX.out _ hB; clear hb) | (go_at_call 19; (with_reducible refine (Hs.out _ (HT.out _ (by repeat (first | exact hB | exact Below.refl _ _ | refine belAlloc ?_ _ | refine Below.drew ?_)))).mono ?_); rintro e w1 ⟨rfl, hb⟩; have hB := belNext (show Below (w.alloc (.cells #[.int .i64 f, .int .i64 l, .int .i64 s] 26)).heap.size (w.alloc (.cells #[.int .i64 f, .int .i64 l, .int .i64 s] 26)) _ by repeat (first | exact hB | exact Below.refl _ _ | refine belAlloc ?_ _ | refine Below.drew ?_)) hb; obtain ⟨q, q0, q1, q2⟩ := HX.out _ hB; clear hb)))
  all_goals
    go_wp2_with fail
    go_ret
    exact ⟨rfl, belNext (belAlloc (Below.refl _ w) _) hB⟩
end Go.Proofs.YtnfkepngjbjeoaaDoor
