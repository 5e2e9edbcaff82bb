/-
  The canonical text of a value, the program's numberText and the reference's nuText.
-/
import Derived.Test.YtnfkepngjbjeoaaDoorForms
import Derived.Test.YtnfkepngjbjeoaaDoorValue
namespace Go.Proofs.YtnfkepngjbjeoaaDoor
open Go.RowKit
/-- The canonical text. -/
def txt (n : Nat) : ByteArray := (fl n 3).getD 0 ⟨#[]⟩
theorem cat_nil (a : ByteArray) : a ++ (⟨#[]⟩ : ByteArray) = a := by
  apply ByteArray.ext
  simp [ByteArray.data_append]
theorem fl_two (n : Nat) : cndB n 2 = true := by simp [cndB, szOf, Nat.mod_one]
theorem form_two (n : Nat) : formB n 2 = decB n := by rw [formB, szOf, unOf, cat_nil, Nat.div_one] <;> simp
theorem txt_m {n : Nat} (h : 0 < n) (h6 : n % 1000000 = 0) : txt n = decB (n / 1000000) ++ ⟨#[109]⟩ := by
  have c0 : cndB n 0 = true := decide_eq_true ⟨h6, .inl h⟩
  have c1 : cndB n 1 = true := decide_eq_true ⟨show n % 1000 = 0 by omega, .inl h⟩
  rw [txt, fl_yes (fl_two n), fl_yes c1, fl_yes c0]
  rfl
theorem txt_k {n : Nat} (h : 0 < n) (h6 : n % 1000000 ≠ 0) (h3 : n % 1000 = 0) : txt n = decB (n / 1000) ++ ⟨#[107]⟩ := by
  have c0 : cndB n 0 = false := decide_eq_false (fun x => h6 x.1)
  have c1 : cndB n 1 = true := decide_eq_true ⟨h3, .inl h⟩
  rw [txt, fl_yes (fl_two n), fl_yes c1, fl_no c0]
  rfl
theorem txt_p {n : Nat} (h : n = 0 ∨ n % 1000 ≠ 0) : txt n = decB n := by
  have c0 : cndB n 0 = false := decide_eq_false (fun x => by have := x.1; simp only [szOf] at this; omega)
  have c1 : cndB n 1 = false := decide_eq_false (fun x => by have := x.1; simp only [szOf] at this; omega)
  rw [txt, fl_yes (fl_two n), fl_no c1, fl_no c0, form_two]
  rfl
theorem nuText_any (n : Nat) (w : World) (hn : n ≤ 1000000000) : Calls Tryd.prog 19 #[.int .i64 n] w fun e w' => e = .returned (.string (txt n)) ∧ Below w.heap.size w w' := by
  have HF := Lib.hid (nuForms_any n w hn)
  have hp := fl3_pos n
  have HT : Hid ((fl n 3).getD 0 ⟨#[]⟩ = txt n) := rfl
  have hl := fl_len n 3
  generalize fl n 3 = ss at *
  go_enter Tryd.func19, Tryd.ntmps19
  go_wp2_with fail
  refine HF.out.mono ?_
  rintro e w1 ⟨v, rfl, g, c, rfl, hcap, hg, hown, hb⟩
  have hcell : w1.cell? ⟨g, 0, none⟩ = some (.string (ss.getD 0 ⟨#[]⟩)) := hown.cell (by omega)
  rw [HT.out] at hcell
  have HB := Lib.hid hb
  clear hb hown hg
  go_wp2_with fail
  go_ret
  exact ⟨rfl, HB.out⟩
set_option maxHeartbeats 1000000 in
theorem numberText_any (n : Nat) (w : World) (hn : n ≤ 1000000000) (hT : Pow10 w) : Calls Tryd.prog 20 #[.int .i64 n] w fun e w' => e = .returned (.string (txt n)) ∧ Below w.heap.size w w' := by
  by_cases h : 0 < n
  · by_cases h6 : n % 1000000 = 0
    · have HX := Lib.hid (txt_m h h6)
      obtain ⟨q, hq⟩ : ∃ q, n / 1000000 = q := ⟨_, rfl⟩
      have hdiv : (n : Int) / 1000000 = (q : Int) := by omega
      have hqb : q ≤ 1000000000 := by omega
      have e6 : ((n : Int) % 1000000 == 0) = true := by simp; omega
      rw [hq] at HX
      have HI := Lib.hid (fun W => itoa_any q W hqb)
      have hcat := fun W => cat_ok (decB q) ⟨#[109]⟩ W (by have := decB_len q hqb; have : (⟨#[109]⟩ : ByteArray).size = 1 := rfl; omega)
      have HTT := Lib.hid hT
      clear hT hq h6
      go_enter Tryd.func20, Tryd.ntmps20
      go_wp2_with fail
      refine (HI.out _ HTT.out).mono ?_
      rintro e w1 ⟨rfl, hb⟩
      have HB := Lib.hid hb
      clear hb
      go_wp2_with fail
      go_ret
      exact ⟨by rw [HX.out]; rfl, HB.out⟩
    · have e6 : ((n : Int) % 1000000 == 0) = false := by simp; omega
      by_cases h3 : n % 1000 = 0
      · have HX := Lib.hid (txt_k h h6 h3)
        obtain ⟨q, hq⟩ : ∃ q, n / 1000 = q := ⟨_, rfl⟩
        have hdiv : (n : Int) / 1000 = (q : Int) := by omega
        have hqb : q ≤ 1000000000 := by omega
        have e3 : ((n : Int) % 1000 == 0) = true := by simp; omega
        rw [hq] at HX
        have HI := Lib.hid (fun W => itoa_any q W hqb)
        have hcat := fun W => cat_ok (decB q) ⟨#[107]⟩ W (by have := decB_len q hqb; have : (⟨#[107]⟩ : ByteArray).size = 1 := rfl; omega)
        have HTT := Lib.hid hT
        clear hT hq h6 h3
        go_enter Tryd.func20, Tryd.ntmps20
        go_wp2_with fail
        refine (HI.out _ HTT.out).mono ?_
        rintro e w1 ⟨rfl, hb⟩
        have HB := Lib.hid hb
        clear hb
        go_wp2_with fail
        go_ret
        exact ⟨by rw [HX.out]; rfl, HB.out⟩
      · have HX := Lib.hid (txt_p (.inr h3))
        have e3 : ((n : Int) % 1000 == 0) = false := by simp; omega
        have HI := Lib.hid (fun W => itoa_any n W hn)
        have HTT := Lib.hid hT
        clear hT h6 h3
        go_enter Tryd.func20, Tryd.ntmps20
        go_wp2_with fail
        refine (HI.out _ HTT.out).mono ?_
        rintro e w1 ⟨rfl, hb⟩
        have HB := Lib.hid hb
        clear hb
        go_wp2_with fail
        go_ret
        exact ⟨by rw [HX.out]; rfl, HB.out⟩
  · have HX := Lib.hid (txt_p (n := n) (.inl (by omega)))
    have HI := Lib.hid (fun W => itoa_any n W hn)
    have HTT := Lib.hid hT
    have hd : decide ((0 : Int) < (n : Int)) = false := decide_eq_false (by omega)
    clear hT
    go_enter Tryd.func20, Tryd.ntmps20
    go_wp2_with fail
    refine (HI.out _ HTT.out).mono ?_
    rintro e w1 ⟨rfl, hb⟩
    have HB := Lib.hid hb
    clear hb
    go_wp2_with fail
    go_ret
    exact ⟨by rw [HX.out]; rfl, HB.out⟩
end Go.Proofs.YtnfkepngjbjeoaaDoor
