/-
  FormsOf, the program's and the reference's: both return the forms of a value; the walk of FnExactFormsOf.
-/
import Derived.Test.YtkcigdcjpnojnaaDoorNumText
import Derived.Test.YtkcigdcjpnojnaaDoorStrS
namespace Go.Proofs.YtkcigdcjpnojnaaDoor
open Go.RowKit
theorem fl_A {n : Nat} (h : 0 < n) (h6 : n % 1000000 = 0) : fl n 3 = [decB (n / 1000000) ++ ⟨#[109]⟩, decB (n / 1000) ++ ⟨#[107]⟩, decB n] := by
  have c0 : cndB n 0 = true := decide_eq_true ⟨h6, .inl h⟩
  have c1 : cndB n 1 = true := decide_eq_true ⟨show n % 1000 = 0 by omega, .inl h⟩
  rw [fl_yes (fl_two n), fl_yes c1, fl_yes c0, form_two]
  rfl
theorem fl_B {n : Nat} (h : 0 < n) (h6 : n % 1000000 ≠ 0) (h3 : n % 1000 = 0) : fl n 3 = [decB (n / 1000) ++ ⟨#[107]⟩, decB n] := by
  have c0 : cndB n 0 = false := decide_eq_false (fun x => h6 x.1)
  have c1 : cndB n 1 = true := decide_eq_true ⟨h3, .inl h⟩
  rw [fl_yes (fl_two n), fl_yes c1, fl_no c0, form_two]
  rfl
theorem fl_C {n : Nat} (h : n = 0 ∨ n % 1000 ≠ 0) : fl n 3 = [decB n] := by
  have c0 : cndB n 0 = false := decide_eq_false (fun x => by have := x.1; simp only [szOf] at this; omega)
  have c1 : cndB n 1 = false := decide_eq_false (fun x => by have := x.1; simp only [szOf] at this; omega)
  rw [fl_yes (fl_two n), fl_no c1, fl_no c0, form_two]
  rfl
theorem strsOut_tuple {w w' : World} {ss : List ByteArray} {v : Value} (h : StrsOut w ss v w') : ∃ v, Ending.returned (.tuple #[v, .bool true]) = Ending.returned (.tuple #[v, .bool true]) ∧ StrsOut w ss v w' := ⟨v, rfl, h⟩
set_option maxHeartbeats 2000000 in
theorem implFormsOf_A (n : Nat) (w : World) (hn : n ≤ 1000000000) (hT : Pow10 w) (h : 0 < n) (h6 : n % 1000000 = 0) :
    Calls Tryd.prog 9 #[.int .i64 n] w fun e w' => ∃ v, e = .returned (.tuple #[v, .bool true]) ∧ StrsOut w (fl n 3) v w' := by
  obtain ⟨i0, hi, hz0, hz1, hz2⟩ := info_parts info_str
  have HT : Hid (∀ W, Below w.heap.size w W → Pow10 W) := fun W hW => hT.later hW
  have HF := Lib.hid (fl_A h h6)
  have e6 : ((n : Int) % 1000000 == 0) = true := by simp; omega
  have e3 : ((n : Int) % 1000 == 0) = true := by simp; omega
  obtain ⟨qm, hqm⟩ : ∃ q, n / 1000000 = q := ⟨_, rfl⟩
  have dqm : (n : Int) / 1000000 = (qm : Int) := by omega
  have bqm : qm ≤ 1000000000 := by omega
  have HIqm := Lib.hid (fun W => itoa_any qm W bqm)
  have cqm := fun W => cat_ok (decB qm) ⟨#[109]⟩ W (by have := decB_len qm bqm; have : (⟨#[109]⟩ : ByteArray).size = 1 := rfl; omega)
  rw [hqm] at HF
  clear hqm
  obtain ⟨qk, hqk⟩ : ∃ q, n / 1000 = q := ⟨_, rfl⟩
  have dqk : (n : Int) / 1000 = (qk : Int) := by omega
  have bqk : qk ≤ 1000000000 := by omega
  have HIqk := Lib.hid (fun W => itoa_any qk W bqk)
  have cqk := fun W => cat_ok (decB qk) ⟨#[107]⟩ W (by have := decB_len qk bqk; have : (⟨#[107]⟩ : ByteArray).size = 1 := rfl; omega)
  rw [hqk] at HF
  clear hqk
  have HIn := Lib.hid (fun W => itoa_any n W hn)
  clear h6
  have HO0 : Hid ((w.alloc (.cells #[] 9)).ownsRow w.heap.size 9 1 (.slice (some ⟨w.heap.size, 0, none⟩) 0 0) 0 (strVs [])) := World.ownsRow_made w #[] 0 (Nat.le_refl _) (Nat.zero_le _) rfl
  have HB0 : Hid (Below w.heap.size w (w.alloc (.cells #[] 9))) := belAlloc (Below.refl _ w) _
  have HV := Lib.hid (fun W => isValue_yes (n : Int) W (by omega) (by omega))
  clear hT
  go_enter Tryd.func9, Tryd.ntmps9
  go_wp2_with fail
  refine (HV.out _).mono ?_
  rintro e wv ⟨rfl, rfl⟩
  go_wp2_with fail
  refine (HIqm.out _ (HT.out _ HB0.out)).mono ?_
  rintro e wi0 ⟨rfl, hb⟩
  have HOi0 := Lib.hid (ownsRow_later HO0.out hb)
  have HBi0 := Lib.hid (belNext HB0.out hb)
  have hsi0 := HBi0.out.size
  clear hb
  go_wp2_with (at_builtin; refine wpList_append_own _ rfl (.tmp 16) (.tmp 21) 25 rfl w.heap.size 9 i0 (.string ⟨#[]⟩) 1 16 Tryd.underlying25 hi hz0 hz1 hz2 rfl (by decide) _ _ _ rfl (HOi0.out.alloc _) ⟨wi0.heap.size, 0, none⟩ 1 1 [.string (decB qm ++ ⟨#[109]⟩)] rfl rfl (news_one _ _ _) (by intro u hu; simp at hu; subst hu; rfl) (by unfold maxLen; omega) (by omega) (by simp; omega) ?_)
  intro v1 w1 hown' hg hne
  have HO1 : Hid (w1.ownsRow w.heap.size 9 1 v1 1 (strVs [decB qm ++ ⟨#[109]⟩])) := by
    show World.ownsRow _ _ _ _ _ _ _
    simpa [strVs] using hown'
  have HB1 := Lib.hid ((HBi0.out.alloc hsi0 _).grown hg (by simp; omega) (fun x hx => (HOi0.out.lt x hx).1))
  clear hown' hg hne
  go_wp2_with fail
  refine (HIqk.out _ (HT.out _ HB1.out)).mono ?_
  rintro e wi1 ⟨rfl, hb⟩
  have HOi1 := Lib.hid (ownsRow_later HO1.out hb)
  have HBi1 := Lib.hid (belNext HB1.out hb)
  have hsi1 := HBi1.out.size
  clear hb
  go_wp2_with (at_builtin; refine wpList_append_own _ rfl (.tmp 30) (.tmp 35) 25 rfl w.heap.size 9 i0 (.string ⟨#[]⟩) 1 16 Tryd.underlying25 hi hz0 hz1 hz2 rfl (by decide) _ _ _ rfl (HOi1.out.alloc _) ⟨wi1.heap.size, 0, none⟩ 1 1 [.string (decB qk ++ ⟨#[107]⟩)] rfl rfl (news_one _ _ _) (by intro u hu; simp at hu; subst hu; rfl) (by unfold maxLen; omega) (by omega) (by simp; omega) ?_)
  intro v2 w2 hown' hg hne
  have HO2 : Hid (w2.ownsRow w.heap.size 9 1 v2 2 (strVs [decB qm ++ ⟨#[109]⟩, decB qk ++ ⟨#[107]⟩])) := by
    show World.ownsRow _ _ _ _ _ _ _
    simpa [strVs] using hown'
  have HB2 := Lib.hid ((HBi1.out.alloc hsi1 _).grown hg (by simp; omega) (fun x hx => (HOi1.out.lt x hx).1))
  clear hown' hg hne
  go_wp2_with fail
  refine (HIn.out _ (HT.out _ HB2.out)).mono ?_
  rintro e wi2 ⟨rfl, hb⟩
  have HOi2 := Lib.hid (ownsRow_later HO2.out hb)
  have HBi2 := Lib.hid (belNext HB2.out hb)
  have hsi2 := HBi2.out.size
  clear hb
  go_wp2_with (at_builtin; refine wpList_append_own _ rfl (.tmp 37) (.tmp 40) 25 rfl w.heap.size 9 i0 (.string ⟨#[]⟩) 1 16 Tryd.underlying25 hi hz0 hz1 hz2 rfl (by decide) _ _ _ rfl (HOi2.out.alloc _) ⟨wi2.heap.size, 0, none⟩ 1 1 [.string (decB n)] rfl rfl (news_one _ _ _) (by intro u hu; simp at hu; subst hu; rfl) (by unfold maxLen; omega) (by omega) (by simp; omega) ?_)
  intro v3 w3 hown' hg hne
  have HO3 : Hid (w3.ownsRow w.heap.size 9 1 v3 3 (strVs [decB qm ++ ⟨#[109]⟩, decB qk ++ ⟨#[107]⟩, decB n])) := by
    show World.ownsRow _ _ _ _ _ _ _
    simpa [strVs] using hown'
  have HB3 := Lib.hid ((HBi2.out.alloc hsi2 _).grown hg (by simp; omega) (fun x hx => (HOi2.out.lt x hx).1))
  clear hown' hg hne
  go_wp2_with fail
  go_ret2
  exact ⟨_, rfl, by rw [HF.out]; exact strsOut_of HO3.out (by simp) HB3.out (Nat.le_refl _)⟩
set_option maxHeartbeats 2000000 in
theorem implFormsOf_B (n : Nat) (w : World) (hn : n ≤ 1000000000) (hT : Pow10 w) (h : 0 < n) (h6 : n % 1000000 ≠ 0) (h3 : n % 1000 = 0) :
    Calls Tryd.prog 9 #[.int .i64 n] w fun e w' => ∃ v, e = .returned (.tuple #[v, .bool true]) ∧ StrsOut w (fl n 3) v w' := by
  obtain ⟨i0, hi, hz0, hz1, hz2⟩ := info_parts info_str
  have HT : Hid (∀ W, Below w.heap.size w W → Pow10 W) := fun W hW => hT.later hW
  have HF := Lib.hid (fl_B h h6 h3)
  have e6 : ((n : Int) % 1000000 == 0) = false := by simp; omega
  have e3 : ((n : Int) % 1000 == 0) = true := by simp; omega
  obtain ⟨qk, hqk⟩ : ∃ q, n / 1000 = q := ⟨_, rfl⟩
  have dqk : (n : Int) / 1000 = (qk : Int) := by omega
  have bqk : qk ≤ 1000000000 := by omega
  have HIqk := Lib.hid (fun W => itoa_any qk W bqk)
  have cqk := fun W => cat_ok (decB qk) ⟨#[107]⟩ W (by have := decB_len qk bqk; have : (⟨#[107]⟩ : ByteArray).size = 1 := rfl; omega)
  rw [hqk] at HF
  clear hqk
  have HIn := Lib.hid (fun W => itoa_any n W hn)
  clear h6 h3
  have HO0 : Hid ((w.alloc (.cells #[] 9)).ownsRow w.heap.size 9 1 (.slice (some ⟨w.heap.size, 0, none⟩) 0 0) 0 (strVs [])) := World.ownsRow_made w #[] 0 (Nat.le_refl _) (Nat.zero_le _) rfl
  have HB0 : Hid (Below w.heap.size w (w.alloc (.cells #[] 9))) := belAlloc (Below.refl _ w) _
  have HV := Lib.hid (fun W => isValue_yes (n : Int) W (by omega) (by omega))
  clear hT
  go_enter Tryd.func9, Tryd.ntmps9
  go_wp2_with fail
  refine (HV.out _).mono ?_
  rintro e wv ⟨rfl, rfl⟩
  go_wp2_with fail
  refine (HIqk.out _ (HT.out _ HB0.out)).mono ?_
  rintro e wi0 ⟨rfl, hb⟩
  have HOi0 := Lib.hid (ownsRow_later HO0.out hb)
  have HBi0 := Lib.hid (belNext HB0.out hb)
  have hsi0 := HBi0.out.size
  clear hb
  go_wp2_with (at_builtin; refine wpList_append_own _ rfl (.tmp 30) (.tmp 35) 25 rfl w.heap.size 9 i0 (.string ⟨#[]⟩) 1 16 Tryd.underlying25 hi hz0 hz1 hz2 rfl (by decide) _ _ _ rfl (HOi0.out.alloc _) ⟨wi0.heap.size, 0, none⟩ 1 1 [.string (decB qk ++ ⟨#[107]⟩)] rfl rfl (news_one _ _ _) (by intro u hu; simp at hu; subst hu; rfl) (by unfold maxLen; omega) (by omega) (by simp; omega) ?_)
  intro v1 w1 hown' hg hne
  have HO1 : Hid (w1.ownsRow w.heap.size 9 1 v1 1 (strVs [decB qk ++ ⟨#[107]⟩])) := by
    show World.ownsRow _ _ _ _ _ _ _
    simpa [strVs] using hown'
  have HB1 := Lib.hid ((HBi0.out.alloc hsi0 _).grown hg (by simp; omega) (fun x hx => (HOi0.out.lt x hx).1))
  clear hown' hg hne
  go_wp2_with fail
  refine (HIn.out _ (HT.out _ HB1.out)).mono ?_
  rintro e wi1 ⟨rfl, hb⟩
  have HOi1 := Lib.hid (ownsRow_later HO1.out hb)
  have HBi1 := Lib.hid (belNext HB1.out hb)
  have hsi1 := HBi1.out.size
  clear hb
  go_wp2_with (at_builtin; refine wpList_append_own _ rfl (.tmp 37) (.tmp 40) 25 rfl w.heap.size 9 i0 (.string ⟨#[]⟩) 1 16 Tryd.underlying25 hi hz0 hz1 hz2 rfl (by decide) _ _ _ rfl (HOi1.out.alloc _) ⟨wi1.heap.size, 0, none⟩ 1 1 [.string (decB n)] rfl rfl (news_one _ _ _) (by intro u hu; simp at hu; subst hu; rfl) (by unfold maxLen; omega) (by omega) (by simp; omega) ?_)
  intro v2 w2 hown' hg hne
  have HO2 : Hid (w2.ownsRow w.heap.size 9 1 v2 2 (strVs [decB qk ++ ⟨#[107]⟩, decB n])) := by
    show World.ownsRow _ _ _ _ _ _ _
    simpa [strVs] using hown'
  have HB2 := Lib.hid ((HBi1.out.alloc hsi1 _).grown hg (by simp; omega) (fun x hx => (HOi1.out.lt x hx).1))
  clear hown' hg hne
  go_wp2_with fail
  go_ret2
  exact ⟨_, rfl, by rw [HF.out]; exact strsOut_of HO2.out (by simp) HB2.out (Nat.le_refl _)⟩
set_option maxHeartbeats 2000000 in
theorem implFormsOf_C (n : Nat) (w : World) (hn : n ≤ 1000000000) (hT : Pow10 w) (h : 0 < n) (h3 : n % 1000 ≠ 0) :
    Calls Tryd.prog 9 #[.int .i64 n] w fun e w' => ∃ v, e = .returned (.tuple #[v, .bool true]) ∧ StrsOut w (fl n 3) v w' := by
  obtain ⟨i0, hi, hz0, hz1, hz2⟩ := info_parts info_str
  have HT : Hid (∀ W, Below w.heap.size w W → Pow10 W) := fun W hW => hT.later hW
  have HF := Lib.hid (fl_C (.inr h3))
  have e6 : ((n : Int) % 1000000 == 0) = false := by simp; omega
  have e3 : ((n : Int) % 1000 == 0) = false := by simp; omega
  have HIn := Lib.hid (fun W => itoa_any n W hn)
  clear h3
  have HO0 : Hid ((w.alloc (.cells #[] 9)).ownsRow w.heap.size 9 1 (.slice (some ⟨w.heap.size, 0, none⟩) 0 0) 0 (strVs [])) := World.ownsRow_made w #[] 0 (Nat.le_refl _) (Nat.zero_le _) rfl
  have HB0 : Hid (Below w.heap.size w (w.alloc (.cells #[] 9))) := belAlloc (Below.refl _ w) _
  have HV := Lib.hid (fun W => isValue_yes (n : Int) W (by omega) (by omega))
  clear hT
  go_enter Tryd.func9, Tryd.ntmps9
  go_wp2_with fail
  refine (HV.out _).mono ?_
  rintro e wv ⟨rfl, rfl⟩
  go_wp2_with fail
  refine (HIn.out _ (HT.out _ HB0.out)).mono ?_
  rintro e wi0 ⟨rfl, hb⟩
  have HOi0 := Lib.hid (ownsRow_later HO0.out hb)
  have HBi0 := Lib.hid (belNext HB0.out hb)
  have hsi0 := HBi0.out.size
  clear hb
  go_wp2_with (at_builtin; refine wpList_append_own _ rfl (.tmp 37) (.tmp 40) 25 rfl w.heap.size 9 i0 (.string ⟨#[]⟩) 1 16 Tryd.underlying25 hi hz0 hz1 hz2 rfl (by decide) _ _ _ rfl (HOi0.out.alloc _) ⟨wi0.heap.size, 0, none⟩ 1 1 [.string (decB n)] rfl rfl (news_one _ _ _) (by intro u hu; simp at hu; subst hu; rfl) (by unfold maxLen; omega) (by omega) (by simp; omega) ?_)
  intro v1 w1 hown' hg hne
  have HO1 : Hid (w1.ownsRow w.heap.size 9 1 v1 1 (strVs [decB n])) := by
    show World.ownsRow _ _ _ _ _ _ _
    simpa [strVs] using hown'
  have HB1 := Lib.hid ((HBi0.out.alloc hsi0 _).grown hg (by simp; omega) (fun x hx => (HOi0.out.lt x hx).1))
  clear hown' hg hne
  go_wp2_with fail
  go_ret2
  exact ⟨_, rfl, by rw [HF.out]; exact strsOut_of HO1.out (by simp) HB1.out (Nat.le_refl _)⟩
set_option maxHeartbeats 2000000 in
theorem implFormsOf_D (n : Nat) (w : World) (hn : n ≤ 1000000000) (hT : Pow10 w) (h : n = 0) :
    Calls Tryd.prog 9 #[.int .i64 n] w fun e w' => ∃ v, e = .returned (.tuple #[v, .bool true]) ∧ StrsOut w (fl n 3) v w' := by
  obtain ⟨i0, hi, hz0, hz1, hz2⟩ := info_parts info_str
  have HT : Hid (∀ W, Below w.heap.size w W → Pow10 W) := fun W hW => hT.later hW
  have HF := Lib.hid (fl_C (.inl h))
  have h0 : decide ((0 : Int) < (n : Int)) = false := decide_eq_false (by omega)
  have hle : n ≤ 0 := by omega
  have HIn := Lib.hid (fun W => itoa_any n W hn)
  clear h
  have HO0 : Hid ((w.alloc (.cells #[] 9)).ownsRow w.heap.size 9 1 (.slice (some ⟨w.heap.size, 0, none⟩) 0 0) 0 (strVs [])) := World.ownsRow_made w #[] 0 (Nat.le_refl _) (Nat.zero_le _) rfl
  have HB0 : Hid (Below w.heap.size w (w.alloc (.cells #[] 9))) := belAlloc (Below.refl _ w) _
  have HV := Lib.hid (fun W => isValue_yes (n : Int) W (by omega) (by omega))
  clear hT
  go_enter Tryd.func9, Tryd.ntmps9
  go_wp2_with fail
  refine (HV.out _).mono ?_
  rintro e wv ⟨rfl, rfl⟩
  go_wp2_with fail
  refine (HIn.out _ (HT.out _ HB0.out)).mono ?_
  rintro e wi0 ⟨rfl, hb⟩
  have HOi0 := Lib.hid (ownsRow_later HO0.out hb)
  have HBi0 := Lib.hid (belNext HB0.out hb)
  have hsi0 := HBi0.out.size
  clear hb
  go_wp2_with (at_builtin; refine wpList_append_own _ rfl (.tmp 37) (.tmp 40) 25 rfl w.heap.size 9 i0 (.string ⟨#[]⟩) 1 16 Tryd.underlying25 hi hz0 hz1 hz2 rfl (by decide) _ _ _ rfl (HOi0.out.alloc _) ⟨wi0.heap.size, 0, none⟩ 1 1 [.string (decB n)] rfl rfl (news_one _ _ _) (by intro u hu; simp at hu; subst hu; rfl) (by unfold maxLen; omega) (by omega) (by simp; omega) ?_)
  intro v1 w1 hown' hg hne
  have HO1 : Hid (w1.ownsRow w.heap.size 9 1 v1 1 (strVs [decB n])) := by
    show World.ownsRow _ _ _ _ _ _ _
    simpa [strVs] using hown'
  have HB1 := Lib.hid ((HBi0.out.alloc hsi0 _).grown hg (by simp; omega) (fun x hx => (HOi0.out.lt x hx).1))
  clear hown' hg hne
  go_wp2_with fail
  go_ret2
  exact ⟨_, rfl, by rw [HF.out]; exact strsOut_of HO1.out (by simp) HB1.out (Nat.le_refl _)⟩
theorem implFormsOf_yes (n : Nat) (w : World) (hn : n ≤ 1000000000) (hT : Pow10 w) :
    Calls Tryd.prog 9 #[.int .i64 n] w fun e w' => ∃ v, e = .returned (.tuple #[v, .bool true]) ∧ StrsOut w (fl n 3) v w' := by
  by_cases h : 0 < n
  · by_cases h6 : n % 1000000 = 0
    · exact implFormsOf_A n w hn hT h h6
    · by_cases h3 : n % 1000 = 0
      · exact implFormsOf_B n w hn hT h h6 h3
      · exact implFormsOf_C n w hn hT h h3
  · exact implFormsOf_D n w hn hT (by omega)
set_option maxHeartbeats 1000000 in
theorem specFormsOf_yes (n : Nat) (w : World) (hn : n ≤ 1000000000) :
    Calls Tryd.prog 8 #[.int .i64 n] w fun e w' => ∃ v, e = .returned (.tuple #[v, .bool true]) ∧ StrsOut w (fl n 3) v w' := by
  have HF := Lib.hid (nuForms_any n w hn)
  have HV := Lib.hid (fun W => nuValue_yes (n : Int) W (by omega) (by omega))
  go_enter Tryd.func8, Tryd.ntmps8
  go_wp2_with fail
  refine (HV.out _).mono ?_
  rintro e wv ⟨rfl, rfl⟩
  go_wp2_with fail
  refine HF.out.mono ?_
  rintro e w1 ⟨v, rfl, hs⟩
  have HS := Lib.hid hs
  clear hs
  go_wp2_with fail
  go_ret2
  exact ⟨_, rfl, HS.out⟩
end Go.Proofs.YtkcigdcjpnojnaaDoor
