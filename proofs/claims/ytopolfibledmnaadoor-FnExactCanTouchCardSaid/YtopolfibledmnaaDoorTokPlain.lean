/-
  Tokens, in plain words: signs, words, runs of letters and digits, the token of a text, and the tests of the law's bytes, walked once each.
-/
import Derived.Test.YtopolfibledmnaaDoorTokTabs
import Derived.Test.YtopolfibledmnaaDoorSkip
import Derived.Test.YtopolfibledmnaaDoorReadAnyWalk
import Derived.Lib.Strings
namespace Go.Proofs.YtopolfibledmnaaDoor
open Go.RowKit
/-- A small letter; a small letter or a digit. -/
def smB (c : Int) : Bool := decide (97 ≤ c ∧ c ≤ 122)
def alB (c : Int) : Bool := decide ((97 ≤ c ∧ c ≤ 122) ∨ (48 ≤ c ∧ c ≤ 57))
theorem alB_sm {c : Int} (h : smB c = true) : alB c = true := by
  have := of_decide_eq_true h
  exact decide_eq_true (.inl this)
theorem alB_dig {c : Int} (h : alB c = true) (h' : smB c = false) : digB c = true := by
  have h1 := of_decide_eq_true h
  have h2 := of_decide_eq_false h'
  exact decide_eq_true (by omega)
theorem alB_not {c : Int} (h : alB c = false) : smB c = false ∧ digB c = false := by
  have h1 := of_decide_eq_false h
  exact ⟨decide_eq_false (by omega), decide_eq_false (by omega)⟩
theorem digB_al {c : Int} (h : digB c = true) : alB c = true ∧ smB c = false := by
  have h1 := of_decide_eq_true h
  exact ⟨decide_eq_true (by omega), decide_eq_false (by omega)⟩
theorem isSmall_yes (c : Int) (w : World) (h : smB c = true) : Calls Tryd.prog 65 #[.int .u8 c] w fun e w' => e = .returned (.bool true) ∧ w = w' := by
  obtain ⟨h1, h2⟩ := of_decide_eq_true h
  clear h
  go_enter Tryd.func65, Tryd.ntmps65
  go_wp2
  go_ret
  exact ⟨rfl, rfl⟩
theorem isSmall_no (c : Int) (w : World) (h : smB c = false) : Calls Tryd.prog 65 #[.int .u8 c] w fun e w' => e = .returned (.bool false) ∧ w = w' := by
  have h' := of_decide_eq_false h
  clear h
  by_cases h1 : 97 ≤ c
  · have h2 : decide (c ≤ 122) = false := decide_eq_false (by omega)
    clear h'
    go_enter Tryd.func65, Tryd.ntmps65
    go_wp2
    go_ret
    exact ⟨rfl, rfl⟩
  · have h2 : decide (97 ≤ c) = false := decide_eq_false h1
    clear h'
    go_enter Tryd.func65, Tryd.ntmps65
    go_wp2
    go_ret
    exact ⟨rfl, rfl⟩
theorem tkLetter_yes (c : Int) (w : World) (h : smB c = true) : Calls Tryd.prog 77 #[.int .u8 c] w fun e w' => e = .returned (.bool true) ∧ w = w' := by
  obtain ⟨h1, h2⟩ := of_decide_eq_true h
  clear h
  go_enter Tryd.func77, Tryd.ntmps77
  go_wp2
  go_ret
  exact ⟨rfl, rfl⟩
theorem tkLetter_no (c : Int) (w : World) (h : smB c = false) : Calls Tryd.prog 77 #[.int .u8 c] w fun e w' => e = .returned (.bool false) ∧ w = w' := by
  have h' := of_decide_eq_false h
  clear h
  by_cases h1 : 97 ≤ c
  · have h2 : decide (c ≤ 122) = false := decide_eq_false (by omega)
    clear h'
    go_enter Tryd.func77, Tryd.ntmps77
    go_wp2
    go_ret
    exact ⟨rfl, rfl⟩
  · have h2 : decide (97 ≤ c) = false := decide_eq_false h1
    clear h'
    go_enter Tryd.func77, Tryd.ntmps77
    go_wp2
    go_ret
    exact ⟨rfl, rfl⟩
theorem isAlnum_yes (c : Int) (w : World) (h : alB c = true) : Calls Tryd.prog 72 #[.int .u8 c] w fun e w' => e = .returned (.bool true) ∧ w = w' := by
  cases hs : smB c with
  | true =>
    have H := Lib.hid hs
    clear h hs
    go_enter Tryd.func72, Tryd.ntmps72
    go_wp2_with (go_at_call 65; refine (isSmall_yes _ _ H.out).mono ?_; rintro e w1 ⟨rfl, rfl⟩)
    go_ret
    exact ⟨rfl, rfl⟩
  | false =>
    have H := Lib.hid hs
    have H2 := Lib.hid (alB_dig h hs)
    clear h hs
    go_enter Tryd.func72, Tryd.ntmps72
    go_wp2_with (first | (go_at_call 65; refine (isSmall_no _ _ H.out).mono ?_; rintro e w1 ⟨rfl, rfl⟩) | (go_at_call 81; refine (isDigit_yes _ _ H2.out).mono ?_; rintro e w1 ⟨rfl, rfl⟩))
    go_ret
    exact ⟨rfl, rfl⟩
theorem isAlnum_no (c : Int) (w : World) (h : alB c = false) : Calls Tryd.prog 72 #[.int .u8 c] w fun e w' => e = .returned (.bool false) ∧ w = w' := by
  have H := Lib.hid (alB_not h).1
  have H2 := Lib.hid (alB_not h).2
  clear h
  go_enter Tryd.func72, Tryd.ntmps72
  go_wp2_with (first | (go_at_call 65; refine (isSmall_no _ _ H.out).mono ?_; rintro e w1 ⟨rfl, rfl⟩) | (go_at_call 81; refine (isDigit_no _ _ H2.out).mono ?_; rintro e w1 ⟨rfl, rfl⟩))
  go_ret
  exact ⟨rfl, rfl⟩
theorem tkMark_yes (c : Int) (w : World) (h : alB c = true) : Calls Tryd.prog 76 #[.int .u8 c] w fun e w' => e = .returned (.bool true) ∧ w = w' := by
  cases hs : smB c with
  | true =>
    have H := Lib.hid hs
    clear h hs
    go_enter Tryd.func76, Tryd.ntmps76
    go_wp2_with (go_at_call 77; refine (tkLetter_yes _ _ H.out).mono ?_; rintro e w1 ⟨rfl, rfl⟩)
    go_ret
    exact ⟨rfl, rfl⟩
  | false =>
    have H := Lib.hid hs
    obtain ⟨h1, h2⟩ := of_decide_eq_true (alB_dig h hs)
    clear h hs
    go_enter Tryd.func76, Tryd.ntmps76
    go_wp2_with (go_at_call 77; refine (tkLetter_no _ _ H.out).mono ?_; rintro e w1 ⟨rfl, rfl⟩)
    go_ret
    exact ⟨rfl, rfl⟩
theorem tkMark_no (c : Int) (w : World) (h : alB c = false) : Calls Tryd.prog 76 #[.int .u8 c] w fun e w' => e = .returned (.bool false) ∧ w = w' := by
  have H := Lib.hid (alB_not h).1
  have h' := of_decide_eq_false (alB_not h).2
  clear h
  by_cases h1 : 48 ≤ c
  · have h2 : decide (c ≤ 57) = false := decide_eq_false (by omega)
    clear h'
    go_enter Tryd.func76, Tryd.ntmps76
    go_wp2_with (go_at_call 77; refine (tkLetter_no _ _ H.out).mono ?_; rintro e w1 ⟨rfl, rfl⟩)
    go_ret
    exact ⟨rfl, rfl⟩
  · have h2 : decide (48 ≤ c) = false := decide_eq_false h1
    clear h'
    go_enter Tryd.func76, Tryd.ntmps76
    go_wp2_with (go_at_call 77; refine (tkLetter_no _ _ H.out).mono ?_; rintro e w1 ⟨rfl, rfl⟩)
    go_ret
    exact ⟨rfl, rfl⟩
/-- Whether l stands at a. -/
def preB (s : ByteArray) (a : Nat) (l : List UInt8) : Bool := Lib.hasPrefix (s.data.toList.drop a) l
theorem preB_ext {s : ByteArray} {a : Nat} {l : List UInt8} (h : a + l.length ≤ s.size) : ((s.extract a (a + l.length)).toList == l) = preB s a l := by
  unfold preB
  have hl : s.data.toList.length = s.size := by simp
  rw [← Lib.hasPrefix_of_take, ByteArray.toList_eq, Lib.extract_data, show a + l.length - a = l.length by omega]
  have : decide (l.length ≤ (s.data.toList.drop a).length) = true := decide_eq_true (by rw [List.length_drop]; omega)
  rw [this, Bool.true_and]
theorem preB_short {s : ByteArray} {a : Nat} {l : List UInt8} (h : s.size < a + l.length) (ha : a ≤ s.size) : preB s a l = false := by
  unfold preB
  have hl : s.data.toList.length = s.size := by simp
  rw [← Lib.hasPrefix_of_take]
  have : decide (l.length ≤ (s.data.toList.drop a).length) = false := decide_eq_false (by rw [List.length_drop]; omega)
  rw [this, Bool.false_and]
/-- The sign at a: its place among the signs, 6 if there is none; its text, empty if there is none. -/
def sgI (s : ByteArray) (a : Nat) : Nat := fstOf (fun k => preB s a (signNs.getD k [])) 0 6
def sgn (s : ByteArray) (a : Nat) : ByteArray := strAt signNs (sgI s a)
theorem sgI_le (s : ByteArray) (a : Nat) : sgI s a ≤ 6 := by have := (fstOf_le (fun k => preB s a (signNs.getD k [])) 6 0).2; unfold sgI; omega
theorem sgn_none {s : ByteArray} {a : Nat} (h : sgI s a = 6) : sgn s a = ⟨#[]⟩ := by rw [sgn, h]; rfl
theorem sign_cases {k : Nat} (h : k < 6) : k = 0 ∨ k = 1 ∨ k = 2 ∨ k = 3 ∨ k = 4 ∨ k = 5 := by omega
theorem sign_size {k : Nat} (h : k < 6) : 1 ≤ (strAt signNs k).size ∧ (strAt signNs k).size ≤ 2 := by
  rcases sign_cases h with rfl | rfl | rfl | rfl | rfl | rfl <;> decide
theorem sign_len (k : Nat) : (strAt signNs k).size = (signNs.getD k []).length := by
  rw [strAt, ← sz_list_]
where sz_list_ : ∀ {l : List UInt8}, l.length = (⟨l.toArray⟩ : ByteArray).size := rfl
theorem sgI_pre {s : ByteArray} {a : Nat} (h : sgI s a < 6) : preB s a (signNs.getD (sgI s a) []) = true := fstOf_holds (fun k => preB s a (signNs.getD k [])) 6 0 (by unfold sgI at h; omega)
theorem sgn_fits {s : ByteArray} {a : Nat} (h : sgI s a < 6) (ha : a ≤ s.size) : a + (sgn s a).size ≤ s.size := by
  have hp := sgI_pre h
  rcases Nat.lt_or_ge s.size (a + (signNs.getD (sgI s a) []).length) with h1 | h1
  · rw [preB_short h1 ha] at hp; cases hp
  · rw [sgn, sign_len]; exact h1
/-- A sign's first byte is no letter and no digit. -/
theorem sign_first {k : Nat} (h : k < 6) : alB (byt (strAt signNs k) 0) = false := by
  rcases sign_cases h with rfl | rfl | rfl | rfl | rfl | rfl <;> decide
theorem sgn_byte {s : ByteArray} {a : Nat} (h : sgI s a < 6) : byt s a = byt (sgn s a) 0 := by
  have hp := sgI_pre h
  unfold preB Lib.hasPrefix at hp
  have hsz := (sign_size h).1
  rw [sign_len] at hsz
  unfold sgn strAt
  generalize signNs.getD (sgI s a) [] = l at *
  match l, hsz with
  | x :: r, _ =>
    unfold byt
    cases hd : s.data.toList.drop a with
    | nil => rw [hd] at hp; simp [List.isPrefixOf] at hp
    | cons y t =>
      rw [hd] at hp
      simp only [List.isPrefixOf, Bool.and_eq_true, beq_iff_eq] at hp
      have e : s.data.toList[a]? = some y := by
        rw [← List.head?_drop, hd]; rfl
      rw [e, hp.1]; rfl
/-- Where a run of letters and digits that goes on at a ends; the run. -/
def alEnd (s : ByteArray) (a : Nat) : Nat := stop (fun i => alB (byt s i)) a (s.size - a)
def run (s : ByteArray) (a : Nat) : ByteArray := s.extract a (alEnd s a)
theorem alEnd_ge (s : ByteArray) (a : Nat) : a ≤ alEnd s a := stop_ge _ _ _
theorem alEnd_le (s : ByteArray) {a : Nat} (h : a ≤ s.size) : alEnd s a ≤ s.size := stop_le' _ h
theorem run_size {s : ByteArray} {a : Nat} (h : a ≤ s.size) : (run s a).size = alEnd s a - a := by
  have := alEnd_le s h
  rw [run, ByteArray.size_extract]
  omega
theorem alEnd_one {s : ByteArray} {a : Nat} (h : a < s.size) (hb : alB (byt s a) = true) : alEnd s a = alEnd s (a + 1) := stop_go (p := fun i => alB (byt s i)) h hb
theorem alEnd_none {s : ByteArray} {a : Nat} (hb : alB (byt s a) = false) : alEnd s a = a := stop_no _ hb
/-- All bytes of a text are small letters. -/
def allSm (s : ByteArray) : Bool := decide (stop (fun i => smB (byt s i)) 0 s.size = s.size)
def wdB (s : ByteArray) : Bool := allSm s && decide (1 ≤ s.size ∧ s.size ≤ 12)
/-- The kind of a text that begins as a token does; the kind of its fault; its value. -/
def mkF (t : ByteArray) : Int := if smB (byt t 0) then (if wdB t then 0 else 7) else if digB (byt t 0) then (if raD t < 0 then 3 else 0) else 0
def mkK (t : ByteArray) : Int := if smB (byt t 0) then (if hasS keyNs t then 1 else 2) else if digB (byt t 0) then 3 else 4
def mkV (t : ByteArray) : Int := if smB (byt t 0) then 0 else if digB (byt t 0) then raD t else 0
/-- The text of the token at a, and the kind of the fault there (0: none). -/
def tkT (s : ByteArray) (a : Nat) : ByteArray := if sgI s a < 6 then sgn s a else run s a
def rdF (s : ByteArray) (a : Nat) : Int := if (tkT s a).size = 0 then 1 else mkF (tkT s a)
theorem tkT_fits {s : ByteArray} {a : Nat} (ha : a ≤ s.size) : a + (tkT s a).size ≤ s.size := by
  unfold tkT
  split
  · rename_i h; exact sgn_fits h ha
  · rw [run_size ha]
    have := alEnd_le s ha
    have := alEnd_ge s a
    omega
theorem mk_sign {k : Nat} (h : k < 6) : mkF (strAt signNs k) = 0 ∧ mkK (strAt signNs k) = 4 ∧ mkV (strAt signNs k) = 0 := by
  obtain ⟨h1, h2⟩ := alB_not (sign_first h)
  unfold mkF mkK mkV
  rw [h1, h2]
  exact ⟨rfl, rfl, rfl⟩
end Go.Proofs.YtopolfibledmnaaDoor
