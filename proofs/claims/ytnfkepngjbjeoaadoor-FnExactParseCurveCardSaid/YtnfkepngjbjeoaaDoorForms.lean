/-
  The forms of a value: the program's numberText, the reference's nuForms and nuText.
-/
import Derived.Test.YtnfkepngjbjeoaaDoorItoa
import Derived.Test.YtnfkepngjbjeoaaDoorStrs
namespace Go.Proofs.YtnfkepngjbjeoaaDoor
open Go.RowKit
def szOf : Nat → Nat
  | 0 => 1000000
  | 1 => 1000
  | _ => 1
def unOf : Nat → ByteArray
  | 0 => ⟨#[109]⟩
  | 1 => ⟨#[107]⟩
  | _ => ⟨#[]⟩
theorem un_e0 : (unOf 0).toList.isEmpty = false := by kernel_rfl
theorem un_e1 : (unOf 1).toList.isEmpty = false := by kernel_rfl
theorem un_e2 : (unOf 2).toList.isEmpty = true := by kernel_rfl
def cndB (n k : Nat) : Bool := decide (n % szOf k = 0 ∧ (0 < n ∨ k = 2))
def formB (n k : Nat) : ByteArray := decB (n / szOf k) ++ unOf k
/-- The forms with the first k units. -/
def fl (n : Nat) : Nat → List ByteArray
  | 0 => []
  | k + 1 => if cndB n k then fl n k ++ [formB n k] else fl n k
theorem fl_yes {n k : Nat} (h : cndB n k = true) : fl n (k + 1) = fl n k ++ [formB n k] := by rw [fl, if_pos h]
theorem fl_no {n k : Nat} (h : cndB n k = false) : fl n (k + 1) = fl n k := by rw [fl, h]; rfl
theorem fl_len (n : Nat) : ∀ k, (fl n k).length ≤ k
  | 0 => by simp [fl]
  | k + 1 => by
    have := fl_len n k
    rw [fl]
    split <;> simp <;> omega
theorem fl3_pos (n : Nat) : 1 ≤ (fl n 3).length := by
  rw [fl_yes (k := 2) (by simp [cndB, szOf, Nat.mod_one])]
  simp
theorem nuUnits_ex (w : World) : Calls Tryd.prog 27 #[] w fun e w' => e = .returned (.slice (some ⟨w.heap.size, 0, none⟩) 3 3) ∧ w.alloc (.cells #[.string ⟨#[109]⟩, .string ⟨#[107]⟩, .string ⟨#[]⟩] 9) = w' := by
  go_enter Tryd.func27, Tryd.ntmps27
  go_wp2
  go_ret
  exact ⟨rfl, rfl⟩
theorem nuSize_ex (k : Nat) (hk : k < 3) (w : World) : Calls Tryd.prog 29 #[.int .i64 k] w fun e w' => e = .returned (.int .i64 (szOf k)) ∧ w.alloc (.cells #[.int .i64 1000000, .int .i64 1000, .int .i64 1] 3) = w' := by
  match k, hk with
  | 0, _ =>
    go_enter Tryd.func29, Tryd.ntmps29
    go_wp2
    go_ret
    exact ⟨rfl, rfl⟩
  | 1, _ =>
    go_enter Tryd.func29, Tryd.ntmps29
    go_wp2
    go_ret
    exact ⟨rfl, rfl⟩
  | 2, _ =>
    go_enter Tryd.func29, Tryd.ntmps29
    go_wp2
    go_ret
    exact ⟨rfl, rfl⟩
set_option maxHeartbeats 4000000 in
theorem nuForms_any (n : Nat) (w : World) (hn : n ≤ 1000000000) :
    Calls Tryd.prog 25 #[.int .i64 n] w fun e w' => ∃ v, e = .returned v ∧ StrsOut w (fl n 3) v w' := by
  obtain ⟨i0, hi, hz0, hz1, hz2⟩ := info_parts info_str
  go_enter Tryd.func25, Tryd.ntmps25
  go_wp2_with fail
  refine (nuUnits_ex _).mono ?_
  rintro e w1 ⟨rfl, rfl⟩
  go_wp2_with fail
  go_loopw [3, 8] (fun sv i wr => ∃ k : Nat, k ≤ 3 ∧ i = .int .i64 k ∧ wr.ownsRow (w.heap.size + 1) 9 1 sv (fl n k).length (strVs (fl n k)) ∧ Below (w.heap.size + 1) (w.alloc (.cells #[.string ⟨#[109]⟩, .string ⟨#[107]⟩, .string ⟨#[]⟩] 9)) wr) (fun _ i _ => 3 - (intOf i).toNat)
  case atStart => exact ⟨0, Nat.zero_le _, rfl, World.ownsRow_nil _ _ _ _, Below.refl _ _⟩
  case round =>
    obtain ⟨k, hk, rfl, hown, hb⟩ := hrel
    have HB := Lib.hid hb
    have HO := Lib.hid hown
    have hsz := hb.size
    have hfl := fl_len n k
    simp at hsz
    clear hb hown
    by_cases hlt : k < 3
    · have hcell : wr.cell? ⟨w.heap.size, k, none⟩ = some (.string (unOf k)) := by
        rw [HB.out.cell (p := ⟨w.heap.size, k, none⟩) (by simp)]
        match k, hlt with
        | 0, _ => simp [go_sem, unOf]
        | 1, _ => simp [go_sem, unOf]
        | 2, _ => simp [go_sem, unOf]
      have hwl : w.heap.size < wr.heap.size := by omega
      have HS := Lib.hid (fun W => nuSize_ex k hlt W)
      have hs1 : 1 ≤ szOf k := by
        match k, hlt with
        | 0, _ => simp [szOf]
        | 1, _ => simp [szOf]
        | 2, _ => simp [szOf]
      have hs2 : szOf k ≤ 1000000 := by
        match k, hlt with
        | 0, _ => simp [szOf]
        | 1, _ => simp [szOf]
        | 2, _ => simp [szOf]
      have hul : (unOf k).size ≤ 1 := by
        match k, hlt with
        | 0, _ => decide
        | 1, _ => decide
        | 2, _ => decide
      have hue : (unOf k).toList.isEmpty = decide (k = 2) := by
        match k, hlt with
        | 0, _ => exact un_e0
        | 1, _ => exact un_e1
        | 2, _ => exact un_e2
      have HFY := Lib.hid (@fl_yes n k)
      have HFN := Lib.hid (@fl_no n k)
      have hcnd : cndB n k = decide (n % szOf k = 0 ∧ (0 < n ∨ k = 2)) := rfl
      have hfb : formB n k = decB (n / szOf k) ++ unOf k := rfl
      have hq : n / szOf k ≤ n := Nat.div_le_self _ _
      have HN := Lib.hid (fun W => l1Num_any (n / szOf k) W (by omega))
      have hdl := decB_len (n / szOf k) (by omega)
      have hcat := fun W => cat_ok (decB (n / szOf k)) (unOf k) W (by omega)
      rw [← hfb] at hcat
      obtain ⟨q, hqq⟩ : ∃ q, n / szOf k = q := ⟨_, rfl⟩
      have hdiv : (n : Int) / (szOf k : Int) = (q : Int) := by rw [← hqq]; rfl
      have hmod : (n : Int) % (szOf k : Int) = ((n % szOf k : Nat) : Int) := rfl
      have hqb : q ≤ 1000000000 := by omega
      rw [hqq] at HN hcat hdl
      clear hqq hfb hq
      generalize szOf k = z at *
      generalize unOf k = u at *
      generalize formB n k = fb at *
      obtain ⟨r, hr⟩ : ∃ r, n % z = r := ⟨_, rfl⟩
      rw [hr] at hcnd hmod
      clear hr
      by_cases hr0 : r = 0
      · subst hr0
        by_cases hn0 : 0 < n
        · have hc : cndB n k = true := by rw [hcnd]; exact decide_eq_true ⟨rfl, .inl hn0⟩
          have HF := Lib.hid (HFY.out hc)
          clear hcnd hc
          go_wp2_with fail
          refine (HS.out _).mono ?_
          rintro e w2 ⟨rfl, rfl⟩
          go_wp2_with fail
          refine (HS.out _).mono ?_
          rintro e w2 ⟨rfl, rfl⟩
          go_wp2_with fail
          refine (HN.out _).mono ?_
          rintro e w3 ⟨rfl, hb3⟩
          have HB3 := Lib.hid (HB.out.trans ((belNext (belAlloc (belAlloc (Below.refl _ wr) _) _) hb3).mono (show w.heap.size + 1 ≤ wr.heap.size by omega)))
          have HO3 := Lib.hid (ownsRow_later ((HO.out.alloc _).alloc _) hb3)
          have hsz3 := HB3.out.size
          simp at hsz3
          clear hb3
          go_wp2_with (at_builtin; refine wpList_append_own _ rfl _ _ 35 rfl (w.heap.size + 1) 9 i0 (.string ⟨#[]⟩) 1 16 Tryd.underlying35 hi hz0 hz1 hz2 rfl (by decide) _ _ _ rfl (HO3.out.alloc _) ⟨w3.heap.size, 0, none⟩ 1 1 [.string fb] rfl rfl ?c1 ?c2 ?c3 ?c4 ?c5 ?_)
          case c1 => exact news_one _ _ _
          case c2 => intro u hu; simp at hu; subst hu; rfl
          case c3 => unfold maxLen; omega
          case c4 => omega
          case c5 => simp; omega
          intro v' w4 hown' hg hne
          have HO' : Hid (w4.ownsRow (w.heap.size + 1) 9 1 v' (fl n (k + 1)).length (strVs (fl n (k + 1)))) := by
            show World.ownsRow _ _ _ _ _ _ _
            rw [HF.out]
            simpa [strVs] using hown'
          have HB' := Lib.hid ((HB3.out.alloc (by first | omega | (simp; omega)) _).grown hg (by simp; omega) (fun x hx => (HO3.out.lt x hx).1))
          clear hown' hg hne
          go_wp2
          go_roundw
          case rel => exact ⟨k + 1, by omega, by go_num, HO'.out, HB'.out⟩
          case measure => simp [intOf]; omega
        · have hd0 : decide ((0 : Int) < (n : Int)) = false := decide_eq_false (by omega)
          by_cases hk2 : k = 2
          · have hc : cndB n k = true := by rw [hcnd]; exact decide_eq_true ⟨rfl, .inr hk2⟩
            have HF := Lib.hid (HFY.out hc)
            have hue' : u.toList.isEmpty = true := by rw [hue]; exact decide_eq_true hk2
            clear hcnd hc hue hk2
            go_wp2_with fail
            refine (HS.out _).mono ?_
            rintro e w2 ⟨rfl, rfl⟩
            go_wp2_with fail
            refine (HS.out _).mono ?_
            rintro e w2 ⟨rfl, rfl⟩
            go_wp2_with fail
            refine (HN.out _).mono ?_
            rintro e w3 ⟨rfl, hb3⟩
            have HB3 := Lib.hid (HB.out.trans ((belNext (belAlloc (belAlloc (Below.refl _ wr) _) _) hb3).mono (show w.heap.size + 1 ≤ wr.heap.size by omega)))
            have HO3 := Lib.hid (ownsRow_later ((HO.out.alloc _).alloc _) hb3)
            have hsz3 := HB3.out.size
            simp at hsz3
            clear hb3
            go_wp2_with (at_builtin; refine wpList_append_own _ rfl _ _ 35 rfl (w.heap.size + 1) 9 i0 (.string ⟨#[]⟩) 1 16 Tryd.underlying35 hi hz0 hz1 hz2 rfl (by decide) _ _ _ rfl (HO3.out.alloc _) ⟨w3.heap.size, 0, none⟩ 1 1 [.string fb] rfl rfl ?d1 ?d2 ?d3 ?d4 ?d5 ?_)
            case d1 => exact news_one _ _ _
            case d2 => intro u hu; simp at hu; subst hu; rfl
            case d3 => unfold maxLen; omega
            case d4 => omega
            case d5 => simp; omega
            intro v' w4 hown' hg hne
            have HO' : Hid (w4.ownsRow (w.heap.size + 1) 9 1 v' (fl n (k + 1)).length (strVs (fl n (k + 1)))) := by
              show World.ownsRow _ _ _ _ _ _ _
              rw [HF.out]
              simpa [strVs] using hown'
            have HB' := Lib.hid ((HB3.out.alloc (by first | omega | (simp; omega)) _).grown hg (by simp; omega) (fun x hx => (HO3.out.lt x hx).1))
            clear hown' hg hne
            go_wp2
            go_roundw
            case rel => exact ⟨k + 1, by omega, by go_num, HO'.out, HB'.out⟩
            case measure => simp [intOf]; omega
          · have hc : cndB n k = false := by rw [hcnd]; exact decide_eq_false (fun h => hk2 (h.2.resolve_left (by omega)))
            have HF := Lib.hid (HFN.out hc)
            have hue' : u.toList.isEmpty = false := by rw [hue]; exact decide_eq_false hk2
            clear hcnd hc hue
            go_wp2_with fail
            refine (HS.out _).mono ?_
            rintro e w2 ⟨rfl, rfl⟩
            go_wp2_with fail
            go_roundw
            case rel => exact ⟨k + 1, by omega, by go_num, by rw [HF.out]; exact HO.out.alloc _, HB.out.alloc (by first | omega | (simp; omega)) _⟩
            case measure => simp [intOf]; omega
      · have hc : cndB n k = false := by rw [hcnd]; exact decide_eq_false (fun h => hr0 h.1)
        have HF := Lib.hid (HFN.out hc)
        have hre : ((r : Int) == 0) = false := by simpa using hr0
        clear hcnd hc
        go_wp2_with fail
        refine (HS.out _).mono ?_
        rintro e w2 ⟨rfl, rfl⟩
        go_wp2_with fail
        go_roundw
        case rel => exact ⟨k + 1, by omega, by go_num, by rw [HF.out]; exact HO.out.alloc _, HB.out.alloc (by first | omega | (simp; omega)) _⟩
        case measure => simp [intOf]; omega
    · obtain rfl : k = 3 := by omega
      go_wp2_with fail
      go_ret
      exact ⟨_, rfl, strsOut_of HO.out (fl3_pos n) ((belAlloc (Below.refl _ w) _).trans (HB.out.mono (by omega))) (by omega)⟩
end Go.Proofs.YtnfkepngjbjeoaaDoor
