/-
  SameTokens, the program's and the reference's; the walk of FnExactSameTokens.
-/
import Derived.Test.YtopolfibledmnaaDoorTokSame
namespace Go.Proofs.YtopolfibledmnaaDoor
open Go.RowKit
/-- What TokensOf leaves, in parts. -/
def TokFm (w : World) (m : Nat) (f : Nat → Tk) (fk fa : Int) (ok : Bool) (e : Ending) (w' : World) : Prop :=
  ∃ A c, e = .returned (.tuple #[.slice A m c, .agg #[.int .i64 fk, .int .i64 fa], .bool ok]) ∧ (0 < m → ∃ g, A = some ⟨g, 0, none⟩ ∧ OwnT w' g m f) ∧ Below w.heap.size w w'
theorem TokOut.form {w w' : World} {r : TR} {ok : Bool} {e : Ending} (h : TokOut w r [.bool ok] e w') : TokFm w r.l.length (fun i => r.l.getD i tk0) r.fk r.fa ok e w' := by
  obtain ⟨v, he, ⟨A, c, rfl, hA⟩, hb⟩ := h
  refine ⟨A, c, he, fun h0 => ?_, hb⟩
  obtain ⟨g, e1, _, e3⟩ := hA h0
  exact ⟨g, e1, e3⟩
set_option maxHeartbeats 1000000 in
theorem implSameTokens_nok (s t : ByteArray) (w : World) (m m' : Nat) (f h : Nat → Tk) (fk fa fk' fa' : Int) (ok ok' : Bool) (hok : ok = false ∨ (ok = true ∧ ok' = false))
    (hS : ∀ W, Below w.heap.size w W → Calls Tryd.prog 38 #[.string s] W (TokFm W m f fk fa ok)) (hT : ∀ W, Below w.heap.size w W → Calls Tryd.prog 38 #[.string t] W (TokFm W m' h fk' fa' ok')) :
    Calls Tryd.prog 32 #[.string s, .string t] w fun e w' => e = .returned (.tuple #[.bool false, .bool false]) ∧ Below w.heap.size w w' := by
  have HS := Lib.hid hS
  have HT := Lib.hid hT
  clear hS hT
  rcases hok with rfl | ⟨rfl, rfl⟩
  all_goals
    go_enter Tryd.func32, Tryd.ntmps32
    go_wp2_with fail
    refine (HS.out _ (Below.refl _ _)).mono ?_
    rintro e w1 ⟨A, c, rfl, _, hb1⟩
    have HB1 := Lib.hid hb1
    clear hb1
    go_wp2_with fail
    refine (HT.out _ (belAlloc HB1.out _)).mono ?_
    rintro e w2 ⟨A', c', rfl, _, hb2⟩
    have HB2 := Lib.hid (belNext (belAlloc HB1.out _) hb2)
    obtain ⟨k0, k1, kz⟩ := isFl hb2
    clear hb2
    go_wp2_with fail
    go_ret2
    exact ⟨rfl, belAlloc HB2.out _⟩
set_option maxHeartbeats 1000000 in
theorem implSameTokens_flt (s t : ByteArray) (w : World) (m m' : Nat) (f h : Nat → Tk) (fk fa fk' fa' : Int) (hf : fk ≠ 0 ∨ (fk = 0 ∧ fk' ≠ 0))
    (hS : ∀ W, Below w.heap.size w W → Calls Tryd.prog 38 #[.string s] W (TokFm W m f fk fa true)) (hT : ∀ W, Below w.heap.size w W → Calls Tryd.prog 38 #[.string t] W (TokFm W m' h fk' fa' true)) :
    Calls Tryd.prog 32 #[.string s, .string t] w fun e w' => e = .returned (.tuple #[.bool false, .bool false]) ∧ Below w.heap.size w w' := by
  have HS := Lib.hid hS
  have HT := Lib.hid hT
  clear hS hT
  have hcase : (fk != 0) = true ∨ ((fk != 0) = false ∧ (fk' != 0) = true) := by
    rcases hf with h | ⟨h, h'⟩
    · exact .inl (by simpa using h)
    · exact .inr ⟨by simpa using h, by simpa using h'⟩
  clear hf
  rcases hcase with e1 | ⟨e1, e2⟩
  all_goals
    go_enter Tryd.func32, Tryd.ntmps32
    go_wp2_with fail
    refine (HS.out _ (Below.refl _ _)).mono ?_
    rintro e w1 ⟨A, c, rfl, _, hb1⟩
    have HB1 := Lib.hid hb1
    clear hb1
    go_wp2_with fail
    refine (HT.out _ (belAlloc HB1.out _)).mono ?_
    rintro e w2 ⟨A', c', rfl, _, hb2⟩
    have HB2 := Lib.hid (belNext (belAlloc HB1.out _) hb2)
    obtain ⟨k0, k1, kz⟩ := isFl hb2
    clear hb2
    go_wp2_with fail
    go_ret2
    exact ⟨rfl, belAlloc HB2.out _⟩
set_option maxHeartbeats 1000000 in
theorem specSameTokens_nok (s t : ByteArray) (w : World) (m m' : Nat) (f h : Nat → Tk) (fk fa fk' fa' : Int) (ok ok' : Bool) (hok : ok = false ∨ (ok = true ∧ ok' = false))
    (hS : ∀ W, Below w.heap.size w W → Calls Tryd.prog 37 #[.string s] W (TokFm W m f fk fa ok)) (hT : ∀ W, Below w.heap.size w W → Calls Tryd.prog 37 #[.string t] W (TokFm W m' h fk' fa' ok')) :
    Calls Tryd.prog 31 #[.string s, .string t] w fun e w' => e = .returned (.tuple #[.bool false, .bool false]) ∧ Below w.heap.size w w' := by
  have HS := Lib.hid hS
  have HT := Lib.hid hT
  clear hS hT
  rcases hok with rfl | ⟨rfl, rfl⟩
  all_goals
    go_enter Tryd.func31, Tryd.ntmps31
    go_wp2_with fail
    refine (HS.out _ (Below.refl _ _)).mono ?_
    rintro e w1 ⟨A, c, rfl, _, hb1⟩
    have HB1 := Lib.hid hb1
    clear hb1
    go_wp2_with fail
    refine (HT.out _ (belAlloc HB1.out _)).mono ?_
    rintro e w2 ⟨A', c', rfl, _, hb2⟩
    have HB2 := Lib.hid (belNext (belAlloc HB1.out _) hb2)
    obtain ⟨k0, k1, kz⟩ := isFl hb2
    clear hb2
    go_wp2_with fail
    go_ret2
    exact ⟨rfl, belAlloc HB2.out _⟩
set_option maxHeartbeats 1000000 in
theorem specSameTokens_flt (s t : ByteArray) (w : World) (m m' : Nat) (f h : Nat → Tk) (fk fa fk' fa' : Int) (hf : fk ≠ 0 ∨ (fk = 0 ∧ fk' ≠ 0))
    (hS : ∀ W, Below w.heap.size w W → Calls Tryd.prog 37 #[.string s] W (TokFm W m f fk fa true)) (hT : ∀ W, Below w.heap.size w W → Calls Tryd.prog 37 #[.string t] W (TokFm W m' h fk' fa' true)) :
    Calls Tryd.prog 31 #[.string s, .string t] w fun e w' => e = .returned (.tuple #[.bool false, .bool false]) ∧ Below w.heap.size w w' := by
  have HS := Lib.hid hS
  have HT := Lib.hid hT
  clear hS hT
  have hcase : (fk != 0) = true ∨ ((fk != 0) = false ∧ (fk' != 0) = true) := by
    rcases hf with h | ⟨h, h'⟩
    · exact .inl (by simpa using h)
    · exact .inr ⟨by simpa using h, by simpa using h'⟩
  clear hf
  rcases hcase with e1 | ⟨e1, e2⟩
  all_goals
    go_enter Tryd.func31, Tryd.ntmps31
    go_wp2_with fail
    refine (HS.out _ (Below.refl _ _)).mono ?_
    rintro e w1 ⟨A, c, rfl, _, hb1⟩
    have HB1 := Lib.hid hb1
    clear hb1
    go_wp2_with fail
    refine (HT.out _ (belAlloc HB1.out _)).mono ?_
    rintro e w2 ⟨A', c', rfl, _, hb2⟩
    have HB2 := Lib.hid (belNext (belAlloc HB1.out _) hb2)
    obtain ⟨k0, k1, kz⟩ := isFl hb2
    clear hb2
    go_wp2_with fail
    go_ret2
    exact ⟨rfl, belAlloc HB2.out _⟩
set_option maxHeartbeats 2000000 in
theorem specSame_yes (s t : ByteArray) (w : World) (m m' : Nat) (f h : Nat → Tk) (fa fa' : Int) (hm : m ≤ 600)
    (hS : ∀ W, Below w.heap.size w W → Calls Tryd.prog 37 #[.string s] W (TokFm W m f 0 fa true)) (hT : ∀ W, Below w.heap.size w W → Calls Tryd.prog 37 #[.string t] W (TokFm W m' h 0 fa' true)) :
    Calls Tryd.prog 31 #[.string s, .string t] w fun e w' => e = .returned (.tuple #[.bool (if m = m' then samB f h m else false), .bool true]) ∧ Below w.heap.size w w' := by
  have HS := Lib.hid hS
  have HT := Lib.hid hT
  clear hS hT
  have HC : Hid (∀ (A A' : Option Addr) (c c' : Nat) (W : World), (0 < m → ∃ g, A = some ⟨g, 0, none⟩ ∧ OwnT W g m f) → (0 < m' → ∃ g, A' = some ⟨g, 0, none⟩ ∧ OwnT W g m' h) → Calls Tryd.prog 55 #[.slice A m c, .slice A' m' c'] W fun e w' => e = .returned (.bool (if m = m' then samB f h m else false)) ∧ Below W.heap.size W w') := fun A A' c c' W hA hA' => by
    by_cases e : m = m'
    · subst e
      rw [if_pos rfl]
      rcases Nat.eq_zero_or_pos m with rfl | h0
      · exact (tkSame_nil A A' c c' W).mono fun _ _ ⟨he, hw⟩ => ⟨he, hw ▸ Below.refl _ _⟩
      · obtain ⟨g, rfl, ho⟩ := hA h0
        obtain ⟨g', rfl, ho'⟩ := hA' h0
        exact tkSame_own g g' c c' m f h W (by omega) ho ho'
    · rw [if_neg e]
      exact (tkSame_len A A' m m' c c' W e).mono fun _ _ ⟨he, hw⟩ => ⟨he, hw ▸ Below.refl _ _⟩
  generalize (if m = m' then samB f h m else false) = res at *
  go_enter Tryd.func31, Tryd.ntmps31
  go_wp2_with fail
  refine (HS.out _ (Below.refl _ _)).mono ?_
  rintro e w1 ⟨A, c, rfl, hA, hb1⟩
  have HB1 := Lib.hid hb1
  have HA1 := Lib.hid hA
  clear hb1 hA
  go_wp2_with fail
  refine (HT.out _ (belAlloc HB1.out _)).mono ?_
  rintro e w2 ⟨A', c', rfl, hA', hb2⟩
  have HB2 := Lib.hid (belNext (belAlloc HB1.out _) hb2)
  have HA2 : Hid (0 < m → ∃ g, A = some ⟨g, 0, none⟩ ∧ OwnT w2 g m f) := fun h0 => by
    obtain ⟨g, e, ho⟩ := HA1.out h0
    exact ⟨g, e, (ho.later (belAlloc (Below.refl _ _) _)).later hb2⟩
  have HA2' := Lib.hid hA'
  obtain ⟨k0, k1, kz⟩ := isFl hb2
  clear hb2 hA'
  go_wp2_with fail
  refine (HC.out A A' c c' _ (fun h0 => by obtain ⟨g, e, ho⟩ := HA2.out h0; exact ⟨g, e, ho.later (belAlloc (Below.refl _ _) _)⟩) (fun h0 => by obtain ⟨g, e, ho⟩ := HA2'.out h0; exact ⟨g, e, ho.later (belAlloc (Below.refl _ _) _)⟩)).mono ?_
  rintro e w3 ⟨rfl, hb3⟩
  have HB3 := Lib.hid (belNext (belAlloc HB2.out _) hb3)
  clear hb3 k0 k1 kz
  go_wp2_with fail
  go_ret2
  exact ⟨rfl, HB3.out⟩
set_option maxHeartbeats 4000000 in
theorem implSame_yes (s t : ByteArray) (w : World) (m m' : Nat) (f h : Nat → Tk) (fa fa' : Int) (hm : m ≤ 600)
    (hS : ∀ W, Below w.heap.size w W → Calls Tryd.prog 38 #[.string s] W (TokFm W m f 0 fa true)) (hT : ∀ W, Below w.heap.size w W → Calls Tryd.prog 38 #[.string t] W (TokFm W m' h 0 fa' true)) :
    Calls Tryd.prog 32 #[.string s, .string t] w fun e w' => e = .returned (.tuple #[.bool (if m = m' then samB f h m else false), .bool true]) ∧ Below w.heap.size w w' := by
  have HS := Lib.hid hS
  have HT := Lib.hid hT
  clear hS hT
  by_cases hmm : m = m'
  · subst hmm
    rw [if_pos rfl]
    go_enter Tryd.func32, Tryd.ntmps32
    go_wp2_with fail
    refine (HS.out _ (Below.refl _ _)).mono ?_
    rintro e w1 ⟨A, c, rfl, hA, hb1⟩
    have HB1 := Lib.hid hb1
    have HA1 := Lib.hid hA
    clear hb1 hA
    go_wp2_with fail
    refine (HT.out _ (belAlloc HB1.out _)).mono ?_
    rintro e w2 ⟨A', c', rfl, hA', hb2⟩
    have HB2 := Lib.hid (belNext (belAlloc HB1.out _) hb2)
    have HA2 : Hid (0 < m → ∃ g, A = some ⟨g, 0, none⟩ ∧ OwnT w2 g m f) := fun h0 => by
      obtain ⟨g, e, ho⟩ := HA1.out h0
      exact ⟨g, e, (ho.later (belAlloc (Below.refl _ _) _)).later hb2⟩
    have HA2' := Lib.hid hA'
    obtain ⟨k0, k1, kz⟩ := isFl hb2
    clear hb2 hA'
    rcases Nat.eq_zero_or_pos m with h0 | h0
    · subst h0
      go_wp2_with fail
      refine wp_loop_rounds 1 ?_; rw [rounds_succ]
      go_wp2_with fail
      go_ret2
      exact ⟨rfl, belAlloc HB2.out _⟩
    · obtain ⟨g, rfl, ho⟩ := HA2.out h0
      obtain ⟨g', rfl, ho'⟩ := HA2'.out h0
      have H := Lib.hid ho
      have H' := Lib.hid ho'
      have hgl := ho.1
      have hgl' := ho'.1
      clear ho ho'
      go_wp2_with fail
      go_loopw [48] (fun i wr => ∃ k : Nat, k ≤ m ∧ i = .int .i64 k ∧ allV (alkAt f h) k = true ∧ Below w2.heap.size w2 wr) (fun i _ => m - (intOf i).toNat)
      case atStart => exact ⟨0, Nat.zero_le _, rfl, rfl, belAlloc (Below.refl _ _) _⟩
      case round =>
        obtain ⟨k, hk, rfl, hall, hb⟩ := hrel
        have HAL := Lib.hid hall
        have HB := Lib.hid hb
        clear hall k0 k1 kz
        by_cases hlt : k < m
        · obtain ⟨x0, x1, x2, x3⟩ := (H.out.later hb).at_ hlt
          obtain ⟨y0, y1, y2, y3⟩ := (H'.out.later hb).at_ hlt
          have hgr : g < wr.heap.size := Nat.lt_of_lt_of_le hgl hb.size
          have hgr' : g' < wr.heap.size := Nat.lt_of_lt_of_le hgl' hb.size
          have hlt' : (k : Int) < (m : Int) := by omega
          have HA : Hid (∀ W, Calls Tryd.prog 56 #[.agg #[.int .i64 (f k).k, .int .i64 (f k).a, .string (f k).t, .int .i64 (f k).v], .agg #[.int .i64 (h k).k, .int .i64 (h k).a, .string (h k).t, .int .i64 (h k).v]] W fun e w' => e = .returned (.bool (alkAt f h k)) ∧ Below W.heap.size W w') := fun W => alike_any (f k) (h k) W
          clear hb
          cases hp : alkAt f h k with
          | true =>
            have HSC := Lib.hid (samAll_succ HAL.out hp)
            rw [hp] at HA
            clear hp
            generalize f k = x at x0 x1 x2 x3 HA
            generalize h k = y at y0 y1 y2 y3 HA
            go_wp2_with fail
            go_region_with ((go_at_call 56; refine (HA.out _).mono ?_; rintro e w4 ⟨rfl, hb4⟩))
            all_goals
              have HB4 := Lib.hid (HB.out.drew.trans (hb4.mono HB.out.size))
              clear hb4
              go_wp2_with fail
              go_roundw
              case rel => exact ⟨k + 1, by omega, by go_num, HSC.out, HB4.out⟩
              case measure => simp [intOf]; omega
          | false =>
            have HR : Hid (samB f h m = false) := Lib.hid (by rw [samB]; exact allV_no hp hlt)
            rw [hp] at HA
            clear hp
            generalize f k = x at x0 x1 x2 x3 HA
            generalize h k = y at y0 y1 y2 y3 HA
            go_wp2_with fail
            go_region_with ((go_at_call 56; refine (HA.out _).mono ?_; rintro e w4 ⟨rfl, hb4⟩))
            all_goals
              have HB4 := Lib.hid (HB.out.drew.trans (hb4.mono HB.out.size))
              clear hb4
              go_wp2_with fail
              go_ret2
              exact ⟨by rw [HR.out]; rfl, belNext HB2.out HB4.out⟩
        · have hkn : k = m := by omega
          have HR : Hid (samB f h m = true) := Lib.hid (by rw [samB, ← hkn]; exact HAL.out)
          clear hb hkn
          go_wp2_with fail
          go_ret2
          exact ⟨by rw [HR.out]; rfl, belNext HB2.out HB.out⟩
  · rw [if_neg hmm]
    have e1 : ((m : Int) != (m' : Int)) = true := by simp; omega
    have e2 : (m != m') = true := by simpa using hmm
    have e3 : (m == m') = false := by simpa using hmm
    clear hmm
    go_enter Tryd.func32, Tryd.ntmps32
    go_wp2_with fail
    refine (HS.out _ (Below.refl _ _)).mono ?_
    rintro e w1 ⟨A, c, rfl, _, hb1⟩
    have HB1 := Lib.hid hb1
    clear hb1
    go_wp2_with fail
    refine (HT.out _ (belAlloc HB1.out _)).mono ?_
    rintro e w2 ⟨A', c', rfl, _, hb2⟩
    have HB2 := Lib.hid (belNext (belAlloc HB1.out _) hb2)
    obtain ⟨k0, k1, kz⟩ := isFl hb2
    clear hb2
    go_wp2_with fail
    go_ret2
    exact ⟨rfl, belAlloc HB2.out _⟩
theorem sameTokens_law (s t : ByteArray) (a b : Bool) (w : World) (hs : s.size ≤ 1048576) (ht : t.size ≤ 1048576)
    (hS : ∀ W, Below w.heap.size w W → Calls Tryd.prog 31 #[.string s, .string t] W fun e w' => e = .returned (.tuple #[.bool a, .bool b]) ∧ Below W.heap.size W w')
    (hI : ∀ W, Below w.heap.size w W → Calls Tryd.prog 32 #[.string s, .string t] W fun e w' => e = .returned (.tuple #[.bool a, .bool b]) ∧ Below W.heap.size W w') :
    Calls Tryd.prog 7 #[.string s, .string t] w fun e w' => e = .returned (.bool true) ∧ Below w.heap.size w w' := by
  have HS := Lib.hid hS
  have HI := Lib.hid hI
  clear hS hI
  go_enter Tryd.func7, Tryd.ntmps7
  go_wp2_with fail
  refine (HS.out _ (Below.refl _ _)).mono ?_
  rintro e w1 ⟨rfl, hb1⟩
  have HB1 := Lib.hid hb1
  clear hb1
  go_wp2_with fail
  refine (HI.out _ HB1.out).mono ?_
  rintro e w2 ⟨rfl, hb2⟩
  have HB2 := Lib.hid (belNext HB1.out hb2)
  clear hb2
  go_wp2_with fail
  go_ret
  exact ⟨rfl, HB2.out⟩
/-- The outcome of TokensOf, whatever the text. -/
theorem tokensOf_both (s : ByteArray) (w : World) (hs : s.size ≤ 1048576) (hK : TabS w 0 keyNs) (hG : TabS w 1 signNs) : ∃ (r : TR) (ok : Bool), r.l.length ≤ 600 ∧ (∀ W, Below w.heap.size w W → Calls Tryd.prog 37 #[.string s] W (TokFm W r.l.length (fun i => r.l.getD i tk0) r.fk r.fa ok)) ∧
    (∀ W, Below w.heap.size w W → Calls Tryd.prog 38 #[.string s] W (TokFm W r.l.length (fun i => r.l.getD i tk0) r.fk r.fa ok)) := by
  by_cases h : s.size ≤ 4000
  · exact ⟨tks s 0 0, true, tks_len s 0 0 (by omega), fun W _ => (specTokensOf_yes s W h).mono fun _ _ h => h.form, fun W hW => (implTokensOf_yes s W h (hK.later hW) (hG.later hW)).mono fun _ _ h => h.form⟩
  · exact ⟨⟨0, 0, []⟩, false, by simp, fun W _ => (specTokensOf_no s W hs (by omega)).mono fun _ _ h => h.form, fun W _ => (implTokensOf_no s W hs (by omega)).mono fun _ _ h => h.form⟩
theorem fnExactSameTokens_walk (s : ByteArray) (hs : s.size ≤ maxLen) (t : ByteArray) (ht : t.size ≤ maxLen) (w : World) (hL : laidMetH Tryd.prog Rows.fnExactSameTokensRow.laid w) :
    Calls Tryd.prog 7 #[.string s, .string t] w fun e w' => e = .returned (.bool true) ∧ Below w.heap.size w w' := by
  have hK := keyTab_of hL (by simp [Rows.fnExactSameTokensRow])
  have hG := signTab_of hL (by simp [Rows.fnExactSameTokensRow])
  clear hL
  unfold maxLen at hs ht
  by_cases hb1 : 1048576 < (s.size : Int)
  · clear hK hG
    go_enter Tryd.func7, Tryd.ntmps7
    go_wp2
    go_ret
    exact ⟨rfl, Below.refl _ _⟩
  by_cases hb2 : 1048576 < (t.size : Int)
  · clear hK hG
    go_enter Tryd.func7, Tryd.ntmps7
    go_wp2
    go_ret
    exact ⟨rfl, Below.refl _ _⟩
  obtain ⟨r, ok, hl, hS, hI⟩ := tokensOf_both s w (by omega) hK hG
  obtain ⟨r', ok', hl', hS', hI'⟩ := tokensOf_both t w (by omega) hK hG
  have hsub : ∀ {W W' : World}, Below w.heap.size w W → Below W.heap.size W W' → Below w.heap.size w W' := fun h h' => belNext h h'
  by_cases hok : ok = false ∨ (ok = true ∧ ok' = false)
  · exact sameTokens_law s t false false w (by omega) (by omega) (fun W hW => specSameTokens_nok s t W _ _ _ _ _ _ _ _ ok ok' hok (fun W' hW' => hS W' (hsub hW hW')) (fun W' hW' => hS' W' (hsub hW hW'))) (fun W hW => implSameTokens_nok s t W _ _ _ _ _ _ _ _ ok ok' hok (fun W' hW' => hI W' (hsub hW hW')) (fun W' hW' => hI' W' (hsub hW hW')))
  · obtain ⟨rfl, rfl⟩ : ok = true ∧ ok' = true := by
      cases ok <;> cases ok' <;> simp_all
    by_cases hf : r.fk ≠ 0 ∨ (r.fk = 0 ∧ r'.fk ≠ 0)
    · exact sameTokens_law s t false false w (by omega) (by omega) (fun W hW => specSameTokens_flt s t W _ _ _ _ _ _ _ _ hf (fun W' hW' => hS W' (hsub hW hW')) (fun W' hW' => hS' W' (hsub hW hW'))) (fun W hW => implSameTokens_flt s t W _ _ _ _ _ _ _ _ hf (fun W' hW' => hI W' (hsub hW hW')) (fun W' hW' => hI' W' (hsub hW hW')))
    · have h1 : r.fk = 0 := by
        rcases Decidable.em (r.fk = 0) with h | h
        · exact h
        · exact absurd (.inl h) hf
      have h2 : r'.fk = 0 := by
        rcases Decidable.em (r'.fk = 0) with h | h
        · exact h
        · exact absurd (.inr ⟨h1, h⟩) hf
      rw [h1] at hS hI
      rw [h2] at hS' hI'
      exact sameTokens_law s t _ true w (by omega) (by omega) (fun W hW => specSame_yes s t W _ _ _ _ _ _ hl (fun W' hW' => hS W' (hsub hW hW')) (fun W' hW' => hS' W' (hsub hW hW'))) (fun W hW => implSame_yes s t W _ _ _ _ _ _ hl (fun W' hW' => hI W' (hsub hW hW')) (fun W' hW' => hI' W' (hsub hW hW')))
end Go.Proofs.YtopolfibledmnaaDoor
