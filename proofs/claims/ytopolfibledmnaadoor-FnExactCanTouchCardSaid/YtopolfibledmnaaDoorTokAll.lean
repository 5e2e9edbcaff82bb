/-
  All tokens of a text: tkAll and TokensOf of the reference, TokensOf of the program.
-/
import Derived.Test.YtopolfibledmnaaDoorTokList
import Derived.Test.YtopolfibledmnaaDoorScBytes
namespace Go.Proofs.YtopolfibledmnaaDoor
open Go.RowKit
/-- What a call leaves that returns tokens and a fault, the world being w before and w' behind it. -/
def TokOut (w : World) (r : TR) (b : List Value) (e : Ending) (w' : World) : Prop := ∃ v, e = .returned (.tuple (#[v, .agg #[.int .i64 r.fk, .int .i64 r.fa]] ++ b.toArray)) ∧ TokRow w' (w.heap.size + 1) r.l v ∧ Below w.heap.size w w'
theorem row_form {w : World} {base size n : Nat} {e : TypeId} {v : Value} {xs : List Value} (h : w.ownsRow base e size v n xs) : ∃ A c, v = .slice A n c := by
  rcases h.2 with ⟨rfl, e0⟩ | ⟨g, cap, cur, rfl, _⟩
  · exact ⟨none, 0, by rw [e0]⟩
  · exact ⟨_, _, rfl⟩
theorem mkK_le (t : ByteArray) : mkK t = 1 ∨ mkK t = 2 ∨ mkK t = 3 ∨ mkK t = 4 := by
  unfold mkK
  split
  · split
    · exact .inl rfl
    · exact .inr (.inl rfl)
  · split
    · exact .inr (.inr (.inl rfl))
    · exact .inr (.inr (.inr rfl))
theorem atOut_end {s : ByteArray} {a : Nat} (h : ¬ skp s a < s.size) : atOut s a = .tuple #[.agg #[.int .i64 0, .int .i64 0, .string ⟨#[]⟩, .int .i64 0], .int .i64 (skp s a), .agg #[.int .i64 0, .int .i64 0]] := by rw [atOut, if_neg h]
theorem atOut_bad {s : ByteArray} {a : Nat} (h : skp s a < s.size) (hf : rdF s (skp s a) ≠ 0) : atOut s a = .tuple #[.agg #[.int .i64 0, .int .i64 0, .string ⟨#[]⟩, .int .i64 0], .int .i64 (skp s a), .agg #[.int .i64 (rdF s (skp s a)), .int .i64 (skp s a)]] := by rw [atOut, if_pos h, rdOut, if_neg hf]
theorem rdOut_ok {s : ByteArray} {p : Nat} (hf : rdF s p = 0) : rdOut s p = .tuple #[.agg #[.int .i64 (tokD s p).k, .int .i64 p, .string (tokD s p).t, .int .i64 (tokD s p).v], .int .i64 ((p : Int) + ((tokD s p).t.size : Int)), .agg #[.int .i64 0, .int .i64 0]] := by rw [rdOut, if_pos hf]; rfl
theorem atOut_ok {s : ByteArray} {a : Nat} (h : skp s a < s.size) (hf : rdF s (skp s a) = 0) : atOut s a = .tuple #[.agg #[.int .i64 (tokD s (skp s a)).k, .int .i64 (skp s a), .string (tokD s (skp s a)).t, .int .i64 (tokD s (skp s a)).v], .int .i64 ((skp s a : Int) + ((tokD s (skp s a)).t.size : Int)), .agg #[.int .i64 0, .int .i64 0]] := by rw [atOut, if_pos h, rdOut_ok hf]
set_option maxRecDepth 100000 in
set_option maxHeartbeats 4000000 in
theorem tkAll_any (s : ByteArray) (w : World) (hs : s.size ≤ 4000) :
    Calls Tryd.prog 60 #[.string s] w (TokOut w (tks s 0 0) []) := by
  obtain ⟨i0, hi, hz0, hz1, hz2⟩ := info_parts infoT
  have HA := Lib.hid (fun a W h => tkAt_any s a W hs h)
  go_enter Tryd.func60, Tryd.ntmps60
  go_wp2_with fail
  go_loopw [4, 5] (fun sv av wr => ∃ (a : Nat) (done : List Tk), a ≤ s.size ∧ done.length ≤ 600 ∧ av = .int .i64 a ∧ tks s 0 0 = app done (tks s a done.length) ∧ wr.ownsRow (w.heap.size + 1) 27 4 sv done.length (flatL done) ∧ Below (w.alloc (.cells #[.int .i64 0, .int .i64 0] 31)).heap.size (w.alloc (.cells #[.int .i64 0, .int .i64 0] 31)) wr) (fun _ av _ => s.size - (intOf av).toNat)
  case atStart => exact ⟨0, [], Nat.zero_le _, by simp, rfl, (app_nil (tks_l s 0 0)).symm, World.ownsRow_nil _ _ _ _, Below.refl _ _⟩
  case round =>
    obtain ⟨a, done, ha, hd6, rfl, hq, hown, hb⟩ := hrel
    obtain ⟨A0, c0, rfl⟩ := row_form hown
    have HQ := Lib.hid hq
    have HO := Lib.hid hown
    have HB := Lib.hid hb
    have HC := Lib.hid (fun W => HA.out a W ha)
    have hge := skp_ge s a
    clear hq hown hb
    obtain ⟨n, hn⟩ : ∃ n, done.length = n := ⟨_, rfl⟩
    have HN := Lib.hid hn
    have hn6 : n ≤ 600 := by omega
    rw [hn] at HO HQ ⊢
    clear hn hd6
    by_cases hlt : skp s a < s.size
    · by_cases hf : rdF s (skp s a) = 0
      · obtain ⟨p, hp⟩ : ∃ p, skp s a = p := ⟨_, rfl⟩
        rw [atOut_ok hlt hf] at HC
        have hfit := tkT_fits (s := s) (a := skp s a) (by omega)
        have h1 := rdF_size hf
        have hx4 := mkK_le (tkT s (skp s a))
        by_cases h600 : n = 600
        · have HR := Lib.hid (HQ.out.trans ((congrArg (app done) (tks_full hlt hf h600)).trans (app_bad _ _ (by omega))))
          rw [hp] at HC HR hlt hfit h1 hx4 hge
          change mkK (tkT s p) = 1 ∨ mkK (tkT s p) = 2 ∨ mkK (tkT s p) = 3 ∨ mkK (tkT s p) = 4 at hx4
          rw [show mkK (tkT s p) = (tokD s p).k from rfl] at hx4
          clear hf hp
          generalize tokD s p = x at *
          have hk0 : (x.k == 0) = false := by simp; omega
          have e600 : ((n : Int) == 600) = true := by simp; omega
          clear hx4 h600
          go_wp2_with fail
          refine (HC.out _).mono ?_
          rintro e w1 ⟨rfl, hb1⟩
          have HBW := belNext HB.out hb1
          have R := resF HBW
          obtain ⟨q0, q1, g0, g1, rz⟩ := resF HBW
          clear hb1
          go_wp2_with fail
          go_region_with (fail)
          all_goals
            go_wp2_with fail
            exact bodyPost_ret (v := .tuple #[.slice none 0 0, .agg #[.int .i64 5, .int .i64 p]]) (by simp [results, Tryd.results60, go_sem, R.q0, R.q1, R.sz]) rfl ⟨_, by rw [HR.out]; rfl, by rw [HR.out]; exact tokRow_nil _ _ _ _, by repeat (first | (with_reducible exact belNext (belAlloc (Below.refl _ w) _) HBW) | (with_reducible refine belAlloc ?_ _) | (with_reducible refine Below.setCell ?_ (by simp) _) | (with_reducible refine Below.drew ?_))⟩
        · have HR := Lib.hid (HQ.out.trans ((congrArg (app done) (tks_go hlt hf h600)).trans (app_app _ _ _)))
          rw [hp] at HC HR hlt hfit h1 hx4 hge
          have hxt : (tokD s p).t = tkT s p := rfl
          have HXP : Hid ((tokD s p).a = (p : Int)) := Lib.hid rfl
          rw [show mkK (tkT s p) = (tokD s p).k from rfl] at hx4
          rw [← hxt] at hfit h1 HR
          clear hf hp hxt
          generalize tokD s p = x at *
          have hk0 : (x.k == 0) = false := by simp; omega
          have e600 : ((n : Int) == 600) = false := by simp; omega
          have h599 : n ≤ 599 := by omega
          clear hx4 h600
          go_wp2_with fail
          refine (HC.out _).mono ?_
          rintro e w1 ⟨rfl, hb1⟩
          have HB1 := Lib.hid (belNext HB.out hb1)
          have HO1 := Lib.hid (ownsRow_laterT HO.out hb1)
          have hs1 := HB1.out.size
          simp at hs1
          have hs1' : (w.alloc (.cells #[.int .i64 0, .int .i64 0] 31)).heap.size ≤ w1.heap.size := by simp; omega
          clear hb1
          go_wp2_with (at_builtin; refine wpList_append_own _ rfl (.tmp 34) (.tmp 36) 42 rfl (w.heap.size + 1) 27 i0 (.agg #[.int .i64 0, .int .i64 0, .string ⟨#[]⟩, .int .i64 0]) 4 40 Tryd.underlying42 hi hz0 hz1 hz2 rfl (by decide) _ _ _ rfl (((HO1.out.alloc _).alloc _).alloc _) _ 1 1 [.int .i64 x.k, .int .i64 p, .string x.t, .int .i64 x.v] rfl rfl ?c1 ?c2 ?c3 ?c4 ?c5 ?_)
          case c1 => exact news_tok _ _ _ _ _ _ _ (by simp)
          case c2 => intro u hu; simp at hu; rcases hu with rfl | rfl | rfl | rfl <;> rfl
          case c3 => unfold maxLen; omega
          case c4 => omega
          case c5 => simp; omega
          intro v' w2 hown' hg hne
          have HO2 : Hid (w2.ownsRow (w.heap.size + 1) 27 4 v' (done ++ [x]).length (flatL (done ++ [x]))) := by
            show World.ownsRow _ _ _ _ _ _ _
            have e1 : (done ++ [x]).length = n + 1 := by rw [List.length_append, HN.out]; rfl
            rw [e1, flatL_snoc, HXP.out]
            exact hown'
          have HB2 : Hid (Below (w.alloc (.cells #[.int .i64 0, .int .i64 0] 31)).heap.size (w.alloc (.cells #[.int .i64 0, .int .i64 0] 31)) w2) := (((HB1.out.alloc hs1' _).alloc (by simp; omega) _).alloc (by simp; omega) _).grown hg (by simp; omega) (fun q hq => by have := (HO1.out.lt q hq).1; simp; omega)
          clear hown' hg hne
          go_wp2_with fail
          go_roundw
          case rel => exact ⟨p + x.t.size, done ++ [x], by omega, by rw [List.length_append, HN.out]; show n + 1 ≤ 600; omega, by go_num, by rw [List.length_append, HN.out]; exact HR.out, HO2.out, HB2.out⟩
          case measure => simp [intOf]; omega
      · obtain ⟨p, hp⟩ : ∃ p, skp s a = p := ⟨_, rfl⟩
        have HR := Lib.hid (HQ.out.trans ((congrArg (app done) (tks_bad n hlt hf)).trans (app_bad _ _ hf)))
        rw [atOut_bad hlt hf] at HC
        rw [hp] at HC HR hf
        generalize rdF s p = f at *
        have hf0 : (f != 0) = true := by simpa using hf
        clear hf hp
        go_wp2_with fail
        refine (HC.out _).mono ?_
        rintro e w1 ⟨rfl, hb1⟩
        have HBW := belNext HB.out hb1
        have R := resF HBW
        obtain ⟨q0, q1, g0, g1, rz⟩ := resF HBW
        clear hb1
        go_wp2_with fail
        go_region_with (fail)
        all_goals
          go_wp2_with fail
          exact bodyPost_ret (v := .tuple #[.slice none 0 0, .agg #[.int .i64 f, .int .i64 p]]) (by simp [results, Tryd.results60, go_sem, R.q0, R.q1, R.sz]) rfl ⟨_, by rw [HR.out]; rfl, by rw [HR.out]; exact tokRow_nil _ _ _ _, by repeat (first | (with_reducible exact belNext (belAlloc (Below.refl _ w) _) HBW) | (with_reducible refine belAlloc ?_ _) | (with_reducible refine Below.setCell ?_ (by simp) _) | (with_reducible refine Below.drew ?_))⟩
    · have HR := Lib.hid (HQ.out.trans ((congrArg (app done) (tks_end n hlt)).trans (app_zero _)))
      rw [atOut_end hlt] at HC
      generalize skp s a = p at *
      go_wp2_with fail
      refine (HC.out _).mono ?_
      rintro e w1 ⟨rfl, hb1⟩
      have HBW := belNext HB.out hb1
      have HO1 := Lib.hid (ownsRow_laterT HO.out hb1)
      have HTR : Hid (TokRow w1 (w.heap.size + 1) done (.slice A0 n c0)) := tokRow_of (by rw [HN.out]; exact HO1.out)
      have R := resF HBW
      obtain ⟨q0, q1, g0, g1, rz⟩ := resF HBW
      clear hb1
      go_wp2_with fail
      exact bodyPost_ret (v := .tuple #[.slice A0 n c0, .agg #[.int .i64 0, .int .i64 0]]) (by simp [results, Tryd.results60, go_sem, R.q0, R.q1, R.sz]) rfl ⟨_, by rw [HR.out]; rfl, by rw [HR.out]; show TokRow _ _ done (Value.slice A0 n c0); repeat (first | (with_reducible exact HTR.out) | (with_reducible refine TokRow.alloc ?_ _) | (with_reducible refine TokRow.set ?_ (by simp)) | (with_reducible refine TokRow.drew ?_)), by repeat (first | (with_reducible exact belNext (belAlloc (Below.refl _ w) _) HBW) | (with_reducible refine belAlloc ?_ _) | (with_reducible refine Below.setCell ?_ (by simp) _) | (with_reducible refine Below.drew ?_))⟩
set_option maxRecDepth 100000 in
set_option maxHeartbeats 4000000 in
theorem implTokensOf_yes (s : ByteArray) (w : World) (hs : s.size ≤ 4000) (hK : TabS w 0 keyNs) (hG : TabS w 1 signNs) :
    Calls Tryd.prog 38 #[.string s] w (TokOut w (tks s 0 0) [.bool true]) := by
  obtain ⟨i0, hi, hz0, hz1, hz2⟩ := info_parts infoT
  have HSK : Hid (∀ (a : Nat) (x : Int) W, a ≤ s.size → x = a → Calls Tryd.prog 50 #[.string s, .int .i64 x] W fun e w' => e = .returned (.int .i64 (skp s a)) ∧ W = w') := fun a x W h hx => by subst hx; exact skipSpace_any s a W hs h
  have HA : Hid (∀ (p : Nat) W, p < s.size → Below w.heap.size w W → _) := fun p W h hW => readToken_any s p W (by omega) h (hK.later hW) (hG.later hW)
  have HO0 : Hid (((w.alloc (.cells #[.int .i64 0, .int .i64 0] 31)).alloc (.cells #[] 27)).ownsRow (w.heap.size + 1) 27 4 (.slice (some ⟨w.heap.size + 1, 0, none⟩) 0 0) 0 []) := by
    have := World.ownsRow_made (base := w.heap.size + 1) (e := 27) (size := 4) (w.alloc (.cells #[.int .i64 0, .int .i64 0] 31)) #[] 0 (by simp) (Nat.zero_le _) rfl
    rwa [show (w.alloc (.cells #[.int .i64 0, .int .i64 0] 31)).heap.size = w.heap.size + 1 by simp] at this
  have HSK0 := Lib.hid (fun W => skipSpace_any s 0 W hs (Nat.zero_le _))
  clear hK hG
  go_enter Tryd.func38, Tryd.ntmps38
  go_wp2_with fail
  refine (HSK0.out _).mono ?_
  rintro e w1 ⟨rfl, rfl⟩
  go_wp2_with fail
  go_loopw [5, 6] (fun sv av wr => ∃ (a : Nat) (done : List Tk), a ≤ s.size ∧ done.length ≤ 600 ∧ av = .int .i64 (skp s a) ∧ tks s 0 0 = app done (tks s a done.length) ∧ wr.ownsRow (w.heap.size + 1) 27 4 sv done.length (flatL done) ∧ Below (w.alloc (.cells #[.int .i64 0, .int .i64 0] 31)).heap.size (w.alloc (.cells #[.int .i64 0, .int .i64 0] 31)) wr) (fun _ av _ => s.size - (intOf av).toNat)
  case atStart => exact ⟨0, [], Nat.zero_le _, by simp, rfl, (app_nil (tks_l s 0 0)).symm, HO0.out, belAlloc (Below.refl _ _) _⟩
  case round =>
    obtain ⟨a, done, ha, hd6, rfl, hq, hown, hb⟩ := hrel
    obtain ⟨A0, c0, rfl⟩ := row_form hown
    have HQ := Lib.hid hq
    have HO := Lib.hid hown
    have HB := Lib.hid hb
    have HBw := Lib.hid (belNext (belAlloc (Below.refl _ w) _) hb)
    have hge := skp_ge s a
    clear hq hown hb
    obtain ⟨n, hn⟩ : ∃ n, done.length = n := ⟨_, rfl⟩
    have HN := Lib.hid hn
    have hn6 : n ≤ 600 := by omega
    rw [hn] at HO HQ ⊢
    clear hn hd6
    obtain ⟨p, hp⟩ : ∃ p, skp s a = p := ⟨_, rfl⟩
    by_cases hlt : skp s a < s.size
    · have HC := Lib.hid (HA.out (skp s a) _ hlt HBw.out)
      by_cases hf : rdF s (skp s a) = 0
      · rw [rdOut_ok hf] at HC
        have hfit := tkT_fits (s := s) (a := skp s a) (by omega)
        have h1 := rdF_size hf
        by_cases h600 : n = 600
        · have HR := Lib.hid (HQ.out.trans ((congrArg (app done) (tks_full hlt hf h600)).trans (app_bad _ _ (by omega))))
          rw [hp] at HC HR hlt hfit h1 hge ⊢
          clear hf hp
          generalize tokD s p = x at *
          have e600 : ((n : Int) == 600) = true := by simp; omega
          clear h600
          go_wp2_with fail
          refine HC.out.mono ?_
          rintro e w1 ⟨rfl, hb1⟩
          have HBW := belNext HB.out hb1
          have R := resF HBW
          obtain ⟨q0, q1, g0, g1, rz⟩ := resF HBW
          clear hb1
          go_wp2_with fail
          exact bodyPost_ret (v := .tuple #[.slice none 0 0, .agg #[.int .i64 5, .int .i64 p], .bool true]) (by simp [results, Tryd.results38, go_sem, R.q0, R.q1, R.sz]) rfl ⟨_, by rw [HR.out]; rfl, by rw [HR.out]; exact tokRow_nil _ _ _ _, by repeat (first | (with_reducible exact belNext (belAlloc (Below.refl _ w) _) HBW) | (with_reducible refine belAlloc ?_ _) | (with_reducible refine Below.setCell ?_ (by simp) _) | (with_reducible refine Below.drew ?_))⟩
        · have HR := Lib.hid (HQ.out.trans ((congrArg (app done) (tks_go hlt hf h600)).trans (app_app _ _ _)))
          rw [hp] at HC HR hlt hfit h1 hge ⊢
          have hxt : (tokD s p).t = tkT s p := rfl
          have HXP : Hid ((tokD s p).a = (p : Int)) := Lib.hid rfl
          rw [← hxt] at hfit h1 HR
          clear hf hp hxt
          generalize tokD s p = x at *
          have e600 : ((n : Int) == 600) = false := by simp; omega
          have h599 : n ≤ 599 := by omega
          clear h600
          go_wp2_with fail
          refine HC.out.mono ?_
          rintro e w1 ⟨rfl, hb1⟩
          have HB1 := Lib.hid (belNext HB.out hb1)
          have HO1 := Lib.hid (ownsRow_laterT HO.out hb1)
          have hs1 := HB1.out.size
          simp at hs1
          have hs1' : (w.alloc (.cells #[.int .i64 0, .int .i64 0] 31)).heap.size ≤ w1.heap.size := by simp; omega
          clear hb1
          go_wp2_with (at_builtin; refine wpList_append_own _ rfl (.tmp 37) (.tmp 39) 42 rfl (w.heap.size + 1) 27 i0 (.agg #[.int .i64 0, .int .i64 0, .string ⟨#[]⟩, .int .i64 0]) 4 40 Tryd.underlying42 hi hz0 hz1 hz2 rfl (by decide) _ _ _ rfl (((HO1.out.alloc _).alloc _).alloc _) _ 1 1 [.int .i64 x.k, .int .i64 p, .string x.t, .int .i64 x.v] rfl rfl ?c1 ?c2 ?c3 ?c4 ?c5 ?_)
          case c1 => exact news_tok _ _ _ _ _ _ _ (by simp)
          case c2 => intro u hu; simp at hu; rcases hu with rfl | rfl | rfl | rfl <;> rfl
          case c3 => unfold maxLen; omega
          case c4 => omega
          case c5 => simp; omega
          intro v' w2 hown' hg hne
          have HO2 : Hid (w2.ownsRow (w.heap.size + 1) 27 4 v' (done ++ [x]).length (flatL (done ++ [x]))) := by
            show World.ownsRow _ _ _ _ _ _ _
            have e1 : (done ++ [x]).length = n + 1 := by rw [List.length_append, HN.out]; rfl
            rw [e1, flatL_snoc, HXP.out]
            exact hown'
          have HB2 : Hid (Below (w.alloc (.cells #[.int .i64 0, .int .i64 0] 31)).heap.size (w.alloc (.cells #[.int .i64 0, .int .i64 0] 31)) w2) := (((HB1.out.alloc hs1' _).alloc (by simp; omega) _).alloc (by simp; omega) _).grown hg (by simp; omega) (fun q hq => by have := (HO1.out.lt q hq).1; simp; omega)
          clear hown' hg hne
          go_wp2_with fail
          refine (HSK.out (p + x.t.size) _ _ (by omega) (by omega)).mono ?_
          rintro e w3 ⟨rfl, rfl⟩
          go_wp2_with fail
          have hge2 := skp_ge s (p + x.t.size)
          go_roundw
          case rel => exact ⟨p + x.t.size, done ++ [x], by omega, by rw [List.length_append, HN.out]; show n + 1 ≤ 600; omega, rfl, by rw [List.length_append, HN.out]; exact HR.out, HO2.out, HB2.out⟩
          case measure => simp [intOf]; omega
      · have HR := Lib.hid (HQ.out.trans ((congrArg (app done) (tks_bad n hlt hf)).trans (app_bad _ _ hf)))
        rw [show rdOut s (skp s a) = .tuple #[.agg #[.int .i64 0, .int .i64 0, .string ⟨#[]⟩, .int .i64 0], .int .i64 (skp s a), .agg #[.int .i64 (rdF s (skp s a)), .int .i64 (skp s a)]] by rw [rdOut, if_neg hf]] at HC
        rw [hp] at HC HR hf hlt ⊢
        generalize rdF s p = f at *
        have hf0 : (f != 0) = true := by simpa using hf
        clear hf hp
        go_wp2_with fail
        refine HC.out.mono ?_
        rintro e w1 ⟨rfl, hb1⟩
        have HBW := belNext HB.out hb1
        have R := resF HBW
        obtain ⟨q0, q1, g0, g1, rz⟩ := resF HBW
        clear hb1
        go_wp2_with fail
        go_region_with (fail)
        all_goals
          go_wp2_with fail
          exact bodyPost_ret (v := .tuple #[.slice none 0 0, .agg #[.int .i64 f, .int .i64 p], .bool true]) (by simp [results, Tryd.results38, go_sem, R.q0, R.q1, R.sz]) rfl ⟨_, by rw [HR.out]; rfl, by rw [HR.out]; exact tokRow_nil _ _ _ _, by repeat (first | (with_reducible exact belNext (belAlloc (Below.refl _ w) _) HBW) | (with_reducible refine belAlloc ?_ _) | (with_reducible refine Below.setCell ?_ (by simp) _) | (with_reducible refine Below.drew ?_))⟩
    · have HR := Lib.hid (HQ.out.trans ((congrArg (app done) (tks_end n hlt)).trans (app_zero _)))
      rw [hp] at hlt ⊢
      have hd : decide (p < s.size) = false := decide_eq_false hlt
      have HBW := HB.out
      have HTR : Hid (TokRow wr (w.heap.size + 1) done (.slice A0 n c0)) := tokRow_of (by rw [HN.out]; exact HO.out)
      have R := resF HBW
      obtain ⟨q0, q1, g0, g1, rz⟩ := resF HBW
      go_wp2_with fail
      exact bodyPost_ret (v := .tuple #[.slice A0 n c0, .agg #[.int .i64 0, .int .i64 0], .bool true]) (by simp [results, Tryd.results38, go_sem, R.q0, R.q1]) rfl ⟨_, by rw [HR.out]; rfl, by rw [HR.out]; show TokRow _ _ done (Value.slice A0 n c0); repeat (first | (with_reducible exact HTR.out) | (with_reducible refine TokRow.alloc ?_ _) | (with_reducible refine TokRow.set ?_ (by simp)) | (with_reducible refine TokRow.drew ?_)), by repeat (first | (with_reducible exact belNext (belAlloc (Below.refl _ w) _) HBW) | (with_reducible refine belAlloc ?_ _) | (with_reducible refine Below.setCell ?_ (by simp) _) | (with_reducible refine Below.drew ?_))⟩
set_option maxHeartbeats 1000000 in
theorem specTokensOf_yes (s : ByteArray) (w : World) (hs : s.size ≤ 4000) :
    Calls Tryd.prog 37 #[.string s] w (TokOut w (tks s 0 0) [.bool true]) := by
  have HA : Hid (∀ W, Calls Tryd.prog 60 #[.string s] W (TokOut W (tks s 0 0) [])) := fun W => tkAll_any s W hs
  generalize tks s 0 0 = r at *
  obtain ⟨f, a, l⟩ := r
  go_enter Tryd.func37, Tryd.ntmps37
  go_wp2_with (first | (go_at_call 57; refine (scBytes_yes _ _ (by omega)).mono ?_; rintro e w1 ⟨rfl, rfl⟩) | (go_at_call 57; refine (scBytes_no _ _ (by omega)).mono ?_; rintro e w1 ⟨rfl, rfl⟩))
  refine (HA.out _).mono ?_
  rintro e w1 ⟨v, rfl, htr, hb1⟩
  have HTR := Lib.hid (htr.weak (B' := w.heap.size + 1) (by simp))
  have HBW := hb1
  have R := resF HBW
  obtain ⟨q0, q1, g0, g1, rz⟩ := resF HBW
  obtain ⟨A0, c0, rfl⟩ : ∃ A c, v = .slice A l.length c := by obtain ⟨A, c, e, _⟩ := htr; exact ⟨A, c, e⟩
  clear hb1 htr
  go_wp2_with fail
  go_region_with (fail)
  all_goals
    go_wp2_with fail
    exact bodyPost_ret (v := .tuple #[.slice A0 l.length c0, .agg #[.int .i64 f, .int .i64 a], .bool true]) (by simp [results, Tryd.results37, go_sem, R.q0, R.q1, R.sz]) rfl ⟨_, rfl, by show TokRow _ _ l (Value.slice A0 l.length c0); repeat (first | (with_reducible exact HTR.out) | (with_reducible refine TokRow.alloc ?_ _) | (with_reducible refine TokRow.set ?_ (by simp)) | (with_reducible refine TokRow.drew ?_)), by repeat (first | (with_reducible exact belNext (belAlloc (Below.refl _ w) _) HBW) | (with_reducible refine belAlloc ?_ _) | (with_reducible refine Below.setCell ?_ (by simp) _) | (with_reducible refine Below.drew ?_))⟩
theorem specTokensOf_no (s : ByteArray) (w : World) (hs : s.size ≤ 1048576) (h : 4000 < s.size) :
    Calls Tryd.prog 37 #[.string s] w (TokOut w ⟨0, 0, []⟩ [.bool false]) := by
  have hd : decide ((s.size : Int) ≤ 4000) = false := decide_eq_false (by omega)
  go_enter Tryd.func37, Tryd.ntmps37
  go_wp2_with (first | (go_at_call 57; refine (scBytes_yes _ _ (by omega)).mono ?_; rintro e w1 ⟨rfl, rfl⟩) | (go_at_call 57; refine (scBytes_no _ _ (by omega)).mono ?_; rintro e w1 ⟨rfl, rfl⟩))
  exact bodyPost_ret (v := .tuple #[.slice none 0 0, .agg #[.int .i64 0, .int .i64 0], .bool false]) (by simp [results, Tryd.results37, go_sem]) rfl ⟨_, rfl, tokRow_nil _ _ _ _, by repeat (first | (with_reducible exact Below.refl _ _) | (with_reducible refine belAlloc ?_ _) | (with_reducible refine Below.setCell ?_ (by simp) _) | (with_reducible refine Below.drew ?_))⟩
theorem implTokensOf_no (s : ByteArray) (w : World) (hs : s.size ≤ 1048576) (h : 4000 < s.size) :
    Calls Tryd.prog 38 #[.string s] w (TokOut w ⟨0, 0, []⟩ [.bool false]) := by
  have hd : 4000 < (s.size : Int) := by omega
  go_enter Tryd.func38, Tryd.ntmps38
  go_wp2_with fail
  exact bodyPost_ret (v := .tuple #[.slice none 0 0, .agg #[.int .i64 0, .int .i64 0], .bool false]) (by simp [results, Tryd.results38, go_sem]) rfl ⟨_, rfl, tokRow_nil _ _ _ _, by repeat (first | (with_reducible exact Below.refl _ _) | (with_reducible refine belAlloc ?_ _) | (with_reducible refine Below.setCell ?_ (by simp) _) | (with_reducible refine Below.drew ?_))⟩
end Go.Proofs.YtopolfibledmnaaDoor
