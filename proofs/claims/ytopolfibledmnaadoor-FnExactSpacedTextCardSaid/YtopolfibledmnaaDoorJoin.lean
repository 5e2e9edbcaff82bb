/-
  JoinTokens, the program's and the reference's: both return the texts with blanks between.
-/
import Derived.Test.YtopolfibledmnaaDoorTokGoodL
import Derived.Test.YtopolfibledmnaaDoorSliceOut
import Derived.Test.YtopolfibledmnaaDoorShelf
import Derived.Test.YtopolfibledmnaaDoorScBytes
import Derived.Test.YtopolfibledmnaaDoorTokList
import Derived.Test.YtopolfibledmnaaDoorDec
namespace Go.Proofs.YtopolfibledmnaaDoor
open Go.RowKit
/-- The first n texts, blanks between. -/
def jnB (f : Nat → Tk) : Nat → ByteArray
  | 0 => ⟨#[]⟩
  | k + 1 => (if k = 0 then ⟨#[]⟩ else jnB f k ++ ⟨#[32]⟩) ++ (f k).t
theorem jnB_len (f : Nat → Tk) : ∀ n, (∀ i, i < n → (f i).t.size ≤ 40) → (jnB f n).size ≤ 41 * n
  | 0, _ => Nat.zero_le _
  | k + 1, h => by
    have ih := jnB_len f k fun i hi => h i (by omega)
    have h1 := h k (by omega)
    have e1 : (⟨#[32]⟩ : ByteArray).size = 1 := rfl
    have e0 : (⟨#[]⟩ : ByteArray).size = 0 := rfl
    unfold jnB
    split
    · rw [ByteArray.size_append]; omega
    · rw [ByteArray.size_append, ByteArray.size_append]; omega
theorem joinTail_snoc (sep : List UInt8) (r : List (List UInt8)) (y : List UInt8) : Lib.joinTail sep (r ++ [y]) = Lib.joinTail sep r ++ sep ++ y := by simp [Lib.joinTail, List.append_assoc]
theorem join_snoc (sep : List UInt8) (r : List (List UInt8)) (y : List UInt8) (h : r ≠ []) : Lib.join (r ++ [y]) sep = Lib.join r sep ++ sep ++ y := by
  cases r with
  | nil => exact absurd rfl h
  | cons x r => rw [List.cons_append, Lib.join_cons, Lib.join_cons, joinTail_snoc]; simp [List.append_assoc]
def txts (f : Nat → Tk) (n : Nat) : List ByteArray := (List.range n).map fun i => (f i).t
theorem txts_len (f : Nat → Tk) (n : Nat) : (txts f n).length = n := by simp [txts]
theorem txts_succ (f : Nat → Tk) (n : Nat) : txts f (n + 1) = txts f n ++ [(f n).t] := by simp [txts, List.range_succ]
theorem jnB_join (f : Nat → Tk) : ∀ n, (jnB f n).data.toList = Lib.join ((txts f n).map (·.data.toList)) [32]
  | 0 => rfl
  | k + 1 => by
    have ih := jnB_join f k
    rw [txts_succ, List.map_append]
    unfold jnB
    by_cases h : k = 0
    · subst h
      rw [if_pos rfl]
      simp [txts, Lib.join, ByteArray.data_append]
    · rw [if_neg h, List.map_cons, List.map_nil, join_snoc _ _ _ (by intro e; have := congrArg List.length e; simp [txts_len] at this; omega), ← ih]
      simp [ByteArray.data_append]
theorem jnB_arr (f : Nat → Tk) (n : Nat) : (⟨(Lib.join ((txts f n).map (·.data.toList)) [32]).toArray⟩ : ByteArray) = jnB f n := by
  rw [← jnB_join]
theorem info_strJ : (Tryd.prog.info? 9).map (fun i => (i.zero, i.size, i.bytes)) = some (some (.string ⟨#[]⟩), 1, 16) := by kernel_rfl
theorem news_1 (W : World) (b : Nat) (x : Value) (t : TypeId) (hb : b = W.heap.size) : ∀ (j : Nat) (u : Value), [x][j]? = some u → (W.alloc (.cells #[x] t)).cell? ((⟨b, 0, none⟩ : Addr).add j) = some u := by
  subst hb
  exact news_one W x t
theorem row_some {w : World} {base size n : Nat} {e : TypeId} {v : Value} {xs : List Value} (h : w.ownsRow base e size v n xs) (h0 : 0 < n) : ∃ g c, v = .slice (some ⟨g, 0, none⟩) n c ∧ base ≤ g ∧ n ≤ c := by
  rcases h.2 with ⟨_, e0⟩ | ⟨g, cap, cur, rfl, hbg, _, hcap, _⟩
  · omega
  · exact ⟨g, cap, rfl, hbg, hcap⟩
/-- What JoinTokens returns of good tokens. -/
def joS (f : Nat → Tk) (n : Nat) : ByteArray := if (jnB f n).size ≤ 4000 then jnB f n else ⟨#[]⟩
def joB (f : Nat → Tk) (n : Nat) : Bool := decide ((jnB f n).size ≤ 4000)
theorem good_parts {f : Nat → Tk} {n : Nat} (h : goodB f n = true) : n ≤ 600 ∧ ∀ i, i < n → (f i).t.size ≤ 40 := by
  rw [goodB, Bool.and_eq_true] at h
  exact ⟨of_decide_eq_true h.2, fun i hi => gd_short (allV_at (p := gdAt f) h.1 i hi)⟩
set_option maxHeartbeats 2000000 in
theorem implJoin_yes (g c n : Nat) (f : Nat → Tk) (w : World) (hn : n ≤ 1048576) (hts : ∀ i, i < n → (f i).t.size ≤ 1048576) (h : OwnT w g n f) (hK : TabS w 0 keyNs) (hG : TabS w 1 signNs) (hgd : goodB f n = true) :
    Calls Tryd.prog 34 #[.slice (some ⟨g, 0, none⟩) n c] w fun e w' => e = .returned (.tuple #[.string (joS f n), .bool (joB f n)]) ∧ Below w.heap.size w w' := by
  obtain ⟨i0, hi, hz0, hz1, hz2⟩ := info_parts info_strJ
  obtain ⟨h6, h40⟩ := good_parts hgd
  have H := Lib.hid h
  have HC := Lib.hid (implareTokens_own g c n f w hn hts h hK hG)
  rw [hgd] at HC
  have hgl := h.1
  have hmk : ∀ W, (Instr.makeSlice 60 (.int .i64 0) (.int .i64 n)).run Tryd.prog W = .ok (.slice (some ⟨W.heap.size, 0, none⟩) 0 n) (W.alloc (.cells (madeCells #[.string ⟨#[]⟩] n) 9)) := fun W => by
    have := run_make_cap (P := Tryd.prog) 60 9 (.string ⟨#[]⟩) 16 Tryd.underlying60 info_strJ rfl (n : Int) (by omega) (by omega) (by omega) W
    simpa using this
  have HJL := Lib.hid (jnB_len f n h40)
  have hjl : (jnB f n).size ≤ 41 * n := jnB_len f n h40
  clear h hts hK hG hgd
  have H40 := Lib.hid h40
  clear h40
  go_enter Tryd.func34, Tryd.ntmps34
  go_wp2_with fail
  refine HC.out.mono ?_
  rintro e w1 ⟨rfl, hb1⟩
  have HB1 := Lib.hid hb1
  clear hb1
  go_wp2_with fail
  clear hmk
  go_loopw [4, 16] (fun sv i wr => ∃ k : Nat, k ≤ n ∧ i = .int .i64 k ∧ (∃ gg cc, sv = .slice (some ⟨gg, 0, none⟩) k cc ∧ k ≤ cc ∧ gg < wr.heap.size) ∧ Grows wr w1.heap.size 9 sv k (fun i => .string (f i).t) ∧ Below w1.heap.size w1 wr) (fun _ i _ => n - (intOf i).toNat)
  case atStart => exact ⟨0, Nat.zero_le _, rfl, ⟨_, _, rfl, Nat.zero_le _, by simp⟩, Grows.made w1 _ _ _ _ _ (Nat.le_refl _) (by unfold maxLen; omega), belAlloc (Below.refl _ _) _⟩
  case round =>
    obtain ⟨k, hk, rfl, ⟨gg, cc, rfl, hkc, hgg⟩, hgr, hb⟩ := hrel
    have HO := Lib.hid hgr
    have HB := Lib.hid hb
    have hsz := hb.size
    by_cases hlt : k < n
    · obtain ⟨x0, x1, x2, x3⟩ := (H.out.later (belNext HB1.out hb)).at_ hlt
      have hgw : g < wr.heap.size := Nat.lt_of_lt_of_le hgl (belNext HB1.out hb).size
      clear hgr hb
      obtain ⟨x, hx⟩ : ∃ x, f k = x := ⟨_, rfl⟩
      rw [hx] at x0 x1 x2 x3
      have HX := Lib.hid hx
      clear hx
      go_wp2_with (at_builtin; refine wpList_append_own _ rfl (.tmp 20) (.tmp 23) 60 rfl w1.heap.size 9 i0 (.string ⟨#[]⟩) 1 16 Tryd.underlying60 hi hz0 hz1 hz2 rfl (by decide) _ _ _ rfl ((World.ownsRow.alloc (World.ownsRow.alloc HO.out _) _)) _ 1 1 [.string x.t] rfl rfl ?c1 ?c2 ?c3 ?c4 ?c5 ?_)
      case c1 => exact news_1 _ _ _ _ (by simp)
      case c2 => intro u hu; simp at hu; subst hu; rfl
      case c3 => unfold maxLen; omega
      case c4 => omega
      case c5 => simp; omega
      intro v' w2 hown' hg hne
      obtain ⟨gg2, cc2, rfl, hgg2, hcc2⟩ := row_some hown' (by omega)
      have hl2 := (hown'.lt gg2 rfl).2
      have HO2 : Hid (Grows w2 w1.heap.size 9 (.slice (some ⟨gg2, 0, none⟩) (k + 1) cc2) (k + 1) (fun i => .string (f i).t)) := Lib.hid (Grows.snoc (by
        show World.ownsRow _ _ _ _ _ _ (_ ++ [Value.string (f k).t])
        rw [HX.out]
        exact hown'))
      have HB2 : Hid (Below w1.heap.size w1 w2) := Lib.hid (((HB.out.alloc hsz _).alloc (by simp; omega) _).grown hg (by simp; omega) (fun q hq => HO.out.ownBlock q hq))
      clear hown' hg hne
      go_wp2_with fail
      go_roundw
      case rel => exact ⟨k + 1, by omega, by go_num, ⟨_, _, rfl, hcc2, hl2⟩, HO2.out, HB2.out⟩
      case measure => simp [intOf]; omega
    · have hkn : k = n := by omega
      have HJ := Lib.hid (Tryd.strings_Join gg 0 cc (txts f k) ⟨#[32]⟩ wr (fun j x hj => by
        obtain ⟨hj1, e⟩ := List.getElem?_eq_some_iff.1 hj
        rw [txts_len] at hj1
        obtain ⟨A, c', e1, hA⟩ := hgr.form
        obtain ⟨g', e2, _, ho⟩ := hA (by omega)
        injection e1 with e1 e3 e4
        rw [e2] at e1
        injection e1 with e1
        injection e1 with e1
        subst e1
        rw [Nat.zero_add, ho.cell hj1]
        simp only [txts, List.getElem_map, List.getElem_range] at e
        rw [e]) hgg (by rw [txts_len]; omega) (by rw [txts_len]; exact hkc) (by
          rw [show (⟨#[32]⟩ : ByteArray).data.toList = [32] from rfl, ← jnB_join]
          have : (jnB f k).data.toList.length = (jnB f k).size := by simp
          rw [this, hkn]; omega))
      rw [txts_len, show (⟨#[32]⟩ : ByteArray).data.toList = [32] from rfl, jnB_arr] at HJ
      have HKN := Lib.hid hkn
      rw [← hkn] at hjl
      have HJS : Hid (joS f n = joS f k ∧ joB f n = joB f k) := Lib.hid (by rw [hkn]; exact ⟨rfl, rfl⟩)
      clear hkn hgr hb
      have hjs : joS f k = if (jnB f k).size ≤ 4000 then jnB f k else ⟨#[]⟩ := rfl
      have hjb : joB f k = decide ((jnB f k).size ≤ 4000) := rfl
      have HJ1 := Lib.hid hjs
      have HJ2 := Lib.hid hjb
      clear hjs hjb
      generalize jnB f k = jj at *
      by_cases h4 : jj.size ≤ 4000
      · have hd : decide (4000 < (jj.size : Int)) = false := decide_eq_false (by omega)
        have HR : Hid (joS f n = jj ∧ joB f n = true) := Lib.hid ⟨by rw [HJS.out.1, HJ1.out, if_pos h4], by rw [HJS.out.2, HJ2.out, decide_eq_true h4]⟩
        go_wp2_with fail
        refine HJ.out.mono ?_
        rintro e w5 ⟨rfl, hb5⟩
        have HB5 := Lib.hid (belNext HB1.out (belNext HB.out hb5))
        clear hb5
        go_wp2_with fail
        go_ret2
        exact ⟨by rw [HR.out.1, HR.out.2]; rfl, HB5.out⟩
      · have hd : 4000 < (jj.size : Int) := by omega
        have HR : Hid (joS f n = ⟨#[]⟩ ∧ joB f n = false) := Lib.hid ⟨by rw [HJS.out.1, HJ1.out, if_neg h4], by rw [HJS.out.2, HJ2.out, decide_eq_false h4]⟩
        go_wp2_with fail
        refine HJ.out.mono ?_
        rintro e w5 ⟨rfl, hb5⟩
        have HB5 := Lib.hid (belNext HB1.out (belNext HB.out hb5))
        clear hb5
        go_wp2_with fail
        go_ret2
        exact ⟨by rw [HR.out.1, HR.out.2]; rfl, HB5.out⟩
set_option maxHeartbeats 1000000 in
theorem tkJoin_own (g c n : Nat) (f : Nat → Tk) (w : World) (hn : n ≤ 600) (h40 : ∀ i, i < n → (f i).t.size ≤ 40) (h : OwnT w g n f) :
    Calls Tryd.prog 58 #[.slice (some ⟨g, 0, none⟩) n c] w fun e w' => e = .returned (.string (jnB f n)) ∧ Below w.heap.size w w' := by
  have H := Lib.hid h
  have H40 := Lib.hid h40
  have hgl := h.1
  clear h h40
  go_enter Tryd.func58, Tryd.ntmps58
  go_wp2_with fail
  go_loopw [3, 8] (fun sv i wr => ∃ k : Nat, k ≤ n ∧ i = .int .i64 k ∧ sv = .string (jnB f k) ∧ Below w.heap.size w wr) (fun _ i _ => n - (intOf i).toNat)
  case atStart => exact ⟨0, Nat.zero_le _, rfl, rfl, Below.refl _ _⟩
  case round =>
    obtain ⟨k, hk, rfl, rfl, hb⟩ := hrel
    have HB := Lib.hid hb
    by_cases hlt : k < n
    · obtain ⟨x0, x1, x2, x3⟩ := (H.out.later hb).at_ hlt
      have hgw : g < wr.heap.size := Nat.lt_of_lt_of_le hgl hb.size
      have hjl := jnB_len f k fun i hi => H40.out i (by omega)
      have hxl := H40.out k hlt
      have HN : Hid (jnB f (k + 1) = (if k = 0 then ⟨#[]⟩ else jnB f k ++ ⟨#[32]⟩) ++ (f k).t) := Lib.hid rfl
      have e1 : (⟨#[32]⟩ : ByteArray).size = 1 := rfl
      have e0 : (⟨#[]⟩ : ByteArray).size = 0 := rfl
      clear hb
      rcases Nat.eq_zero_or_pos k with h0 | h0
      · rw [if_pos h0] at HN
        have hjk : jnB f k = ⟨#[]⟩ := by rw [h0]; rfl
        rw [hjk]
        have hd : decide (0 < (k : Int)) = false := decide_eq_false (by omega)
        have hd2 : decide (0 < k) = false := decide_eq_false (by omega)
        clear h0 hjk hjl
        generalize f k = x at x0 x1 x2 x3 hxl HN
        have hcat := fun W => cat_ok ⟨#[]⟩ x.t W (by omega)
        clear e1 e0
        go_wp2_with fail
        go_roundw
        case rel => exact ⟨k + 1, by omega, by go_num, by rw [HN.out], belAlloc HB.out _⟩
        case measure => simp [intOf]; omega
      · rw [if_neg (by omega)] at HN
        have hd : 0 < (k : Int) := by omega
        generalize f k = x at x0 x1 x2 x3 hxl HN
        generalize jnB f k = jj at *
        have hcat := fun W => cat_ok jj ⟨#[32]⟩ W (by omega)
        have hcat2 := fun W => cat_ok (jj ++ ⟨#[32]⟩) x.t W (by rw [ByteArray.size_append]; omega)
        clear e1 e0
        go_wp2_with fail
        go_roundw
        case rel => exact ⟨k + 1, by omega, by go_num, by rw [HN.out], belAlloc HB.out _⟩
        case measure => simp [intOf]; omega
    · have hkn : k = n := by omega
      have HK := Lib.hid hkn
      clear hkn hb
      go_wp2_with fail
      go_ret
      exact ⟨by rw [HK.out]; rfl, HB.out⟩
set_option maxHeartbeats 1000000 in
theorem specJoin_yes (g c n : Nat) (f : Nat → Tk) (w : World) (hn : n ≤ 1048576) (hts : ∀ i, i < n → (f i).t.size ≤ 1048576) (h : OwnT w g n f) (hK : TabS w 0 keyNs) (hG : TabS w 1 signNs) (hgd : goodB f n = true) :
    Calls Tryd.prog 33 #[.slice (some ⟨g, 0, none⟩) n c] w fun e w' => e = .returned (.tuple #[.string (joS f n), .bool (joB f n)]) ∧ Below w.heap.size w w' := by
  obtain ⟨h6, h40⟩ := good_parts hgd
  have HC := Lib.hid (spectkList_own g c n f w hn hts h hK hG)
  rw [hgd] at HC
  have HT : Hid (∀ W, Below w.heap.size w W → _) := fun W hW => tkJoin_own g c n f W h6 h40 (h.later hW)
  have hjl := jnB_len f n h40
  clear h hts hK hG hgd h40
  have hjs : joS f n = if (jnB f n).size ≤ 4000 then jnB f n else ⟨#[]⟩ := rfl
  have hjb : joB f n = decide ((jnB f n).size ≤ 4000) := rfl
  have HJ1 := Lib.hid hjs
  have HJ2 := Lib.hid hjb
  clear hjs hjb
  generalize jnB f n = jj at *
  by_cases h4 : jj.size ≤ 4000
  · have hd : decide ((jj.size : Int) ≤ 4000) = true := decide_eq_true (by omega)
    have HR : Hid (joS f n = jj ∧ joB f n = true) := Lib.hid ⟨by rw [HJ1.out, if_pos h4], by rw [HJ2.out, decide_eq_true h4]⟩
    go_enter Tryd.func33, Tryd.ntmps33
    go_wp2_with fail
    refine HC.out.mono ?_
    rintro e w1 ⟨rfl, hb1⟩
    have HB1 := Lib.hid hb1
    clear hb1
    go_wp2_with fail
    refine (HT.out _ HB1.out).mono ?_
    rintro e w2 ⟨rfl, hb2⟩
    have HB2 := Lib.hid (belNext HB1.out hb2)
    clear hb2
    go_wp2_with (first | (go_at_call 57; refine (scBytes_yes _ _ (by omega)).mono ?_; rintro e w1 ⟨rfl, rfl⟩) | (go_at_call 57; refine (scBytes_no _ _ (by omega)).mono ?_; rintro e w1 ⟨rfl, rfl⟩))
    refine (HT.out _ HB2.out).mono ?_
    rintro e w3 ⟨rfl, hb3⟩
    have HB3 := Lib.hid (belNext HB2.out hb3)
    clear hb3
    go_wp2_with fail
    go_ret2
    exact ⟨by rw [HR.out.1, HR.out.2]; rfl, HB3.out⟩
  · have hd : decide ((jj.size : Int) ≤ 4000) = false := decide_eq_false (by omega)
    have HR : Hid (joS f n = ⟨#[]⟩ ∧ joB f n = false) := Lib.hid ⟨by rw [HJ1.out, if_neg h4], by rw [HJ2.out, decide_eq_false h4]⟩
    go_enter Tryd.func33, Tryd.ntmps33
    go_wp2_with fail
    refine HC.out.mono ?_
    rintro e w1 ⟨rfl, hb1⟩
    have HB1 := Lib.hid hb1
    clear hb1
    go_wp2_with fail
    refine (HT.out _ HB1.out).mono ?_
    rintro e w2 ⟨rfl, hb2⟩
    have HB2 := Lib.hid (belNext HB1.out hb2)
    clear hb2
    go_wp2_with (first | (go_at_call 57; refine (scBytes_yes _ _ (by omega)).mono ?_; rintro e w1 ⟨rfl, rfl⟩) | (go_at_call 57; refine (scBytes_no _ _ (by omega)).mono ?_; rintro e w1 ⟨rfl, rfl⟩))
    go_ret2
    exact ⟨by rw [HR.out.1, HR.out.2]; rfl, HB2.out⟩
theorem implJoinTokens_no (g c n : Nat) (f : Nat → Tk) (w : World) (hn : n ≤ 1048576) (hts : ∀ i, i < n → (f i).t.size ≤ 1048576) (h : OwnT w g n f) (hK : TabS w 0 keyNs) (hG : TabS w 1 signNs) (hgd : goodB f n = false) :
    Calls Tryd.prog 34 #[.slice (some ⟨g, 0, none⟩) n c] w fun e w' => e = .returned (.tuple #[.string ⟨#[]⟩, .bool false]) ∧ Below w.heap.size w w' := by
  have HC := Lib.hid (implareTokens_own g c n f w hn hts h hK hG)
  rw [hgd] at HC
  clear h hts hK hG hgd
  go_enter Tryd.func34, Tryd.ntmps34
  go_wp2_with fail
  refine HC.out.mono ?_
  rintro e w1 ⟨rfl, hb1⟩
  have HB1 := Lib.hid hb1
  clear hb1
  go_wp2_with fail
  go_ret2
  exact ⟨rfl, HB1.out⟩
theorem specJoinTokens_no (g c n : Nat) (f : Nat → Tk) (w : World) (hn : n ≤ 1048576) (hts : ∀ i, i < n → (f i).t.size ≤ 1048576) (h : OwnT w g n f) (hK : TabS w 0 keyNs) (hG : TabS w 1 signNs) (hgd : goodB f n = false) :
    Calls Tryd.prog 33 #[.slice (some ⟨g, 0, none⟩) n c] w fun e w' => e = .returned (.tuple #[.string ⟨#[]⟩, .bool false]) ∧ Below w.heap.size w w' := by
  have HC := Lib.hid (spectkList_own g c n f w hn hts h hK hG)
  rw [hgd] at HC
  clear h hts hK hG hgd
  go_enter Tryd.func33, Tryd.ntmps33
  go_wp2_with fail
  refine HC.out.mono ?_
  rintro e w1 ⟨rfl, hb1⟩
  have HB1 := Lib.hid hb1
  clear hb1
  go_wp2_with fail
  go_ret2
  exact ⟨rfl, HB1.out⟩
end Go.Proofs.YtopolfibledmnaaDoor
