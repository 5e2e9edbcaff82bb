/-
  Decimal numerals: strconv.Itoa by the shelf's contract, the reference's l1Num: both return the decimal digits.
-/
import Derived.Test.YtdnncmhfmpiocaaDoorRows
import Derived.Test.YtdnncmhfmpiocaaDoorShelf
import Derived.Test.YtdnncmhfmpiocaaDoorBel
import Derived.Lib.Hide
import Derived.Lib.LaidU8
import Derived.Lib.LaidTab
import Derived.Lib.ItoaNum
import Derived.Laws.IdiomStrings
import Derived.Deep.RegionWith
import Derived.WalkLawsBesides
import Derived.IntWalk
namespace Go.Proofs.YtdnncmhfmpiocaaDoor
open Go.RowKit
/-- The decimal digits of n, as a text. -/
def decB (n : Nat) : ByteArray := ⟨(Lib.decDigits n).toArray⟩
def Pow10 (w : World) : Prop := Lib.TabIs Tryd.prog w "internal/strconv.uint64pow10" .u64 Lib.pow10Tab
theorem tabIs_later {P : Program} {w w' : World} {name : String} {k : IntKind} {zs : List Int} (h : Lib.TabIs P w name k zs) (hb : Below w.heap.size w w') : Lib.TabIs P w' name k zs := by
  unfold Lib.TabIs World.var? at *
  cases hg : P.globalNamed name with
  | none => simp [hg] at h
  | some g =>
    simp only [hg, Option.bind_some] at h ⊢
    have hlt : g < w.heap.size := by
      rcases Nat.lt_or_ge g w.heap.size with h' | h'
      · exact h'
      · rw [Array.getElem?_eq_none h'] at h; simp at h
    rw [hb.block g hlt]
    exact h
theorem Pow10.later {w w' : World} (h : Pow10 w) (hb : Below w.heap.size w w') : Pow10 w' := tabIs_later h hb
open Go.Lib in
theorem pow10_of {l : List (String × DataW Unit)} {w : World} (h : laidMet Tryd.prog l w) (hm : ("internal/strconv.uint64pow10", Rows.laid_internal_strconv_uint64pow10) ∈ l) : Pow10 w := by
  obtain ⟨g, t, cs, fuel, p, hg, ht, hvar, hd⟩ := laidMet.reads h hm
  have e0 : (Rows.laid_internal_strconv_uint64pow10 : DataW Unit) = tabData .u64 pow10Tab := by rfl
  have e1 : (Tryd.prog.globalNamed "internal/strconv.uint64pow10").bind (fun g => (Tryd.prog.globals[g]?).map (·.type)) = some 94 := by kernel_rfl
  rw [hg, Option.bind_some, ht] at e1
  obtain rfl := Option.some.inj e1
  rw [e0] at hd
  have := cells_of_tab Tryd.underlying94 Tryd.underlying78 (by kernel_rfl) (by kernel_rfl) hd
  unfold Pow10 TabIs
  rw [hvar, ← this]
theorem below_drewN {B : Nat} {w0 w : World} (h : Below B w0 w) (k : Nat) : Below B w0 (w.drewN k) := ⟨h.os, h.tape, h.output, h.size, h.block⟩
theorem below_grow {B : Nat} {w0 w : World} {os : Array Obj} (h : Below B w0 w) (hB : B ≤ w.heap.size) : Below B w0 (Go.Sort.grow w os) :=
  ⟨h.os, h.tape, h.output, by have := h.size; simp [Go.Sort.grow]; omega, fun k hk => by rw [← h.block k hk]; exact Go.Sort.heap_grow_old w os (by omega)⟩
theorem itoa_any (n : Nat) (w : World) (hn : n ≤ 1000000000) (hT : Pow10 w) : Calls Tryd.prog 28 #[.int .i64 n] w fun e w' => e = .returned (.string (decB n)) ∧ Below w.heap.size w w' := by
  refine (Tryd.strconv_Itoa n (by omega) (by omega) w hT).mono ?_
  rintro e w' ⟨rfl, k, os, rfl⟩
  refine ⟨?_, below_grow (below_drewN (Below.refl _ _) k) (Nat.le_refl _)⟩
  rw [Lib.itoa, if_neg (by omega)]
  rfl
theorem bcell {W w1 : World} (hb : Below W.heap.size W w1) : (∀ b o, b < W.heap.size → w1.cell? ⟨b, o, none⟩ = W.cell? ⟨b, o, none⟩) ∧ (∀ b o, b < W.heap.size → w1.frozen? ⟨b, o, none⟩ = W.frozen? ⟨b, o, none⟩) :=
  ⟨fun b o h => hb.cell (p := ⟨b, o, none⟩) h, fun b o h => hb.frozen (p := ⟨b, o, none⟩) h⟩
/-- One digit, as a text. -/
def dgtB (n : Nat) : ByteArray := ⟨#[UInt8.ofNat (48 + n)]⟩
theorem conv_digit (n : Nat) (hn : n < 10) (W : World) (b : Nat) (h : W.cell? ⟨b, 0, none⟩ = some (.int .u8 (48 + (n : Int)))) : (convert 62 9 (.slice (some ⟨b, 0, none⟩) 1 1)).run Tryd.prog W = .ok (.string (dgtB n)) W := by
  refine run_convert_bytes_back (P := Tryd.prog) W 62 9 5 ⟨b, 0, none⟩ 1 [UInt8.ofNat (48 + n)] Tryd.underlying62 Tryd.underlying5 Tryd.underlying9 (fun j hj => ?_)
  have hj0 : j = 0 := by simpa using hj
  subst hj0
  have e : ((UInt8.ofNat (48 + n)).toNat : Int) = 48 + (n : Int) := by
    have : (UInt8.ofNat (48 + n)).toNat = 48 + n := by simp; omega
    omega
  show W.cell? _ = some (.int .u8 ((UInt8.ofNat (48 + n)).toNat : Int))
  rw [e]
  simpa [Addr.add] using h
theorem decB_small {n : Nat} (h : n < 10) : decB n = dgtB n := by rw [decB, Lib.decDigits, dif_pos h]; rfl
theorem decB_big {n : Nat} (h : ¬ n < 10) : decB n = decB (n / 10) ++ dgtB (n % 10) := by
  rw [decB, Lib.decDigits, dif_neg h]
  apply ByteArray.ext
  simp [decB, dgtB, ByteArray.data_append]
theorem decDigits_len : ∀ (k n : Nat), n < 10 ^ (k + 1) → (Lib.decDigits n).length ≤ k + 1
  | 0, n, h => by rw [Lib.decDigits, dif_pos (by simpa using h)]; simp
  | k + 1, n, h => by
    rw [Lib.decDigits]
    split
    · simp
    · have := decDigits_len k (n / 10) (by rw [Nat.pow_succ] at h; omega)
      simp
      omega
theorem decB_len (n : Nat) (h : n ≤ 1000000000) : (decB n).size ≤ 10 := by
  have := decDigits_len 9 n (by omega)
  show (Lib.decDigits n).toArray.size ≤ 10
  simpa using this
theorem decB_pos (n : Nat) : 1 ≤ (decB n).size := by
  show 1 ≤ (Lib.decDigits n).toArray.size
  rw [Lib.decDigits]
  split <;> simp
theorem cat_ok (a b : ByteArray) (W : World) (h : a.size + b.size ≤ 9223372036854775807) : (Op.stringOp .add a b).run Tryd.prog W = .ok (.string (a ++ b)) W := run_string_add_sum W a b h
set_option maxHeartbeats 2000000 in
theorem l1Num_any (n : Nat) : ∀ (w : World), n ≤ 1000000000 → Calls Tryd.prog 36 #[.int .i64 n] w fun e w' => e = .returned (.string (decB n)) ∧ Below w.heap.size w w' := by
  induction n using Nat.strongRecOn with
  | ind n ih =>
    intro w hn
    by_cases h10 : n < 10
    · have HD := Lib.hid (decB_small h10)
      have hcv := conv_digit n h10
      clear ih
      go_enter Tryd.func36, Tryd.ntmps36
      go_wp2_with fail
      go_ret
      exact ⟨by rw [HD.out]; rfl, by repeat (first | exact Below.refl _ _ | assumption | refine Below.alloc ?_ (by simp; try omega) _ | refine Below.setCell ?_ (by simp; try omega) _ | refine Below.drew ?_)⟩
    · obtain ⟨q, hq⟩ : ∃ q, n / 10 = q := ⟨_, rfl⟩
      obtain ⟨r, hr⟩ : ∃ r, n % 10 = r := ⟨_, rfl⟩
      have HD := Lib.hid (decB_big h10)
      rw [hq, hr] at HD
      have HI := Lib.hid (fun W => ih (n / 10) (by omega) W (by omega))
      rw [hq] at HI
      have hcv := conv_digit r (by omega)
      have e1 : IntKind.i64.wrap ((n : Int) / 10) = (q : Int) := by rw [IntWalk.i64_in _ (by omega)]; omega
      have e2 : (n : Int).tmod 10 = (r : Int) := by rw [Int.tmod_eq_emod_of_nonneg (by omega)]; omega
      have e3 : IntKind.i64.wrap (48 + (r : Int)) = 48 + (r : Int) := IntWalk.i64_in _ (by omega)
      have e4 : IntKind.u8.wrap (48 + (r : Int)) = 48 + (r : Int) := IntWalk.u8_in _ (by omega)
      have hcat := fun W => cat_ok (decB q) (dgtB r) W (by have := decB_len q (by omega); have : (dgtB r).size = 1 := rfl; omega)
      have hlt : decide ((n : Int) < 10) = false := decide_eq_false (by omega)
      clear ih hq hr h10
      go_enter Tryd.func36, Tryd.ntmps36
      go_wp2_with fail
      go_region_with ((go_at_call 36; refine (HI.out _).mono ?_; rintro e w1 ⟨rfl, hb⟩; obtain ⟨hc, hf⟩ := bcell hb; have HB := Lib.hid hb; clear hb))
      all_goals
        go_wp2_with fail
        go_ret
        exact ⟨by rw [HD.out]; rfl, by repeat (first | exact Below.refl _ _ | refine belNext ?_ HB.out | refine belAlloc ?_ _ | refine Below.drew ?_)⟩
end Go.Proofs.YtdnncmhfmpiocaaDoor
