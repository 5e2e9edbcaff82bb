/-
  Decimal numerals: strconv.Itoa by the shelf's contract, the reference's l1Num: both return the decimal digits.
-/
import Derived.Test.YtnfkepngjbjeoaaDoorRows
import Derived.Test.YtnfkepngjbjeoaaDoorShelf
import Derived.Test.YtnfkepngjbjeoaaDoorDec
import Derived.Lib.Hide
import Derived.Lib.LaidU8
import Derived.Lib.LaidTab
import Derived.Lib.ItoaNum
import Derived.Laws.IdiomStrings
import Derived.Deep.RegionWith
import Derived.WalkLawsBesides
import Derived.IntWalk
namespace Go.Proofs.YtnfkepngjbjeoaaDoor
open Go.RowKit
def Pow10 (w : World) : Prop := Lib.TabIs Tryd.prog w "internal/strconv.uint64pow10" .u64 Lib.pow10Tab
theorem tabIs_later {P : Program} {w w' : World} {name : String} {k : IntKind} {zs : List Int} (h : Lib.TabIs P w name k zs) (hb : Below w.heap.size w w') : Lib.TabIs P w' name k zs := by
  unfold Lib.TabIs World.var? at *
  cases hg : P.globalNamed name with
  | none => simp [hg] at h
  | some g =>
    simp only [hg, Option.bind_some] at h ⊢
    have hlt : g < w.heap.size := by
      rcases Nat.lt_or_ge g w.heap.size with h' | h'
      · exact h'
      · rw [Array.getElem?_eq_none h'] at h; simp at h
    rw [hb.block g hlt]
    exact h
theorem Pow10.later {w w' : World} (h : Pow10 w) (hb : Below w.heap.size w w') : Pow10 w' := tabIs_later h hb
open Go.Lib in
theorem pow10_of {l : List (String × DataW Unit)} {w : World} (h : laidMet Tryd.prog l w) (hm : ("internal/strconv.uint64pow10", Rows.laid_internal_strconv_uint64pow10) ∈ l) : Pow10 w := by
  obtain ⟨g, t, cs, fuel, p, hg, ht, hvar, hd⟩ := laidMet.reads h hm
  have e0 : (Rows.laid_internal_strconv_uint64pow10 : DataW Unit) = tabData .u64 pow10Tab := by rfl
  have e1 : (Tryd.prog.globalNamed "internal/strconv.uint64pow10").bind (fun g => (Tryd.prog.globals[g]?).map (·.type)) = some 73 := by kernel_rfl
  rw [hg, Option.bind_some, ht] at e1
  obtain rfl := Option.some.inj e1
  rw [e0] at hd
  have := cells_of_tab Tryd.underlying73 Tryd.underlying60 (by kernel_rfl) (by kernel_rfl) hd
  unfold Pow10 TabIs
  rw [hvar, ← this]
theorem below_drewN {B : Nat} {w0 w : World} (h : Below B w0 w) (k : Nat) : Below B w0 (w.drewN k) := ⟨h.os, h.tape, h.output, h.size, h.block⟩
theorem below_grow {B : Nat} {w0 w : World} {os : Array Obj} (h : Below B w0 w) (hB : B ≤ w.heap.size) : Below B w0 (Go.Sort.grow w os) :=
  ⟨h.os, h.tape, h.output, by have := h.size; simp [Go.Sort.grow]; omega, fun k hk => by rw [← h.block k hk]; exact Go.Sort.heap_grow_old w os (by omega)⟩
theorem itoa_any (n : Nat) (w : World) (hn : n ≤ 1000000000) (hT : Pow10 w) : Calls Tryd.prog 26 #[.int .i64 n] w fun e w' => e = .returned (.string (decB n)) ∧ Below w.heap.size w w' := by
  refine (Tryd.strconv_Itoa n (by omega) (by omega) w hT).mono ?_
  rintro e w' ⟨rfl, k, os, rfl⟩
  refine ⟨?_, below_grow (below_drewN (Below.refl _ _) k) (Nat.le_refl _)⟩
  rw [Lib.itoa, if_neg (by omega)]
  rfl
set_option maxHeartbeats 2000000 in
theorem l1Num_any (n : Nat) : ∀ (w : World), n ≤ 1000000000 → Calls Tryd.prog 33 #[.int .i64 n] w fun e w' => e = .returned (.string (decB n)) ∧ Below w.heap.size w w' := by
  induction n using Nat.strongRecOn with
  | ind n ih =>
    intro w hn
    by_cases h10 : n < 10
    · have HD := Lib.hid (decB_small h10)
      have hcv := conv_digit n h10
      clear ih
      go_enter Tryd.func33, Tryd.ntmps33
      go_wp2_with fail
      go_ret
      exact ⟨by rw [HD.out]; rfl, by repeat (first | exact Below.refl _ _ | assumption | refine Below.alloc ?_ (by simp; try omega) _ | refine Below.setCell ?_ (by simp; try omega) _ | refine Below.drew ?_)⟩
    · obtain ⟨q, hq⟩ : ∃ q, n / 10 = q := ⟨_, rfl⟩
      obtain ⟨r, hr⟩ : ∃ r, n % 10 = r := ⟨_, rfl⟩
      have HD := Lib.hid (decB_big h10)
      rw [hq, hr] at HD
      have HI := Lib.hid (fun W => ih (n / 10) (by omega) W (by omega))
      rw [hq] at HI
      have hcv := conv_digit r (by omega)
      have e1 : IntKind.i64.wrap ((n : Int) / 10) = (q : Int) := by rw [IntWalk.i64_in _ (by omega)]; omega
      have e2 : (n : Int).tmod 10 = (r : Int) := by rw [Int.tmod_eq_emod_of_nonneg (by omega)]; omega
      have e3 : IntKind.i64.wrap (48 + (r : Int)) = 48 + (r : Int) := IntWalk.i64_in _ (by omega)
      have e4 : IntKind.u8.wrap (48 + (r : Int)) = 48 + (r : Int) := IntWalk.u8_in _ (by omega)
      have hcat := fun W => cat_ok (decB q) (dgtB r) W (by have := decB_len q (by omega); have : (dgtB r).size = 1 := rfl; omega)
      have hlt : decide ((n : Int) < 10) = false := decide_eq_false (by omega)
      clear ih hq hr h10
      go_enter Tryd.func33, Tryd.ntmps33
      go_wp2_with fail
      go_region_with ((go_at_call 33; refine (HI.out _).mono ?_; rintro e w1 ⟨rfl, hb⟩; obtain ⟨hc, hf⟩ := bcell hb; have HB := Lib.hid hb; clear hb))
      all_goals
        go_wp2_with fail
        go_ret
        exact ⟨by rw [HD.out]; rfl, by repeat (first | exact Below.refl _ _ | refine belNext ?_ HB.out | refine belAlloc ?_ _ | refine Below.drew ?_)⟩
end Go.Proofs.YtnfkepngjbjeoaaDoor
