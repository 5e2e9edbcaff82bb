/-
  Decimal digits as texts: plain words, a digit made out of a slice of one byte.
-/
import Derived.Test.YtopolfibledmnaaDoorProg
import Derived.Test.YtopolfibledmnaaDoorBel
import Derived.WalkKit
import Derived.Lib.Hide
import Derived.Lib.ItoaNum
import Derived.Laws.IdiomStrings
import Derived.Deep.RegionWith
import Derived.WalkLawsBesides
import Derived.IntWalk
namespace Go.Proofs.YtopolfibledmnaaDoor
open Go.RowKit
/-- The decimal digits of n, as a text. -/
def decB (n : Nat) : ByteArray := ⟨(Lib.decDigits n).toArray⟩
theorem bcell {W w1 : World} (hb : Below W.heap.size W w1) : (∀ b o, b < W.heap.size → w1.cell? ⟨b, o, none⟩ = W.cell? ⟨b, o, none⟩) ∧ (∀ b o, b < W.heap.size → w1.frozen? ⟨b, o, none⟩ = W.frozen? ⟨b, o, none⟩) :=
  ⟨fun b o h => hb.cell (p := ⟨b, o, none⟩) h, fun b o h => hb.frozen (p := ⟨b, o, none⟩) h⟩
/-- One digit, as a text. -/
def dgtB (n : Nat) : ByteArray := ⟨#[UInt8.ofNat (48 + n)]⟩
theorem conv_digit (n : Nat) (hn : n < 10) (W : World) (b : Nat) (h : W.cell? ⟨b, 0, none⟩ = some (.int .u8 (48 + (n : Int)))) : (convert 82 9 (.slice (some ⟨b, 0, none⟩) 1 1)).run Tryd.prog W = .ok (.string (dgtB n)) W := by
  refine run_convert_bytes_back (P := Tryd.prog) W 82 9 5 ⟨b, 0, none⟩ 1 [UInt8.ofNat (48 + n)] Tryd.underlying82 Tryd.underlying5 Tryd.underlying9 (fun j hj => ?_)
  have hj0 : j = 0 := by simpa using hj
  subst hj0
  have e : ((UInt8.ofNat (48 + n)).toNat : Int) = 48 + (n : Int) := by
    have : (UInt8.ofNat (48 + n)).toNat = 48 + n := by simp; omega
    omega
  show W.cell? _ = some (.int .u8 ((UInt8.ofNat (48 + n)).toNat : Int))
  rw [e]
  simpa [Addr.add] using h
theorem decB_small {n : Nat} (h : n < 10) : decB n = dgtB n := by rw [decB, Lib.decDigits, dif_pos h]; rfl
theorem decB_big {n : Nat} (h : ¬ n < 10) : decB n = decB (n / 10) ++ dgtB (n % 10) := by
  rw [decB, Lib.decDigits, dif_neg h]
  apply ByteArray.ext
  simp [decB, dgtB, ByteArray.data_append]
theorem decDigits_len : ∀ (k n : Nat), n < 10 ^ (k + 1) → (Lib.decDigits n).length ≤ k + 1
  | 0, n, h => by rw [Lib.decDigits, dif_pos (by simpa using h)]; simp
  | k + 1, n, h => by
    rw [Lib.decDigits]
    split
    · simp
    · have := decDigits_len k (n / 10) (by rw [Nat.pow_succ] at h; omega)
      simp
      omega
theorem decB_len (n : Nat) (h : n ≤ 1000000000) : (decB n).size ≤ 10 := by
  have := decDigits_len 9 n (by omega)
  show (Lib.decDigits n).toArray.size ≤ 10
  simpa using this
theorem decB_pos (n : Nat) : 1 ≤ (decB n).size := by
  show 1 ≤ (Lib.decDigits n).toArray.size
  rw [Lib.decDigits]
  split <;> simp
theorem cat_ok (a b : ByteArray) (W : World) (h : a.size + b.size ≤ 9223372036854775807) : (Op.stringOp .add a b).run Tryd.prog W = .ok (.string (a ++ b)) W := run_string_add_sum W a b h
end Go.Proofs.YtopolfibledmnaaDoor
