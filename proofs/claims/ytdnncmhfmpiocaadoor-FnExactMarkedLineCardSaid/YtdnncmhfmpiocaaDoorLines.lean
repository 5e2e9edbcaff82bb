/-
  Lines of a text: how many newlines stand among its first k bytes, the last one's place; the reference's erLine.
-/
import Derived.Test.YtdnncmhfmpiocaaDoorProg
import Derived.WalkKit
import Derived.Outline
import Derived.WalkLawsBesides
import Derived.Test.YtdnncmhfmpiocaaDoorScan
import Derived.Lib.Bytealg
import Derived.Lib.LastIndexByte
import Derived.Lib.Strings
namespace Go.Proofs.YtdnncmhfmpiocaaDoor
open Go.RowKit
/-- The newlines among the first k bytes. -/
def nlC (s : ByteArray) : Nat → Int
  | 0 => 0
  | k + 1 => if byt s k = 10 then nlC s k + 1 else nlC s k
/-- The last newline's place among the first k bytes; -1 if there is none. -/
def nlL (s : ByteArray) : Nat → Int
  | 0 => -1
  | k + 1 => if byt s k = 10 then (k : Int) else nlL s k
theorem nlC_bd (s : ByteArray) : ∀ k : Nat, 0 ≤ nlC s k ∧ nlC s k ≤ k
  | 0 => by simp [nlC]
  | k + 1 => by have := nlC_bd s k; unfold nlC; split <;> omega
theorem nlL_bd (s : ByteArray) : ∀ k : Nat, -1 ≤ nlL s k ∧ nlL s k < k
  | 0 => by simp [nlL]
  | k + 1 => by have := nlL_bd s k; unfold nlL; split <;> omega
theorem nlC_count (s : ByteArray) : ∀ k : Nat, k ≤ s.size → ((Lib.countByte (s.extract 0 k).data.toList 10 : Nat) : Int) = nlC s k
  | 0, _ => by rw [Lib.extract_data]; simp [nlC, Lib.countByte]
  | k + 1, h => by
    have ih := nlC_count s k (by omega)
    have hl : k < s.data.toList.length := by have : k < s.size := by omega
                                             simpa using this
    rw [Lib.extract_data] at ih ⊢
    simp only [List.drop_zero, Nat.sub_zero, Lib.countByte] at ih ⊢
    rw [List.take_succ_eq_append_getElem hl, List.count_append, List.count_singleton, nlC]
    have hb : byt s k = (s.data.toList[k].toNat : Int) := by rw [byt, List.getElem?_eq_getElem hl]; rfl
    by_cases h10 : s.data.toList[k] = 10
    · have e : byt s k = 10 := by rw [hb, h10]; rfl
      rw [e, ← ih, h10]
      simp
    · have e : byt s k ≠ 10 := fun e => h10 (by apply UInt8.toNat_inj.1; rw [hb] at e; show _ = 10; omega)
      have h10' : ¬ s.data[k] = 10 := by simpa using h10
      rw [if_neg e, ← ih]
      simp [h10']
theorem nlL_last (s : ByteArray) (a : Nat) (ha : a ≤ s.size) : ∀ k : Nat, k ≤ a → Lib.lastIdx (s.extract 0 a) 10 k = nlL s k
  | 0, _ => rfl
  | k + 1, h => by
    have ih := nlL_last s a ha k (by omega)
    have e : ((((s.extract 0 a).data[k]!).toNat : Int) = 10) ↔ byt s k = 10 := by
      have h1 : k < (s.extract 0 a).data.toList.length := by rw [Lib.extract_data]; simp; omega
      have h2 : (s.extract 0 a).data[k]! = (s.extract 0 a).data.toList[k]?.getD 0 := by
        have h3 : k < (s.extract 0 a).data.size := by simpa using h1
        rw [getElem!_pos (s.extract 0 a).data k h3, Array.getElem?_toList, Array.getElem?_eq_getElem h3]
        rfl
      rw [h2, Lib.extract_data, byt]
      rw [List.drop_zero, Nat.sub_zero, List.getElem?_take_of_lt (by omega)]
    rw [Lib.lastIdx, nlL]
    by_cases h10 : byt s k = 10
    · rw [if_pos (e.2 h10), if_pos h10]
    · rw [if_neg (fun x => h10 (e.1 x)), if_neg h10, ih]
theorem nlL_byte (s : ByteArray) (a : Nat) (ha : a ≤ s.size) : Lib.lastIndexByte (s.extract 0 a) 10 = nlL s a := by
  have e : (s.extract 0 a).size = a := by simp; omega
  rw [Lib.lastIndexByte, e, nlL_last s a ha a (Nat.le_refl _)]
set_option maxHeartbeats 1000000 in
theorem erLine_any (s : ByteArray) (a : Nat) (w : World) (hs : s.size ≤ 6000) (ha : a ≤ s.size) :
    Calls Tryd.prog 33 #[.string s, .int .i64 a] w fun e w' => e = .returned (.tuple #[.int .i64 (nlC s a + 1), .int .i64 (a - nlL s a)]) ∧ w = w' := by
  go_enter Tryd.func33, Tryd.ntmps33
  go_wp2
  go_loop [6, 7, 8] (fun l c i => ∃ k : Nat, k ≤ a ∧ i = .int .i64 k ∧ l = .int .i64 (nlC s k + 1) ∧ c = .int .i64 (k - nlL s k)) (fun _ _ i => a - (intOf i).toNat)
  case atStart => exact ⟨0, Nat.zero_le _, rfl, rfl, rfl⟩
  case round =>
    obtain ⟨k, hk, rfl, rfl, rfl⟩ := hrel
    have hC := nlC_bd s k
    have hL := nlL_bd s k
    by_cases hlt : k < a
    · have hks : k < s.size := by omega
      have hbe := byt_eq hks
      by_cases h10 : byt s k = 10
      · have HC : Hid (nlC s (k + 1) = nlC s k + 1) := by rw [nlC, if_pos h10]; exact rfl
        have HL : Hid (nlL s (k + 1) = k) := by rw [nlL, if_pos h10]; exact rfl
        have e10 : ((s[k].toNat : Int) == 10) = true := by rw [← hbe, h10]; rfl
        clear hbe h10
        go_wp2
        go_round
        case rel => exact ⟨k + 1, by omega, by go_num, by rw [HC.out], by rw [HL.out]; go_num⟩
        case measure => simp [intOf]; omega
      · have HC : Hid (nlC s (k + 1) = nlC s k) := by rw [nlC, if_neg h10]; exact rfl
        have HL : Hid (nlL s (k + 1) = nlL s k) := by rw [nlL, if_neg h10]; exact rfl
        have e10 : ((s[k].toNat : Int) == 10) = false := by rw [← hbe]; simpa using h10
        clear hbe h10
        go_wp2
        go_round
        case rel => exact ⟨k + 1, by omega, by go_num, by rw [HC.out], by rw [HL.out]; go_num⟩
        case measure => simp [intOf]; omega
    · obtain rfl : k = a := by omega
      go_wp2
      go_ret2
      exact ⟨rfl, rfl⟩
end Go.Proofs.YtdnncmhfmpiocaaDoor
