/-
  The program's tables of key words and of signs, as the rows' lists lay them; the reference's tables; looking a text up in them.
-/
import Derived.Test.YtopolfibledmnaaDoorRows
import Derived.Test.YtopolfibledmnaaDoorStrTab
import Derived.Test.YtopolfibledmnaaDoorBase
import Derived.Test.YtopolfibledmnaaDoorTabs
import Derived.Test.YtopolfibledmnaaDoorBel
import Derived.Test.YtopolfibledmnaaDoorIn
import Derived.Lib.Hide
namespace Go.Proofs.YtopolfibledmnaaDoor
open Go.RowKit
def keyNs : List (List UInt8) := [[113, 100, 105, 115, 99], [100, 101, 102, 97, 117, 108, 116], [99, 108, 97, 115, 115], [114, 97, 116, 101], [99, 101, 105, 108], [98, 117, 114, 115, 116], [99, 98, 117, 114, 115, 116], [112, 114, 105, 111], [108, 105, 109, 105, 116], [102, 105, 108, 116, 101, 114], [115, 111, 117, 114, 99, 101], [100, 101, 115, 116], [112, 111, 114, 116], [109, 97, 114, 107]]
def signNs : List (List UInt8) := [[123], [125], [59], [47], [61], [45, 62]]
/-- Block g holds a table of texts. -/
def TabS (w : World) (g : Nat) (ls : List (List UInt8)) : Prop := g < w.heap.size ∧ ∀ i l, ls[i]? = some l → w.cell? ⟨g, i, none⟩ = some (.string ⟨l.toArray⟩)
theorem TabS.later {w w' : World} {g : Nat} {ls : List (List UInt8)} (h : TabS w g ls) (hb : Below w.heap.size w w') : TabS w' g ls :=
  ⟨Nat.lt_of_lt_of_le h.1 hb.size, fun i l hl => (hb.cell (p := ⟨g, i, none⟩) h.1).trans (h.2 i l hl)⟩
theorem TabS.cells {w : World} {g : Nat} {ls : List (List UInt8)} (h : TabS w g ls) (j : Nat) (v : Value) (hv : (strVals ls)[j]? = some v) : w.cell? ⟨g, j, none⟩ = some v := by
  simp only [strVals, List.getElem?_toArray, List.getElem?_map, Option.map_eq_some_iff] at hv
  obtain ⟨l, hl, rfl⟩ := hv
  exact h.2 j l hl
theorem cellsStr : Tryd.prog.cellsOf 9 = 1 := by kernel_rfl
theorem gKey : Tryd.prog.globalNamed "loop.example/g00838/impl.keyWords" = some 0 := by kernel_rfl
theorem gKeyType : (Tryd.prog.globals[0]?).map (·.type) = some 62 := by kernel_rfl
theorem gSign : Tryd.prog.globalNamed "loop.example/g00838/impl.signTexts" = some 1 := by kernel_rfl
theorem gSignType : (Tryd.prog.globals[1]?).map (·.type) = some 66 := by kernel_rfl
open Go.Lib in
theorem keyTab_of {l : List (String × DataW Unit)} {w : World} (h : laidMet Tryd.prog l w) (hm : ("loop.example/g00838/impl.keyWords", Rows.laid_loop_example_g00838_impl_keyWords) ∈ l) : TabS w 0 keyNs := by
  have hr := laidMet.reads h hm
  have hc : ∀ i l, keyNs[i]? = some l → w.cell? ⟨0, i, none⟩ = some (.string ⟨l.toArray⟩) := fun i l hl =>
    strTab_cell (ls := keyNs) hr gKey gKeyType Tryd.underlying62 Tryd.underlying9 cellsStr i (by have := (List.getElem?_eq_some_iff.1 hl).1; simpa [keyNs] using this) l hl
  exact ⟨cell_lt_size (hc 0 _ rfl), hc⟩
open Go.Lib in
theorem signTab_of {l : List (String × DataW Unit)} {w : World} (h : laidMet Tryd.prog l w) (hm : ("loop.example/g00838/impl.signTexts", Rows.laid_loop_example_g00838_impl_signTexts) ∈ l) : TabS w 1 signNs := by
  have hr := laidMet.reads h hm
  have hc : ∀ i l, signNs[i]? = some l → w.cell? ⟨1, i, none⟩ = some (.string ⟨l.toArray⟩) := fun i l hl =>
    strTab_cell (ls := signNs) hr gSign gSignType Tryd.underlying66 Tryd.underlying9 cellsStr i (by have := (List.getElem?_eq_some_iff.1 hl).1; simpa [signNs] using this) l hl
  exact ⟨cell_lt_size (hc 0 _ rfl), hc⟩
def tabP (ls : List (List UInt8)) (s : ByteArray) (k : Nat) : Bool := (strAt ls k).toList == s.toList
/-- The first place of a text in a table, the table's length if it is not there. -/
def tabI (ls : List (List UInt8)) (s : ByteArray) : Nat := fstOf (tabP ls s) 0 ls.length
def hasS (ls : List (List UInt8)) (s : ByteArray) : Bool := decide (tabI ls s < ls.length)
theorem hasS_yes {ls : List (List UInt8)} {s : ByteArray} {k : Nat} (h : k < ls.length) (e : fstOf (tabP ls s) k (ls.length - k) = tabI ls s) (hp : tabP ls s k = true) : hasS ls s = true := by
  rw [fstOf_yes h hp] at e
  rw [hasS, ← e]
  exact decide_eq_true h
theorem hasS_no {ls : List (List UInt8)} {s : ByteArray} {k : Nat} (h : k = ls.length) (e : fstOf (tabP ls s) k (ls.length - k) = tabI ls s) : hasS ls s = false := by
  subst h
  rw [Nat.sub_self, fstOf] at e
  rw [hasS, ← e]
  exact decide_eq_false (by omega)
set_option maxHeartbeats 1000000 in
theorem implIsKey_any (s : ByteArray) (w : World) (hT : TabS w 0 keyNs) :
    Calls Tryd.prog 13 #[.string s] w fun e w' => e = .returned (.bool (hasS keyNs s)) ∧ w = w' := by
  have HT := Lib.hid hT.cells
  clear hT
  go_enter Tryd.func13, Tryd.ntmps13
  go_wp2_with (with_reducible refine wpList_load_list rfl 62 _ rfl 0 rfl (strVals keyNs) _ HT.out Tryd.underlying62 rfl (by kernel_rfl) ?_)
  go_loop [6] (fun i => ∃ k : Nat, k ≤ 14 ∧ i = .int .i64 k ∧ fstOf (tabP keyNs s) k (keyNs.length - k) = tabI keyNs s) (fun i => 14 - (intOf i).toNat)
  case atStart => exact ⟨0, Nat.zero_le _, rfl, rfl⟩
  case round =>
    obtain ⟨k, hk, rfl, hq⟩ := hrel
    have HQ := Lib.hid hq
    clear hq
    by_cases hlt : k < 14
    · have hix := fun w => run_index_strs (P := Tryd.prog) 62 9 14 keyNs k hlt rfl Tryd.underlying62 Tryd.underlying9 (by kernel_rfl) w
      by_cases hp : tabP keyNs s k = true
      · have HR := Lib.hid (hasS_yes hlt HQ.out hp)
        have ht : ((strAt keyNs k).toList == s.toList) = true := hp
        clear hp
        go_wp2
        go_ret
        exact ⟨by rw [HR.out]; rfl, rfl⟩
      · have hp' : tabP keyNs s k = false := by simpa using hp
        have HR := Lib.hid ((fstOf_no (n := keyNs.length) hlt hp').symm.trans HQ.out)
        have ht : ((strAt keyNs k).toList == s.toList) = false := hp'
        clear hp hp'
        go_wp2
        go_round
        case rel => exact ⟨k + 1, by omega, by go_num, HR.out⟩
        case measure => simp [intOf]; omega
    · obtain rfl : k = 14 := by omega
      have HR := Lib.hid (hasS_no rfl HQ.out)
      go_wp2
      go_ret
      exact ⟨by rw [HR.out]; rfl, rfl⟩
set_option maxHeartbeats 1000000 in
theorem l1HasS_any (ls : List (List UInt8)) (g c n : Nat) (s : ByteArray) (w : World) (hl : ls.length = n) (hn : n ≤ 100) (hcs : ∀ k, k < n → w.cell? ⟨g, k, none⟩ = some (.string (strAt ls k))) :
    Calls Tryd.prog 42 #[.slice (some ⟨g, 0, none⟩) n c, .string s] w fun e w' => e = .returned (.bool (hasS ls s)) ∧ w = w' := by
  have HC := Lib.hid hcs
  have HL := Lib.hid hl
  clear hcs hl
  go_enter Tryd.func42, Tryd.ntmps42
  go_wp2
  go_loop [9] (fun i => ∃ k : Nat, k ≤ n ∧ i = .int .i64 k ∧ fstOf (tabP ls s) k (ls.length - k) = tabI ls s) (fun i => n - (intOf i).toNat)
  case atStart => exact ⟨0, Nat.zero_le _, rfl, rfl⟩
  case round =>
    obtain ⟨k, hk, rfl, hq⟩ := hrel
    have HQ := Lib.hid hq
    clear hq
    by_cases hlt : k < n
    · have hcell := HC.out k hlt
      have hlt' : k < ls.length := by rw [HL.out]; exact hlt
      by_cases hp : tabP ls s k = true
      · have HR := Lib.hid (hasS_yes hlt' HQ.out hp)
        have ht : ((strAt ls k).toList == s.toList) = true := hp
        clear hp
        go_wp2
        go_ret
        exact ⟨by rw [HR.out]; rfl, rfl⟩
      · have hp' : tabP ls s k = false := by simpa using hp
        have HR := Lib.hid ((fstOf_no (n := ls.length) hlt' hp').symm.trans HQ.out)
        have ht : ((strAt ls k).toList == s.toList) = false := hp'
        clear hp hp'
        go_wp2
        go_round
        case rel => exact ⟨k + 1, by omega, by go_num, HR.out⟩
        case measure => simp [intOf]; omega
    · have HR := Lib.hid (hasS_no (by have := HL.out; omega) HQ.out)
      go_wp2
      go_ret
      exact ⟨by rw [HR.out]; rfl, rfl⟩
theorem tkKeys_any (w : World) : Calls Tryd.prog 43 #[] w fun e w' => e = .returned (.slice (some ⟨w.heap.size, 0, none⟩) 14 14) ∧ w.alloc (.cells (strVals keyNs) 9) = w' := by
  go_enter Tryd.func43, Tryd.ntmps43
  go_wp2
  go_ret
  exact ⟨rfl, rfl⟩
theorem tkSigns_any (w : World) : Calls Tryd.prog 62 #[] w fun e w' => e = .returned (.slice (some ⟨w.heap.size, 0, none⟩) 6 6) ∧ w.alloc (.cells (strVals signNs) 9) = w' := by
  go_enter Tryd.func62, Tryd.ntmps62
  go_wp2
  go_ret
  exact ⟨rfl, rfl⟩
theorem strVals_cell (ls : List (List UInt8)) (w : World) (k : Nat) (h : k < ls.length) : (w.alloc (.cells (strVals ls) 9)).cell? ⟨w.heap.size, k, none⟩ = some (.string (strAt ls k)) := by
  rw [World.cell?, heap_alloc_new]
  exact strVals_get ls k h
theorem specIsKey_any (s : ByteArray) (w : World) :
    Calls Tryd.prog 12 #[.string s] w fun e w' => e = .returned (.bool (hasS keyNs s)) ∧ w.alloc (.cells (strVals keyNs) 9) = w' := by
  go_enter Tryd.func12, Tryd.ntmps12
  go_wp2_with fail
  refine (tkKeys_any _).mono ?_
  rintro e w1 ⟨rfl, rfl⟩
  go_wp2_with fail
  refine (l1HasS_any keyNs _ _ 14 s _ rfl (by omega) (fun k hk => strVals_cell keyNs w k hk)).mono ?_
  rintro e w1 ⟨rfl, rfl⟩
  go_wp2_with fail
  go_ret
  exact ⟨rfl, rfl⟩
end Go.Proofs.YtopolfibledmnaaDoor
