/-
  SumFits of the program: slices.Clone, an append, bends.
-/
import Derived.Test.YtnfkepngjbjeoaaCuFits
import Derived.WalkSpells
namespace Go.Proofs.Ytnfkepngjbjeoaa
open Go.RowKit
set_option maxHeartbeats 1000000 in
theorem cloneC_any (g c n : Nat) (f : Nat → Nat → Int) (w : World) (hn : n ≤ 12) (hown : OwnCurveS w g n f) :
    Calls Try.prog 58 #[.slice (some ⟨g, 0, none⟩) n c] w fun e w' => ∃ v, e = .returned v ∧ w'.ownsRow w.heap.size 25 3 v n (flatVs f n) ∧ Below w.heap.size w w' := by
  obtain ⟨i0, hi, hz0, hz1, hz2⟩ := info_parts infoCurveS
  have HO := Lib.hid hown
  have h63 : 0 + n ≤ maxLen := by unfold maxLen; omega
  have hby : (0 + n) * 24 ≤ 140737488355328 := by omega
  have q22 : ∀ (w : World) (a : Option Addr) (n c n' c' : Nat), (binOp .eql 38 (.slice a n c) (.slice none n' c')).run Try.prog w = .ok (.bool a.isNone) w := fun w a n c n' c' => Lib.run_eql_slice_nil w _ _ a n c n' c' Try.underlying38
  clear hown
  go_enter Try.func58, Try.ntmps58
  go_wp2_with (at_builtin; refine wpList_append_own _ rfl (.tmp 5) (.tmp 6) 38 rfl w.heap.size 25 i0 (.agg #[.int .i64 0, .int .i64 0, .int .i64 0]) 3 24 Try.underlying38 hi hz0 hz1 hz2 rfl (by decide) _ 0 [] rfl (World.ownsRow_made w #[] 0 (Nat.le_refl _) (Nat.zero_le _) rfl) ⟨g, 0, none⟩ n c (flatVs f n) rfl ?c1 ?c2 ?c3 h63 hby ?c4 ?_)
  case c1 => exact flatVs_len f n
  case c2 =>
    intro j u hj
    obtain ⟨hj', rfl⟩ := flatVs_get hj
    have e1 : (⟨g, 0, none⟩ : Addr).add j = ⟨g, j, none⟩ := addr_add g j
    first
      | exact Own.cell HO.out hj'
      | (rw [e1]; exact (Own.later HO.out (belAlloc (Below.refl _ w) _)).cell hj')
  case c3 => exact flatVs_one
  all_goals (try (simp; done))
  intro v1 w1 hown1 hg1 hne1
  (try simp only [Nat.zero_add, List.nil_append] at hown1)
  have hB1 : Below w.heap.size w w1 := ((Below.refl w.heap.size w).alloc (Nat.le_refl _) _).grown hg1 (by simp) (fun k hk => by simp [Value.ownBlock] at hk; omega)
  have HO1 := Lib.hid hown1
  have HB1 := Lib.hid hB1
  clear hown1 hg1 hne1 hB1
  go_wp2_with fail
  go_ret
  exact ⟨_, rfl, HO1.out, HB1.out⟩
end Go.Proofs.Ytnfkepngjbjeoaa
