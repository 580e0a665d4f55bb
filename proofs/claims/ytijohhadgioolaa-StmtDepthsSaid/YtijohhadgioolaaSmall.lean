/-
  Small functions of the law's file: few, signs, groups. Conditions: the index is no negative number.
-/
import Derived.Test.YtijohhadgioolaaClos
namespace Go.Proofs.Ytijohhadgioolaa
open Go.RowKit
set_option linter.unusedVariables false
set_option linter.unusedSimpArgs false
set_option maxRecDepth 4000

def fewS (s : ByteArray) : ByteArray := s.extract 0 (min s.size 30)
theorem fewS_size (s : ByteArray) : (fewS s).size ≤ 30 := by
  unfold fewS
  rw [ByteArray.size_extract]
  omega
theorem few_calls (s : ByteArray) (w : World) : Calls Try.prog 17 #[.string s] w fun e w' => e = .returned (.string (fewS s)) ∧ w' = w := by
  unfold fewS
  obtain ⟨m, hm⟩ : ∃ m, m = min s.size 30 := ⟨_, rfl⟩
  have hmin : ∀ (ats : Array TypeId) (ty : TypeId), Builtin.min_ ats ty #[.int .i64 (s.size : Int), .int .i64 30] = pure (.int .i64 (m : Int)) := by
    intro ats ty
    have : (if (30 : Int) < (s.size : Int) then (30 : Int) else (s.size : Int)) = (m : Int) := by split <;> omega
    simp only [Builtin.min_, List.foldlM_cons, List.foldlM_nil, Builtin.min2, this]
    rfl
  rw [← hm]
  have h1 : (m : Int) ≤ (s.size : Int) := by omega
  have h2 : m ≤ s.size := by omega
  clear hm
  go_enter Try.func17, Try.ntmps17
  go_wp2_with fail
  go_ret
  exact ⟨by first | rfl | simp, rfl⟩
theorem idx72 (j : Nat) (h : j < 13) : ∃ s : ByteArray, ∀ w : World, (Instr.index 72 (.agg #[.string ⟨#[79, 82]⟩, .string ⟨#[65, 78, 68]⟩, .string ⟨#[61]⟩, .string ⟨#[60, 62]⟩, .string ⟨#[60]⟩, .string ⟨#[60, 61]⟩, .string ⟨#[62]⟩, .string ⟨#[62, 61]⟩, .string ⟨#[43]⟩, .string ⟨#[45]⟩, .string ⟨#[42]⟩, .string ⟨#[47]⟩, .string ⟨#[37]⟩]) (.int .i64 (j : Int))).run Try.prog w = .ok (.string s) w := by
  have hc : j = 0 ∨ j = 1 ∨ j = 2 ∨ j = 3 ∨ j = 4 ∨ j = 5 ∨ j = 6 ∨ j = 7 ∨ j = 8 ∨ j = 9 ∨ j = 10 ∨ j = 11 ∨ j = 12 := by omega
  rcases hc with rfl | rfl | rfl | rfl | rfl | rfl | rfl | rfl | rfl | rfl | rfl | rfl | rfl
  · exact ⟨⟨#[79, 82]⟩, fun w => by kernel_rfl⟩
  · exact ⟨⟨#[65, 78, 68]⟩, fun w => by kernel_rfl⟩
  · exact ⟨⟨#[61]⟩, fun w => by kernel_rfl⟩
  · exact ⟨⟨#[60, 62]⟩, fun w => by kernel_rfl⟩
  · exact ⟨⟨#[60]⟩, fun w => by kernel_rfl⟩
  · exact ⟨⟨#[60, 61]⟩, fun w => by kernel_rfl⟩
  · exact ⟨⟨#[62]⟩, fun w => by kernel_rfl⟩
  · exact ⟨⟨#[62, 61]⟩, fun w => by kernel_rfl⟩
  · exact ⟨⟨#[43]⟩, fun w => by kernel_rfl⟩
  · exact ⟨⟨#[45]⟩, fun w => by kernel_rfl⟩
  · exact ⟨⟨#[42]⟩, fun w => by kernel_rfl⟩
  · exact ⟨⟨#[47]⟩, fun w => by kernel_rfl⟩
  · exact ⟨⟨#[37]⟩, fun w => by kernel_rfl⟩
theorem idx73 (j : Nat) (h : j < 4) : ∃ s : ByteArray, ∀ w : World, (Instr.index 73 (.agg #[.string ⟨#[67, 79, 85, 78, 84]⟩, .string ⟨#[83, 85, 77]⟩, .string ⟨#[77, 73, 78]⟩, .string ⟨#[77, 65, 88]⟩]) (.int .i64 (j : Int))).run Try.prog w = .ok (.string s) w := by
  have hc : j = 0 ∨ j = 1 ∨ j = 2 ∨ j = 3 := by omega
  rcases hc with rfl | rfl | rfl | rfl
  · exact ⟨⟨#[67, 79, 85, 78, 84]⟩, fun w => by kernel_rfl⟩
  · exact ⟨⟨#[83, 85, 77]⟩, fun w => by kernel_rfl⟩
  · exact ⟨⟨#[77, 73, 78]⟩, fun w => by kernel_rfl⟩
  · exact ⟨⟨#[77, 65, 88]⟩, fun w => by kernel_rfl⟩
theorem idx63 (j : Nat) (h : j < 2) : ∃ s : ByteArray, ∀ w : World, (Instr.index 63 (.agg #[.string ⟨#[78, 79, 84]⟩, .string ⟨#[45]⟩]) (.int .u8 (j : Int))).run Try.prog w = .ok (.string s) w := by
  have hc : j = 0 ∨ j = 1 := by omega
  rcases hc with rfl | rfl
  · exact ⟨⟨#[78, 79, 84]⟩, fun w => by kernel_rfl⟩
  · exact ⟨⟨#[45]⟩, fun w => by kernel_rfl⟩
theorem signs_calls (i : Int) (hi : 0 ≤ i) (w : World) : Calls Try.prog 19 #[.int .i64 i] w fun e w' => (∃ s : ByteArray, e = .returned (.string s)) ∧ w' = w := by
  obtain ⟨j, hj, hj2⟩ : ∃ j : Nat, Int.tmod i 13 = (j : Int) ∧ j < 13 := by
    refine ⟨(i % 13).toNat, ?_, by omega⟩
    rw [Int.tmod_eq_emod_of_nonneg hi]
    omega
  obtain ⟨s, hs⟩ := idx72 j hj2
  clear hj2
  go_enter Try.func19, Try.ntmps19
  go_wp2_with fail
  go_ret
  exact ⟨⟨_, rfl⟩, rfl⟩
theorem groups_calls (i : Int) (hi : 0 ≤ i) (w : World) : Calls Try.prog 20 #[.int .i64 i] w fun e w' => (∃ s : ByteArray, e = .returned (.string s)) ∧ w' = w := by
  obtain ⟨j, hj, hj2⟩ : ∃ j : Nat, Int.tmod i 4 = (j : Int) ∧ j < 4 := by
    refine ⟨(i % 4).toNat, ?_, by omega⟩
    rw [Int.tmod_eq_emod_of_nonneg hi]
    omega
  obtain ⟨s, hs⟩ := idx73 j hj2
  clear hj2
  go_enter Try.func20, Try.ntmps20
  go_wp2_with fail
  go_ret
  exact ⟨⟨_, rfl⟩, rfl⟩
end Go.Proofs.Ytijohhadgioolaa
