import Derived.Test.YtkpaglpophfeeaaDoorSp2
import Derived.Test.YtkpaglpophfeeaaDoorPAx4
namespace Go.Proofs.YtkpaglpophfeeaaDoor.Sp
open Go.RowKit Go.Proofs.YtkpaglpophfeeaaDoorW.PrintWords Go.Proofs.YtkpaglpophfeeaaDoorW.PrintLast Go.Proofs.YtkpaglpophfeeaaDoorW.PrintMore Go.Proofs.YtkpaglpophfeeaaDoor.PA
set_option linter.unusedVariables false
set_option linter.unusedSimpArgs false

theorem awake_30 : platformfwlaw07_awake.f 30 = some true := by kernel_rfl
theorem awake_f (k : Nat) (hk : 30 ≤ k) : platformfwlaw07_awake.f k = some true := at_rounds platformfwlaw07_awake.mono hk awake_30
/-! ### table -/
theorem extract_le (s : ByteArray) (n : Nat) : (s.extract 0 n).size ≤ s.size := by
  rw [Lib.size_eq, Lib.extract_data, Lib.size_eq, List.drop_zero]
  exact List.length_take_le' _ _
theorem sig4 (i : Int) : (Given.sigOf i).size = 4 := by
  unfold Given.sigOf
  split
  · rfl
  · split
    · rfl
    · split <;> rfl
theorem umod_lt (a n : Int) (h : 0 < n) : 0 ≤ Given.umod a n ∧ Given.umod a n < n := by
  unfold Given.umod
  exact ⟨Int.emod_nonneg _ (by omega), Int.emod_lt_of_pos _ h⟩
structure TabOk (a0 : ByteArray) (a1 : Int) (a2 a3 : ByteArray) : Prop where
  n0 : -9223372036854775808 ≤ a1
  n1 : a1 ≤ 9223372036854775807
  s0 : a0.size ≤ 9223372036854775807
  s2 : a2.size ≤ 9223372036854775807
  s3 : a3.size ≤ 9223372036854775807
theorem table_f {a0 : ByteArray} {a1 : Int} {a2 a3 : ByteArray} (h : TabOk a0 a1 a2 a3) : platformfwlaw07_table.f a0 a1 a2 a3 = some (Given.tabOf a0 a1 a2 a3) := by
  unfold platformfwlaw07_table.f
  rw [if_pos ⟨⟨h.n0, h.n1⟩, h.s0, h.s2, h.s3⟩]
theorem table_ok {a0 : ByteArray} {a1 : Int} {a2 a3 : ByteArray} (h : TabOk a0 a1 a2 a3) : TabOk (Given.tabOf a0 a1 a2 a3).1 (Given.tabOf a0 a1 a2 a3).2.1 (Given.tabOf a0 a1 a2 a3).2.2.1 (Given.tabOf a0 a1 a2 a3).2.2.2 := by
  unfold Given.tabOf
  split
  · exact h
  · have hu := umod_lt a1 256 (by omega)
    have h2 := h.s2
    have h3 := h.s3
    refine ⟨by show _ ≤ Given.umod a1 256; omega, by show Given.umod a1 256 ≤ _; omega, by show (Given.sigOf _).size ≤ _; rw [sig4]; omega, Nat.le_trans (extract_le _ _) h2, Nat.le_trans (extract_le _ _) h3⟩
theorem tab_size0 {a0 : ByteArray} {a1 : Int} {a2 a3 : ByteArray} : (Given.tabOf a0 a1 a2 a3).1.size ≤ max a0.size 4 := by
  unfold Given.tabOf
  split
  · exact Nat.le_max_left _ _
  · show (Given.sigOf _).size ≤ _; rw [sig4]; exact Nat.le_max_right _ _
end Go.Proofs.YtkpaglpophfeeaaDoor.Sp
