import Derived.Test.YtkpaglpophfeeaaDoorSp6
import Derived.Test.YtkpaglpophfeeaaDoorPAx4
namespace Go.Proofs.YtkpaglpophfeeaaDoor.Sp
open Go.RowKit Go.Proofs.YtkpaglpophfeeaaDoorW.PrintWords Go.Proofs.YtkpaglpophfeeaaDoorW.PrintLast Go.Proofs.YtkpaglpophfeeaaDoorW.PrintMore Go.Proofs.YtkpaglpophfeeaaDoor.PA
set_option linter.unusedVariables false
set_option linter.unusedSimpArgs false

theorem mod_f (a n : Int) (n0 : 0 < n) (n1 : n < 9223372036854775808) : platformfwhelp_Mod.f a n = some (Given.umod a n) := by
  unfold platformfwhelp_Mod.f Given.umod
  have e1 : IntKind.u64.wrap a = a % 18446744073709551616 := by rw [IntKind.wrap_u64]
  have e2 : IntKind.u64.wrap n = n := by rw [IntKind.wrap_u64]; omega
  have h0 : 0 ≤ a % 18446744073709551616 := by omega
  have h1 := Int.emod_nonneg (a % 18446744073709551616) (show n ≠ 0 by omega)
  have h2 := Int.emod_lt_of_pos (a % 18446744073709551616) n0
  rw [e1, e2, if_neg (by omega), Int.tmod_eq_emod_of_nonneg h0, w64 h1 (by omega)]
theorem rencode_any {a0 : ByteArray} {a1 : Int} {a2 a3 : ByteArray} (h : TabOk a0 a1 a2 a3) (k : Nat) (hk : 70000 < k) : platformfwref07_Encode.f k a0 a1 a2 a3 = some (if validB a0 a1 a2 a3 = true then (encS a0 a1 a2 a3, 0) else (⟨#[]⟩, 1)) := by
  cases hv : validB a0 a1 a2 a3
  · rw [rencode_bad h.s2 k (by omega) hv, if_neg Bool.false_ne_true]
  · rw [rencode_ok k hk hv, if_pos rfl]
theorem encode_any {a0 : ByteArray} {a1 : Int} {a2 a3 : ByteArray} (h : TabOk a0 a1 a2 a3) (k : Nat) (hk : 70000 < k) (hk0 : a0.size < k) : sdt_Encode.f k a0 a1 a2 a3 = some (if validB a0 a1 a2 a3 = true then (encS a0 a1 a2 a3, 0) else (⟨#[]⟩, 1)) := by
  cases hv : validB a0 a1 a2 a3
  · rw [encode_bad h.s0 h.s2 k hk0 hv, if_neg Bool.false_ne_true]
  · rw [encode_ok k hk hv, if_pos rfl]
theorem empty_list : (⟨#[]⟩ : ByteArray).toList = ([] : List UInt8) := by rw [Lib.toList_data]
theorem not_empty {s : ByteArray} (h : 0 < s.size) : ¬ s.toList = ([] : List UInt8) := fun e => by
  rw [Lib.toList_data] at e
  have := size_data s
  rw [e] at this
  simp at this
  omega
end Go.Proofs.YtkpaglpophfeeaaDoor.Sp
