import Derived.Test.YtkpaglpophfeeaaDoorSp9
import Derived.Test.YtkpaglpophfeeaaDoorPAx10
namespace Go.Proofs.YtkpaglpophfeeaaDoor.Sp
open Go.RowKit Go.Proofs.YtkpaglpophfeeaaDoorW.PrintWords Go.Proofs.YtkpaglpophfeeaaDoorW.PrintLast Go.Proofs.YtkpaglpophfeeaaDoorW.PrintMore Go.Proofs.YtkpaglpophfeeaaDoor.PA
set_option linter.unusedVariables false
set_option linter.unusedSimpArgs false

theorem sdtDecodes_f (a0 : ByteArray) (hs0 : a0.size ≤ 140737488351232) {b0 : ByteArray} {b1 : Int} {b2 b3 : ByteArray} (h : TabOk b0 b1 b2 b3) (at_ c : Int) (c0 : 0 ≤ c) (c1 : c ≤ 255) : ∃ k, platformfwlaw07_SdtDecodes.f k a0 b0 b1 b2 b3 at_ c = some true := by
  refine ⟨70100, ?_⟩
  have ht := table_ok h
  unfold platformfwlaw07_SdtDecodes.f
  rw [table_f h, Option.bind_some]
  generalize Given.tabOf b0 b1 b2 b3 = t at *
  obtain ⟨e0, e1, e2, e3⟩ := t
  have henc := rencode_any ht 70100 (by omega)
  rw [henc, Option.bind_some]
  cases hv : validB e0 e1 e2 e3
  · rw [if_neg Bool.false_ne_true, if_pos empty_list, awake_f _ (by omega), Option.bind_some, if_pos rfl, decodes_f a0 (by omega) _ (by omega), Option.bind_some]
  · obtain ⟨g0, g1, g1', g2, g3⟩ := valid_size hv
    have hsz := enc_size (a1 := e1) (a3 := e3) g0 g2
    generalize encS e0 e1 e2 e3 = S at *
    rw [if_pos rfl]
    dsimp only
    clear henc
    have hu := umod_lt at_ (S.size : Int) (by omega)
    rw [if_neg (not_empty (by omega)), mod_f _ _ (by omega) (by omega), Option.bind_some]
    generalize Given.umod at_ (S.size : Int) = t at *
    obtain ⟨i, rfl⟩ := Int.eq_ofNat_of_zero_le hu.1
    have w : wrap64 ((i : Int) + 1) = ((i + 1 : Nat) : Int) := by unfold wrap64; omega
    have s1 : (S.extract 0 i).size = i := by rw [extract_size _ _ _ (by omega)]; omega
    have s2 : (S.extract (i + 1) S.size).size = S.size - (i + 1) := by rw [extract_size _ _ _ (Nat.le_refl _)]
    have s3 := one_size c
    rw [awake_f _ (by omega), Option.bind_some, if_pos rfl, decodes_f a0 (by omega) _ (by omega), Option.bind_some, if_pos rfl, if_pos (by omega), if_pos (by omega), Int.toNat_natCast, decodes_f _ (by omega) _ (by omega), Option.bind_some, if_pos rfl, if_pos (by omega), decodes_f _ (by rw [ByteArray.size_append]; omega) _ (by omega), Option.bind_some, if_pos rfl, Option.bind_some, if_pos (by rw [s1, s3]; omega), w, if_pos (by omega), if_pos (by omega), Int.toNat_natCast, if_pos (by rw [ByteArray.size_append, s1, s2, s3]; omega), decodes_f _ (by rw [ByteArray.size_append, ByteArray.size_append, s1, s2, s3]; omega) _ (by omega), Option.bind_some]
end Go.Proofs.YtkpaglpophfeeaaDoor.Sp
