import Derived.Test.YtkpaglpophfeeaaDoorSp6
import Derived.Test.YtkpaglpophfeeaaDoorPAx11
import Derived.Test.YtkpaglpophfeeaaDoorPAx4
namespace Go.Proofs.YtkpaglpophfeeaaDoor.Sp
open Go.RowKit Go.Proofs.YtkpaglpophfeeaaDoorW.PrintWords Go.Proofs.YtkpaglpophfeeaaDoorW.PrintLast Go.Proofs.YtkpaglpophfeeaaDoorW.PrintMore Go.Proofs.YtkpaglpophfeeaaDoor.PA
set_option linter.unusedVariables false
set_option linter.unusedSimpArgs false

theorem mod_f (a n : Int) (n0 : 0 < n) (n1 : n < 9223372036854775808) : platformfwhelp_Mod.f a n = some (Given.umod a n) := by
  unfold platformfwhelp_Mod.f Given.umod
  have e1 : IntKind.u64.wrap a = a % 18446744073709551616 := by rw [IntKind.wrap_u64]
  have e2 : IntKind.u64.wrap n = n := by rw [IntKind.wrap_u64]; omega
  have h0 : 0 ≤ a % 18446744073709551616 := by omega
  have h1 := Int.emod_nonneg (a % 18446744073709551616) (show n ≠ 0 by omega)
  have h2 := Int.emod_lt_of_pos (a % 18446744073709551616) n0
  rw [e1, e2, if_neg (by omega), Int.tmod_eq_emod_of_nonneg h0, w64 h1 (by omega)]
theorem rencode_any {a0 : ByteArray} {a1 : Int} {a2 a3 : ByteArray} (h : TabOk a0 a1 a2 a3) (k : Nat) (hk : 70000 < k) : platformfwref07_Encode.f k a0 a1 a2 a3 = some (if validB a0 a1 a2 a3 = true then (encS a0 a1 a2 a3, 0) else (⟨#[]⟩, 1)) := by
  cases hv : validB a0 a1 a2 a3
  · rw [rencode_bad h.s2 k (by omega) hv, if_neg Bool.false_ne_true]
  · rw [rencode_ok k hk hv, if_pos rfl]
theorem encode_any {a0 : ByteArray} {a1 : Int} {a2 a3 : ByteArray} (h : TabOk a0 a1 a2 a3) (k : Nat) (hk : 70000 < k) (hk0 : a0.size < k) : sdt_Encode.f k a0 a1 a2 a3 = some (if validB a0 a1 a2 a3 = true then (encS a0 a1 a2 a3, 0) else (⟨#[]⟩, 1)) := by
  cases hv : validB a0 a1 a2 a3
  · rw [encode_bad h.s0 h.s2 k hk0 hv, if_neg Bool.false_ne_true]
  · rw [encode_ok k hk hv, if_pos rfl]
theorem empty_list : (⟨#[]⟩ : ByteArray).toList = ([] : List UInt8) := by rw [Lib.toList_data]
theorem not_empty {s : ByteArray} (h : 0 < s.size) : ¬ s.toList = ([] : List UInt8) := fun e => by
  rw [Lib.toList_data] at e
  have := size_data s
  rw [e] at this
  simp at this
  omega
theorem detects_j0 {a0 : ByteArray} {a1 : Int} {a2 a3 : ByteArray} (hv : validB a0 a1 a2 a3 = true) (c : Int) (c0 : 0 ≤ c) (c1 : c ≤ 255) (t : Int) (t0 : 0 ≤ t) (t1 : t < ((encS a0 a1 a2 a3).size : Int)) (b : Bool) (hb : b = false → (t < 4 ∨ 8 ≤ t) ∧ bt (encS a0 a1 a2 a3) t ≠ c) (k : Nat) (hk : 70010 < k) :
    platformfwlaw07_SdtDetectsChanges.j0 k c (encS a0 a1 a2 a3) t b = some true := by
  obtain ⟨g0, g1, g1', g2, g3⟩ := valid_size hv
  have hsz := enc_size (a1 := a1) (a3 := a3) g0 g2
  generalize hs : encS a0 a1 a2 a3 = s at *
  obtain ⟨k, rfl⟩ : ∃ m, k = m + 1 := ⟨k - 1, by omega⟩
  rw [platformfwlaw07_SdtDetectsChanges.j0]
  cases b with
  | true => rw [if_pos rfl, awake_f k (by omega), Option.bind_some]
  | false =>
    obtain ⟨h1, h2⟩ := hb rfl
    obtain ⟨i, rfl⟩ := Int.eq_ofNat_of_zero_le t0
    have e1 : wrap64 ((i : Int) + 1) = ((i + 1 : Nat) : Int) := by unfold wrap64; omega
    have s1 : (s.extract 0 i).size = i := by rw [extract_size _ _ _ (by omega)]; omega
    have s2 : (s.extract (i + 1) s.size).size = s.size - (i + 1) := by rw [extract_size _ _ _ (Nat.le_refl _)]
    have s3 := one_size c
    rw [if_neg Bool.false_ne_true, if_pos (by omega), if_pos (by omega), Option.bind_some, e1, Int.toNat_natCast, Int.toNat_natCast, if_pos (by rw [s1, s3]; omega), if_pos (by omega), if_pos (by omega), if_pos (by rw [ByteArray.size_append, s1, s2, s3]; omega)]
    have hd := decode_f (chg s i c) (by rw [chg_size s i c (by omega)]; omega) k (by omega)
    have hne := detects hv hs.symm i (by omega) (by omega) c c0 (by omega) h2
    unfold chg at hd hne
    rw [hd, Option.bind_some, awake_f k (by omega), Option.bind_some, if_pos rfl]
    congr 1
    simpa using hne
theorem sdtDetects_f {a0 : ByteArray} {a1 : Int} {a2 a3 : ByteArray} (h : TabOk a0 a1 a2 a3) (at_ c : Int) (c0 : 0 ≤ c) (c1 : c ≤ 255) : ∃ k, platformfwlaw07_SdtDetectsChanges.f k a0 a1 a2 a3 at_ c = some true := by
  refine ⟨70020, ?_⟩
  have ht := table_ok h
  unfold platformfwlaw07_SdtDetectsChanges.f
  rw [table_f h, Option.bind_some]
  generalize Given.tabOf a0 a1 a2 a3 = t at *
  obtain ⟨b0, b1, b2, b3⟩ := t
  rw [rencode_any ht 70020 (by omega), Option.bind_some]
  cases hv : validB b0 b1 b2 b3
  · rw [if_neg Bool.false_ne_true, if_pos empty_list, awake_f _ (by omega), Option.bind_some]
  · obtain ⟨g0, g1, g1', g2, g3⟩ := valid_size hv
    have hsz := enc_size (a1 := b1) (a3 := b3) g0 g2
    rw [if_pos rfl, if_neg (not_empty (by show 0 < (encS b0 b1 b2 b3).size; omega)), mod_f _ _ (by show (0 : Int) < ((encS b0 b1 b2 b3).size : Int); omega) (by show ((encS b0 b1 b2 b3).size : Int) < _; omega), Option.bind_some]
    have hu := umod_lt at_ ((encS b0 b1 b2 b3).size : Int) (by omega)
    show (if Given.umod at_ ((encS b0 b1 b2 b3).size : Int) ≥ 4 then _ else _) = some true
    generalize Given.umod at_ ((encS b0 b1 b2 b3).size : Int) = t at *
    by_cases h4 : t ≥ 4
    · rw [if_pos h4]
      by_cases h8 : t < 8
      · rw [if_pos h8]
        exact detects_j0 hv c c0 c1 t hu.1 hu.2 true (fun h => by cases h) _ (by omega)
      · rw [if_neg h8, if_pos hu.1, if_pos hu.2]
        exact detects_j0 hv c c0 c1 t hu.1 hu.2 _ (fun h => ⟨by omega, by simpa using h⟩) _ (by omega)
    · rw [if_neg h4, if_pos hu.1, if_pos hu.2]
      exact detects_j0 hv c c0 c1 t hu.1 hu.2 _ (fun h => ⟨by omega, by simpa using h⟩) _ (by omega)
end Go.Proofs.YtkpaglpophfeeaaDoor.Sp
