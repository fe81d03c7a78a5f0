import Derived.Test.YtkpaglpophfeeaaDoorSp7
import Derived.Test.YtkpaglpophfeeaaDoorPAx14
namespace Go.Proofs.YtkpaglpophfeeaaDoor.Sp
open Go.RowKit Go.Proofs.YtkpaglpophfeeaaDoorW.PrintWords Go.Proofs.YtkpaglpophfeeaaDoorW.PrintLast Go.Proofs.YtkpaglpophfeeaaDoorW.PrintMore Go.Proofs.YtkpaglpophfeeaaDoor.PA
set_option linter.unusedVariables false
set_option linter.unusedSimpArgs false

/-! ### Decode turns Encode back -/
theorem trim_zeros (l : List UInt8) : ∀ n, Lib.trimRightB (l ++ List.replicate n 0) 0 = Lib.trimRightB l 0
  | 0 => by simp
  | n + 1 => by rw [List.replicate_succ', ← List.append_assoc, trim_snoc, if_pos rfl, trim_zeros l n]
theorem trim_id {s : ByteArray} (h : s.size = 0 ∨ bt s ((s.size : Int) - 1) ≠ 0) : Lib.trimRightB s.data.toList 0 = s.data.toList := by
  have e : trimS s = s := by
    rcases h with h | h
    · exact trimS_nil s h
    · by_cases h0 : 0 < s.size
      · rw [trimS_step s h0, if_neg h]
      · exact trimS_nil s (by omega)
  unfold trimS at e
  have := congrArg (fun x : ByteArray => x.data.toList) e
  simpa using this
theorem valid_oem {a0 : ByteArray} {a1 : Int} {a2 a3 : ByteArray} (h : validB a0 a1 a2 a3 = true) : a2.size = 0 ∨ bt a2 ((a2.size : Int) - 1) ≠ 0 := by
  unfold validB at h
  simp only [Bool.and_eq_true, Bool.not_eq_true', Bool.and_eq_false_iff, decide_eq_false_iff_not] at h
  rcases h.2.2.2.2.1 with h | h
  · exact .inl (by omega)
  · exact .inr h
theorem valid_sig {a0 : ByteArray} {a1 : Int} {a2 a3 : ByteArray} (h : validB a0 a1 a2 a3 = true) : sigB a0 = true := by
  unfold validB at h
  simp only [Bool.and_eq_true] at h
  exact h.1
theorem take_left {a b : List UInt8} {n : Nat} (h : a.length = n) : (a ++ b).take n = a := by rw [← h]; exact List.take_left ..
theorem drop_left {a b : List UInt8} {n : Nat} (h : a.length = n) : (a ++ b).drop n = b := by rw [← h]; exact List.drop_left ..
theorem decode_back {a0 : ByteArray} {a1 : Int} {a2 a3 : ByteArray} (hv : validB a0 a1 a2 a3 = true) (s : ByteArray) (r : List UInt8) (hd : s.data.toList = encL a0 a1 a2 a3 ++ r) :
    decS s = (a0, a1, a2, a3, 16 + (a3.size : Int), 0) := by
  obtain ⟨g0, g1, g1', g2, g3⟩ := valid_size hv
  have hlen := encL_len (a1 := a1) (a3 := a3) g0 g2
  have hsz : s.size = 16 + a3.size + r.length := by rw [← size_data, hd, List.length_append, hlen]
  have l0 : a0.data.toList.length = 4 := by rw [size_data]; exact g0
  have l2 : a2.data.toList.length = a2.size := size_data a2
  have l3 : a3.data.toList.length = a3.size := size_data a3
  have hn : nS s = 16 + (a3.size : Int) := enc_nS hv (fun j h4 h8 => by
    rw [bt_list, hd, Int.toNat_natCast, getD_left _ _ _ (by rw [hlen]; omega)])
  have hN : (nS s).toNat = 16 + a3.size := by rw [hn]; omega
  have e0 : s.extract 0 4 = a0 := by
    refine ba_ext ?_
    rw [Lib.extract_data, hd, List.drop_zero, Nat.sub_zero]
    unfold encL
    rw [List.append_assoc, take_left l0]
  have e1 : bt s 8 = a1 := by
    rw [bt_list, hd, getD_left _ _ _ (by rw [hlen]; show 8 < _; omega)]
    show (((encL a0 a1 a2 a3).getD 8 0).toNat : Int) = a1
    unfold encL
    rw [getD_right _ _ _ (by omega), l0, getD_right _ _ _ (by show 4 ≤ 8 - 4; omega)]
    show ((UInt8.ofNat (a1 % 256).toNat).toNat : Int) = a1
    rw [byte_toNat (by omega) (by omega)]
    omega
  have l10 : (a0.data.toList ++ (wl (16 + (a3.size : Int)) ++ [UInt8.ofNat (a1 % 256).toNat, UInt8.ofNat (sumT a0 a1 a2 a3).toNat])).length = 10 := by
    rw [List.length_append, List.length_append, l0]; rfl
  have hd10 : s.data.toList = (a0.data.toList ++ (wl (16 + (a3.size : Int)) ++ [UInt8.ofNat (a1 % 256).toNat, UInt8.ofNat (sumT a0 a1 a2 a3).toNat])) ++ ((a2.data.toList ++ List.replicate (6 - a2.size) 0) ++ (a3.data.toList ++ r)) := by
    rw [hd]
    unfold encL
    simp only [List.append_assoc, List.cons_append, List.nil_append]
  have l6 : (a2.data.toList ++ List.replicate (6 - a2.size) (0 : UInt8)).length = 6 := by
    rw [List.length_append, List.length_replicate, l2]; omega
  have e2 : trimS (s.extract 10 16) = a2 := by
    refine ba_ext ?_
    unfold trimS
    show Lib.trimRightB (s.extract 10 16).data.toList 0 = _
    rw [Lib.extract_data, hd10, drop_left l10, take_left l6, trim_zeros, trim_id (valid_oem hv)]
  have e3 : s.extract 16 (nS s).toNat = a3 := by
    refine ba_ext ?_
    rw [Lib.extract_data, hN, hd10, show (16 : Nat) = 10 + 6 from rfl, ← List.drop_drop, drop_left l10, drop_left l6, take_left (by rw [l3]; omega)]
  have e4 : sumS (s.extract 0 (nS s).toNat) = 0 := by
    unfold sumS
    rw [Lib.extract_data, hN, hd, List.drop_zero, Nat.sub_zero, take_left hlen]
    exact enc_sum a0 a1 a2 a3
  unfold decS
  rw [if_neg (by omega), e0, e1, e2, e3, valid_sig hv, if_neg (show ¬ (true = false ∨ nS s < 16 ∨ 65552 < nS s) by rintro (h | h | h); cases h; omega; omega), if_neg (by omega), if_neg (fun h => h e4), hn]
theorem sdtRoundTrip_f {a0 : ByteArray} {a1 : Int} {a2 a3 : ByteArray} (h : TabOk a0 a1 a2 a3) (b : ByteArray) (hb : b.size ≤ 140737488351232) : ∃ k, platformfwlaw07_SdtRoundTrip.f k a0 a1 a2 a3 b = some true := by
  refine ⟨70020 + a0.size, ?_⟩
  have ht := table_ok h
  have h0 := @tab_size0 a0 a1 a2 a3
  unfold platformfwlaw07_SdtRoundTrip.f
  rw [table_f h, Option.bind_some]
  generalize Given.tabOf a0 a1 a2 a3 = t at *
  obtain ⟨b0, b1, b2, b3⟩ := t
  rw [rvalid_f b0 b1 b2 b3 _ ht.s2 (by omega), Option.bind_some]
  cases hv : validB b0 b1 b2 b3
  · rw [if_neg Bool.false_ne_true, awake_f _ (by omega), Option.bind_some]
  · obtain ⟨g0, g1, g1', g2, g3⟩ := valid_size hv
    have hsz := enc_size (a1 := b1) (a3 := b3) g0 g2
    have hk0 : b0.size < 70020 + a0.size := by omega
    have hdec : decS (encS b0 b1 b2 b3 ++ b) = (b0, b1, b2, b3, 16 + (b3.size : Int), 0) := decode_back hv _ b.data.toList (by rw [Joins.data_append, enc_data])
    have hsum : sumS (encS b0 b1 b2 b3) = 0 := by unfold sumS; rw [enc_data]; exact enc_sum _ _ _ _
    have hw : wrap64 (16 + (b3.size : Int)) = 16 + (b3.size : Int) := w64 (by omega) (by omega)
    have henc := encode_any ht (70020 + a0.size) (by omega) hk0
    rw [hv, if_pos rfl] at henc
    generalize encS b0 b1 b2 b3 = S at *
    rw [if_pos rfl, henc, Option.bind_some]
    dsimp only
    clear henc
    rw [if_pos (by omega), decode_f _ (by rw [ByteArray.size_append]; omega) _ (by omega), hdec, Option.bind_some]
    dsimp only
    rw [awake_f _ (by omega), Option.bind_some, if_pos rfl, if_pos rfl, if_pos rfl, if_pos (by rw [beq_self_eq_true, beq_self_eq_true, beq_self_eq_true, beq_self_eq_true]; rfl), if_pos (by omega), if_pos hw.symm, sum_f _ (by omega) _ (by omega), Option.bind_some, hsum]
    rfl
end Go.Proofs.YtkpaglpophfeeaaDoor.Sp
