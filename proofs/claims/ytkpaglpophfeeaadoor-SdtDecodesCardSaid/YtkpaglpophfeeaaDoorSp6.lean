import Derived.Test.YtkpaglpophfeeaaDoorSp5
import Derived.Lib.SmallJoins
namespace Go.Proofs.YtkpaglpophfeeaaDoor.Sp
open Go.RowKit Go.Proofs.YtkpaglpophfeeaaDoorW.PrintWords Go.Proofs.YtkpaglpophfeeaaDoorW.PrintLast Go.Proofs.YtkpaglpophfeeaaDoorW.PrintMore Go.Proofs.YtkpaglpophfeeaaDoor.PA
set_option linter.unusedVariables false
set_option linter.unusedSimpArgs false

/-! ### The bytes of an encoding -/
theorem ba_ext {a b : ByteArray} (h : a.data.toList = b.data.toList) : a = b := by
  obtain ⟨a⟩ := a
  obtain ⟨b⟩ := b
  congr
  exact Array.toList_inj.1 h
theorem byte_toNat {x : Int} (h0 : 0 ≤ x) (h : x < 256) : ((UInt8.ofNat x.toNat).toNat : Int) = x := by
  rw [UInt8.toNat_ofNat']
  omega
def wl (n : Int) : List UInt8 := [UInt8.ofNat (n % 256).toNat, UInt8.ofNat (n / 256 % 256).toNat, UInt8.ofNat (n / 65536 % 256).toNat, UInt8.ofNat (n / 16777216 % 256).toNat]
theorem word_data (n : Int) : (wordS n).data.toList = wl n := by unfold wordS wl; rw [strOfNums_data]; rfl
theorem one_data (n : Int) : (strOfNums [n]).data.toList = [UInt8.ofNat n.toNat] := by rw [strOfNums_data]; rfl
theorem zer_data (n : Nat) : (zer n).data.toList = List.replicate n 0 := rfl
def sumT (a0 : ByteArray) (a1 : Int) (a2 a3 : ByteArray) : Int := (-sumS (headS a0 a1 a3 ++ tailS a2 a3)) % 256
def encL (a0 : ByteArray) (a1 : Int) (a2 a3 : ByteArray) : List UInt8 :=
  a0.data.toList ++ (wl (16 + (a3.size : Int)) ++ (UInt8.ofNat (a1 % 256).toNat :: UInt8.ofNat (sumT a0 a1 a2 a3).toNat :: (a2.data.toList ++ (List.replicate (6 - a2.size) 0 ++ a3.data.toList))))
theorem enc_data (a0 : ByteArray) (a1 : Int) (a2 a3 : ByteArray) : (encS a0 a1 a2 a3).data.toList = encL a0 a1 a2 a3 := by
  unfold encS encL headS tailS sumT headS tailS
  simp only [Joins.data_append, word_data, one_data, zer_data, List.append_assoc, List.cons_append, List.nil_append]
theorem sumL_zeros : ∀ n, sumL (List.replicate n 0) = 0
  | 0 => rfl
  | n + 1 => by rw [List.replicate_succ]; show ((0 : UInt8).toNat : Int) + _ = 0; rw [sumL_zeros n]; rfl
theorem sumT_bd (a0 : ByteArray) (a1 : Int) (a2 a3 : ByteArray) : 0 ≤ sumT a0 a1 a2 a3 ∧ sumT a0 a1 a2 a3 < 256 := by unfold sumT; omega
theorem enc_sum (a0 : ByteArray) (a1 : Int) (a2 a3 : ByteArray) : sumL (encL a0 a1 a2 a3) % 256 = 0 := by
  have hb := sumT_bd a0 a1 a2 a3
  have h : sumS (headS a0 a1 a3 ++ tailS a2 a3) = (sumL a0.data.toList + (sumL (wl (16 + (a3.size : Int))) + (((UInt8.ofNat (a1 % 256).toNat).toNat : Int) + (sumL a2.data.toList + (sumL (List.replicate (6 - a2.size) 0) + sumL a3.data.toList))))) % 256 := by
    unfold sumS headS tailS
    simp only [Joins.data_append, word_data, one_data, zer_data, sumL_append, List.append_assoc]
    show (sumL a0.data.toList + (sumL (wl (16 + (a3.size : Int))) + ((((UInt8.ofNat (a1 % 256).toNat).toNat : Int) + 0) + _))) % 256 = _
    rw [Int.add_zero]
  have e : sumT a0 a1 a2 a3 = (-sumS (headS a0 a1 a3 ++ tailS a2 a3)) % 256 := rfl
  rw [h] at e
  unfold encL
  simp only [sumL_append]
  show (sumL a0.data.toList + (sumL (wl (16 + (a3.size : Int))) + (((UInt8.ofNat (a1 % 256).toNat).toNat : Int) + (((UInt8.ofNat (sumT a0 a1 a2 a3).toNat).toNat : Int) + sumL (a2.data.toList ++ (List.replicate (6 - a2.size) 0 ++ a3.data.toList)))))) % 256 = 0
  simp only [sumL_append]
  rw [byte_toNat hb.1 hb.2, e]
  omega
theorem num4_word {n : Int} (h0 : 0 ≤ n) (h : n < 4294967296) : num4 (((wl n).getD 0 0).toNat : Int) (((wl n).getD 1 0).toNat : Int) (((wl n).getD 2 0).toNat : Int) (((wl n).getD 3 0).toNat : Int) = n := by
  show num4 ((UInt8.ofNat (n % 256).toNat).toNat : Int) ((UInt8.ofNat (n / 256 % 256).toNat).toNat : Int) ((UInt8.ofNat (n / 65536 % 256).toNat).toNat : Int) ((UInt8.ofNat (n / 16777216 % 256).toNat).toNat : Int) = n
  rw [byte_toNat (by omega) (by omega), byte_toNat (by omega) (by omega), byte_toNat (by omega) (by omega), byte_toNat (by omega) (by omega)]
  unfold num4
  omega
theorem getD_right (a b : List UInt8) (i : Nat) (h : a.length ≤ i) : (a ++ b).getD i 0 = b.getD (i - a.length) 0 := by
  rw [List.getD_eq_getElem?_getD, List.getD_eq_getElem?_getD, List.getElem?_append_right h]
theorem getD_left (a b : List UInt8) (i : Nat) (h : i < a.length) : (a ++ b).getD i 0 = a.getD i 0 := by
  rw [List.getD_eq_getElem?_getD, List.getD_eq_getElem?_getD, List.getElem?_append_left h]
/-- What stands at the start of s. -/
def Starts (s : ByteArray) (l : List UInt8) : Prop := ∃ r, s.data.toList = l ++ r
theorem Starts.bt {s : ByteArray} {l : List UInt8} (h : Starts s l) (i : Int) (hi : i.toNat < l.length) : bt s i = ((l.getD i.toNat 0).toNat : Int) := by
  obtain ⟨r, hr⟩ := h
  rw [bt_list, hr, getD_left _ _ _ hi]
variable {a0 : ByteArray} {a1 : Int} {a2 a3 : ByteArray}
theorem encL_len (h0 : a0.size = 4) (h2 : a2.size ≤ 6) : (encL a0 a1 a2 a3).length = 16 + a3.size := by
  rw [← enc_data, size_data, enc_size h0 h2]
theorem encL_word (h0 : a0.size = 4) (j : Nat) (hj : j < 4) : (encL a0 a1 a2 a3).getD (4 + j) 0 = (wl (16 + (a3.size : Int))).getD j 0 := by
  have hl : a0.data.toList.length = 4 := by rw [size_data]; exact h0
  unfold encL
  rw [getD_right _ _ _ (by omega), hl, show 4 + j - 4 = j by omega, getD_left _ _ _ (by show j < 4; exact hj)]
theorem enc_nS {s : ByteArray} (hv : validB a0 a1 a2 a3 = true) (hs : ∀ i : Nat, 4 ≤ i → i < 8 → bt s (i : Int) = (((encL a0 a1 a2 a3).getD i 0).toNat : Int)) : nS s = 16 + (a3.size : Int) := by
  obtain ⟨g0, g1, g1', g2, g3⟩ := valid_size hv
  unfold nS
  have h4 := hs 4 (by omega) (by omega)
  have h5 := hs 5 (by omega) (by omega)
  have h6 := hs 6 (by omega) (by omega)
  have h7 := hs 7 (by omega) (by omega)
  have k4 := encL_word (a1 := a1) (a2 := a2) (a3 := a3) g0 0 (by omega)
  have k5 := encL_word (a1 := a1) (a2 := a2) (a3 := a3) g0 1 (by omega)
  have k6 := encL_word (a1 := a1) (a2 := a2) (a3 := a3) g0 2 (by omega)
  have k7 := encL_word (a1 := a1) (a2 := a2) (a3 := a3) g0 3 (by omega)
  have e4 : bt s 4 = (((wl (16 + (a3.size : Int))).getD 0 0).toNat : Int) := h4.trans (by rw [k4])
  have e5 : bt s 5 = (((wl (16 + (a3.size : Int))).getD 1 0).toNat : Int) := h5.trans (by rw [k5])
  have e6 : bt s 6 = (((wl (16 + (a3.size : Int))).getD 2 0).toNat : Int) := h6.trans (by rw [k6])
  have e7 : bt s 7 = (((wl (16 + (a3.size : Int))).getD 3 0).toNat : Int) := h7.trans (by rw [k7])
  rw [e4, e5, e6, e7, num4_word (by omega) (by omega)]
/-! ### SdtDetectsChanges -/
def chg (s : ByteArray) (i : Nat) (c : Int) : ByteArray := (s.extract 0 i ++ strOfNums [c]) ++ s.extract (i + 1) s.size
theorem chg_data (s : ByteArray) (i : Nat) (c : Int) (h : i < s.size) : (chg s i c).data.toList = s.data.toList.take i ++ (UInt8.ofNat c.toNat :: s.data.toList.drop (i + 1)) := by
  unfold chg
  rw [Joins.data_append, Joins.data_append, one_data, Lib.extract_data, Lib.extract_to_end, List.drop_zero, Nat.sub_zero, List.append_assoc]
  rfl
theorem chg_size (s : ByteArray) (i : Nat) (c : Int) (h : i < s.size) : (chg s i c).size = s.size := by
  rw [← size_data, chg_data s i c h, List.length_append, List.length_take, List.length_cons, List.length_drop, size_data]
  omega
theorem chg_bt (s : ByteArray) (i : Nat) (c : Int) (h : i < s.size) (j : Nat) (hj : j ≠ i) : bt (chg s i c) (j : Int) = bt s (j : Int) := by
  have hl : (s.data.toList.take i).length = i := by rw [List.length_take, size_data]; omega
  rw [bt_list, bt_list, chg_data s i c h, Int.toNat_natCast]
  by_cases hlt : j < i
  · rw [getD_left _ _ _ (by omega), List.getD_eq_getElem?_getD, List.getElem?_take_of_lt hlt, List.getD_eq_getElem?_getD]
  · rw [getD_right _ _ _ (by omega), hl]
    obtain ⟨m, rfl⟩ : ∃ m, j = i + 1 + m := ⟨j - i - 1, by omega⟩
    rw [show i + 1 + m - i = m + 1 by omega, List.getD_cons_succ, List.getD_eq_getElem?_getD, List.getElem?_drop, List.getD_eq_getElem?_getD]
theorem chg_sum (s : ByteArray) (i : Nat) (c : Int) (c0 : 0 ≤ c) (c1 : c < 256) (h : i < s.size) : sumL (chg s i c).data.toList = sumL s.data.toList - bt s (i : Int) + c := by
  obtain ⟨x, hx, hl⟩ := drop_bt s (i : Int) (by omega) (by omega)
  rw [Int.toNat_natCast] at hl
  rw [show ((i : Int) + 1).toNat = i + 1 by omega] at hl
  have h2 : sumL s.data.toList = sumL (s.data.toList.take i) + (bt s (i : Int) + sumL (s.data.toList.drop (i + 1))) := by
    conv => lhs; rw [← List.take_append_drop i s.data.toList]
    rw [sumL_append, hl, hx]; rfl
  rw [chg_data s i c h, sumL_append]
  show sumL _ + (((UInt8.ofNat c.toNat).toNat : Int) + _) = _
  rw [byte_toNat c0 c1, h2]
  omega
theorem detects {s : ByteArray} (hv : validB a0 a1 a2 a3 = true) (hs : s = encS a0 a1 a2 a3) (i : Nat) (hi : i < s.size) (h48 : i < 4 ∨ 8 ≤ i) (c : Int) (c0 : 0 ≤ c) (c1 : c < 256) (hc : bt s (i : Int) ≠ c) : (decS (chg s i c)).2.2.2.2.2 ≠ 0 := by
  obtain ⟨g0, g1, g1', g2, g3⟩ := valid_size hv
  have hd : s.data.toList = encL a0 a1 a2 a3 := by rw [hs, enc_data]
  have hsz : s.size = 16 + a3.size := by rw [hs, enc_size g0 g2]
  have hn : nS (chg s i c) = 16 + (a3.size : Int) := enc_nS hv (fun j h4 h8 => by
    rw [chg_bt s i c hi j (by omega), bt_list, hd, Int.toNat_natCast])
  have hsz2 := chg_size s i c hi
  have hsum : sumS ((chg s i c).extract 0 (nS (chg s i c)).toNat) ≠ 0 := by
    have he : (chg s i c).extract 0 (nS (chg s i c)).toNat = chg s i c := by
      refine ba_ext ?_
      rw [hn, Lib.extract_data, List.drop_zero, Nat.sub_zero, List.take_of_length_le (by rw [size_data]; omega)]
    rw [he]
    unfold sumS
    rw [chg_sum s i c c0 c1 hi, hd]
    have h1 := enc_sum a0 a1 a2 a3
    have h2 := bt_range s (i : Int)
    omega
  unfold decS
  rw [if_neg (by omega)]
  by_cases h1 : sigB ((chg s i c).extract 0 4) = false ∨ nS (chg s i c) < 16 ∨ 65552 < nS (chg s i c)
  · rw [if_pos h1]; show (3 : Int) ≠ 0; decide
  · rw [if_neg h1, if_neg (by omega), if_pos hsum]; show (5 : Int) ≠ 0; decide
end Go.Proofs.YtkpaglpophfeeaaDoor.Sp
