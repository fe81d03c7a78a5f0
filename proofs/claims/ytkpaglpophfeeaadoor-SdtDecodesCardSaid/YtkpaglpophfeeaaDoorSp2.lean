import Derived.Test.YtkpaglpophfeeaaDoorSp1
import Derived.Test.YtkpaglpophfeeaaDoorPAx3
import Derived.Test.YtkpaglpophfeeaaDoorPAx4
import Derived.Test.YtkpaglpophfeeaaDoorPAx6
namespace Go.Proofs.YtkpaglpophfeeaaDoor.Sp
open Go.RowKit Go.Proofs.YtkpaglpophfeeaaDoorW.PrintWords Go.Proofs.YtkpaglpophfeeaaDoorW.PrintLast Go.Proofs.YtkpaglpophfeeaaDoorW.PrintMore Go.Proofs.YtkpaglpophfeeaaDoor.PA
set_option linter.unusedVariables false
set_option linter.unusedSimpArgs false

theorem rsum_loop (s : ByteArray) (hn : s.size ≤ 9223372036854775807) (d : Nat) : ∀ (k : Nat) (i acc : Int), 0 ≤ i → (s.size : Int) - i = d → d < k → 0 ≤ acc → acc < 256 →
    platformfwref07_Sum.l0 k s acc i = some ((acc + sumL (s.data.toList.drop i.toNat)) % 256) := by
  induction d with
  | zero =>
    intro k i acc h0 hd hk a0 a1
    obtain ⟨k, rfl⟩ : ∃ m, k = m + 1 := ⟨k - 1, by omega⟩
    simp only [platformfwref07_Sum.l0]
    rw [if_neg (by omega), drop_end s i (by omega)]
    show some acc = some ((acc + 0) % 256)
    rw [show (acc + 0) % 256 = acc by omega]
  | succ d ih =>
    intro k i acc h0 hd hk a0 a1
    obtain ⟨k, rfl⟩ : ∃ m, k = m + 1 := ⟨k - 1, by omega⟩
    obtain ⟨c, hc, hl⟩ := drop_bt s i h0 (by omega)
    simp only [platformfwref07_Sum.l0]
    rw [if_pos (by omega), if_pos h0, w1 h0 (n := s.size) (by omega) hn, ih k (i + 1) _ (by omega) (by omega) (by omega) (by omega) (by omega), hl, hc]
    show some _ = some ((acc + ((c.toNat : Int) + sumL _)) % 256)
    congr 1
    omega
theorem rsum_f (s : ByteArray) (hn : s.size ≤ 9223372036854775807) (k : Nat) (hk : s.size < k) : platformfwref07_Sum.f k s = some (sumS s) := by
  unfold platformfwref07_Sum.f sumS
  rw [rsum_loop s hn s.size k 0 0 (by omega) (by omega) hk (by omega) (by omega)]
  rw [show (0 : Int).toNat = 0 by rfl, List.drop_zero]
  congr 1
  omega
/-! ### Encode -/
def zer (n : Nat) : ByteArray := ⟨(List.replicate n 0).toArray⟩
theorem zer_size (n : Nat) : (zer n).size = n := by unfold zer; simp [ByteArray.size]
def wordS (n : Int) : ByteArray := strOfNums [n % 256, n / 256 % 256, n / 65536 % 256, n / 16777216 % 256]
def headS (a0 : ByteArray) (a1 : Int) (a3 : ByteArray) : ByteArray := (a0 ++ wordS (16 + (a3.size : Int))) ++ strOfNums [a1 % 256]
def tailS (a2 a3 : ByteArray) : ByteArray := (a2 ++ zer (6 - a2.size)) ++ a3
def encS (a0 : ByteArray) (a1 : Int) (a2 a3 : ByteArray) : ByteArray := (headS a0 a1 a3 ++ strOfNums [(-sumS (headS a0 a1 a3 ++ tailS a2 a3)) % 256]) ++ tailS a2 a3
theorem repeat_zer (n : Nat) : (⟨(Lib.repeatL (⟨#[0]⟩ : ByteArray).data.toList n).toArray⟩ : ByteArray) = zer n := by
  have : ∀ n, Lib.repeatL [(0 : UInt8)] n = List.replicate n 0 := by
    intro n
    induction n with
    | zero => rfl
    | succ n ih => show [0] ++ Lib.repeatL [0] n = _; rw [ih]; rfl
  unfold zer
  rw [show (⟨#[0]⟩ : ByteArray).data.toList = [(0 : UInt8)] from rfl, this]
theorem extract_zer (n : Nat) (h : n ≤ 6) : (⟨#[0, 0, 0, 0, 0, 0]⟩ : ByteArray).extract 0 n = zer n := by
  have : n = 0 ∨ n = 1 ∨ n = 2 ∨ n = 3 ∨ n = 4 ∨ n = 5 ∨ n = 6 := by omega
  rcases this with rfl | rfl | rfl | rfl | rfl | rfl | rfl <;> decide
theorem valid_size {a0 : ByteArray} {a1 : Int} {a2 a3 : ByteArray} (h : validB a0 a1 a2 a3 = true) : a0.size = 4 ∧ 0 ≤ a1 ∧ a1 ≤ 255 ∧ a2.size ≤ 6 ∧ a3.size ≤ 65536 := by
  unfold validB sigB at h
  simp only [Bool.and_eq_true, decide_eq_true_eq] at h
  exact ⟨h.1.2, h.2.1, h.2.2.1, h.2.2.2.1, h.2.2.2.2.2⟩
theorem word_size (n : Int) : (wordS n).size = 4 := by unfold wordS; rw [strOfNums_size]; rfl
theorem one_size (n : Int) : (strOfNums [n]).size = 1 := by rw [strOfNums_size]; rfl
theorem head_size {a0 : ByteArray} {a1 : Int} {a3 : ByteArray} (h : a0.size = 4) : (headS a0 a1 a3).size = 9 := by
  unfold headS; rw [ByteArray.size_append, ByteArray.size_append, word_size, one_size, h]
theorem tail_size {a2 a3 : ByteArray} (h : a2.size ≤ 6) : (tailS a2 a3).size = 6 + a3.size := by
  unfold tailS; rw [ByteArray.size_append, ByteArray.size_append, zer_size]; omega
theorem enc_size {a0 : ByteArray} {a1 : Int} {a2 a3 : ByteArray} (h : a0.size = 4) (h2 : a2.size ≤ 6) : (encS a0 a1 a2 a3).size = 16 + a3.size := by
  unfold encS; rw [ByteArray.size_append, ByteArray.size_append, one_size, head_size h, tail_size h2]; omega
theorem encode_bad {a0 : ByteArray} {a1 : Int} {a2 a3 : ByteArray} (h0 : a0.size ≤ 9223372036854775807) (h2 : a2.size ≤ 9223372036854775807) (k : Nat) (hk : a0.size < k) (hv : validB a0 a1 a2 a3 = false) : sdt_Encode.f k a0 a1 a2 a3 = some (⟨#[]⟩, 1) := by
  unfold sdt_Encode.f
  rw [valid_f a0 a1 a2 a3 k h0 h2 hk, hv]
  rfl
theorem rencode_bad {a0 : ByteArray} {a1 : Int} {a2 a3 : ByteArray} (h2 : a2.size ≤ 9223372036854775807) (k : Nat) (hk : 4 < k) (hv : validB a0 a1 a2 a3 = false) : platformfwref07_Encode.f k a0 a1 a2 a3 = some (⟨#[]⟩, 1) := by
  unfold platformfwref07_Encode.f
  rw [rvalid_f a0 a1 a2 a3 k h2 hk, hv]
  rfl
theorem word_f (n : Int) (h0 : -9223372036854775808 ≤ n) (h1 : n ≤ 9223372036854775807) : sdt_word.f n = some (wordS n) := by
  unfold sdt_word.f wordS
  rw [if_pos ⟨h0, h1⟩]
theorem repeat_f (n : Nat) (h : n ≤ 1000) : strings_Repeat.f (⟨#[0]⟩ : ByteArray) (n : Int) = some (zer n) := by
  unfold strings_Repeat.f
  rw [if_pos ⟨rfl, by omega, by omega⟩, Int.toNat_natCast, repeat_zer]
theorem encS_eq (a0 : ByteArray) (a1 : Int) (a2 a3 : ByteArray) : encS a0 a1 a2 a3 = ((((a0 ++ wordS (16 + (a3.size : Int))) ++ strOfNums [a1 % 256]) ++ strOfNums [(-sumS (((a0 ++ wordS (16 + (a3.size : Int))) ++ strOfNums [a1 % 256]) ++ ((a2 ++ zer (6 - a2.size)) ++ a3))) % 256]) ++ ((a2 ++ zer (6 - a2.size)) ++ a3)) := by
  unfold encS headS tailS
  rfl
theorem encode_ok {a0 : ByteArray} {a1 : Int} {a2 a3 : ByteArray} (k : Nat) (hk : 70000 < k) (hv : validB a0 a1 a2 a3 = true) : sdt_Encode.f k a0 a1 a2 a3 = some (encS a0 a1 a2 a3, 0) := by
  obtain ⟨g0, g1, g1', g2, g3⟩ := valid_size hv
  have hw : wrap64 (16 + (a3.size : Int)) = 16 + (a3.size : Int) := by unfold wrap64; omega
  have hw2 : wrap64 (6 - (a2.size : Int)) = ((6 - a2.size : Nat) : Int) := by unfold wrap64; omega
  have e1 := word_f (16 + (a3.size : Int)) (by omega) (by omega)
  have e2 := repeat_f (6 - a2.size) (by omega)
  have s1 := word_size (16 + (a3.size : Int))
  have s2 := zer_size (6 - a2.size)
  have s3 := one_size (a1 % 256)
  have hs : sdt_Sum.f k (((a0 ++ wordS (16 + (a3.size : Int))) ++ strOfNums [a1 % 256]) ++ ((a2 ++ zer (6 - a2.size)) ++ a3)) = some (sumS (((a0 ++ wordS (16 + (a3.size : Int))) ++ strOfNums [a1 % 256]) ++ ((a2 ++ zer (6 - a2.size)) ++ a3))) :=
    sum_f _ (by simp only [ByteArray.size_append, s1, s2, s3]; omega) k (by simp only [ByteArray.size_append, s1, s2, s3]; omega)
  unfold sdt_Encode.f
  rw [valid_f a0 a1 a2 a3 k (by omega) (by omega) (by omega), hv, Option.bind_some, if_pos rfl, hw, hw2, e1, Option.bind_some, if_pos (by simp only [ByteArray.size_append, s1, s2, s3, one_size]; omega), Option.bind_some, if_pos (by simp only [ByteArray.size_append, s1, s2, s3, one_size]; omega), e2, Option.bind_some, if_pos (by simp only [ByteArray.size_append, s1, s2, s3, one_size]; omega), if_pos (by simp only [ByteArray.size_append, s1, s2, s3, one_size]; omega), if_pos (by simp only [ByteArray.size_append, s1, s2, s3, one_size]; omega), hs, Option.bind_some, Option.bind_some, if_pos (by simp only [ByteArray.size_append, s1, s2, s3, one_size]; omega), if_pos (by simp only [ByteArray.size_append, s1, s2, s3, one_size]; omega), encS_eq]
theorem rencode_ok {a0 : ByteArray} {a1 : Int} {a2 a3 : ByteArray} (k : Nat) (hk : 70000 < k) (hv : validB a0 a1 a2 a3 = true) : platformfwref07_Encode.f k a0 a1 a2 a3 = some (encS a0 a1 a2 a3, 0) := by
  obtain ⟨g0, g1, g1', g2, g3⟩ := valid_size hv
  unfold platformfwref07_Encode.f
  rw [rvalid_f a0 a1 a2 a3 k (by omega) (by omega), hv]
  simp only [Option.bind_some, if_true]
  have hw : wrap64 (16 + (a3.size : Int)) = 16 + (a3.size : Int) := by unfold wrap64; omega
  have hw2 : wrap64 (6 - (a2.size : Int)) = ((6 - a2.size : Nat) : Int) := by unfold wrap64; omega
  have e1 : platformfwref07_four.f (16 + (a3.size : Int)) = some (wordS (16 + (a3.size : Int))) := rfl
  have e2 : (⟨#[0, 0, 0, 0, 0, 0]⟩ : ByteArray).extract 0 (((6 - a2.size : Nat) : Int)).toNat = zer (6 - a2.size) := by rw [Int.toNat_natCast]; exact extract_zer _ (by omega)
  rw [hw, hw2, e1, e2]
  simp only [Option.bind_some]
  have s1 := word_size (16 + (a3.size : Int))
  have s2 := zer_size (6 - a2.size)
  have s3 := one_size (a1 % 256)
  have hs : platformfwref07_Sum.f k (((a0 ++ wordS (16 + (a3.size : Int))) ++ strOfNums [a1 % 256]) ++ ((a2 ++ zer (6 - a2.size)) ++ a3)) = some (sumS (((a0 ++ wordS (16 + (a3.size : Int))) ++ strOfNums [a1 % 256]) ++ ((a2 ++ zer (6 - a2.size)) ++ a3))) :=
    rsum_f _ (by simp only [ByteArray.size_append, s1, s2, s3]; omega) k (by simp only [ByteArray.size_append, s1, s2, s3]; omega)
  rw [hs, encS_eq]
  generalize sumS (((a0 ++ wordS (16 + (a3.size : Int))) ++ strOfNums [a1 % 256]) ++ ((a2 ++ zer (6 - a2.size)) ++ a3)) = sm at *
  simp only [Option.bind_some, ByteArray.size_append, s1, s2, s3, one_size]
  repeat rw [if_pos (by omega)]
end Go.Proofs.YtkpaglpophfeeaaDoor.Sp
