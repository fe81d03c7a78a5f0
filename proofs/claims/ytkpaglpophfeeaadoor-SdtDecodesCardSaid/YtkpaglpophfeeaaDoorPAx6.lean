-- Written by a program (a print with some contracts given by this session's own texts).
import Derived.Test.YtkpaglpophfeeaaDoorPAx0
import Derived.Test.YtkpaglpophfeeaaDoorPAx4
import Derived.Test.YtkpaglpophfeeaaDoorPAx5
namespace Go.Proofs.YtkpaglpophfeeaaDoor.PA
open Go.RowKit Go.Proofs.YtkpaglpophfeeaaDoorW.PrintWords Go.Proofs.YtkpaglpophfeeaaDoorW.PrintLast Go.Proofs.YtkpaglpophfeeaaDoorW.PrintMore
attribute [local go_sem] max2_int min2_int max_two min_two max_three min_three max_four min_four   -- for this text's walks alone
set_option linter.unusedVariables false
set_option linter.unusedSimpArgs false

/-! ### platformfwref07_Encode: function 17 -/
def platformfwref07_Encode.f (k : Nat) (a0_0 : ByteArray) (a0_1 : Int) (a0_2 : ByteArray) (a0_3 : ByteArray) : Option (ByteArray × Int) := (platformfwref07_Valid.f k a0_0 a0_1 a0_2 a0_3).bind fun t137 => (if t137 = true then ((platformfwref07_four.f (wrap64 (16 + (a0_3.size : Int)))).bind fun t138 => (if a0_0.size + t138.size ≤ 9223372036854775807 then ((some (([(a0_1) % 256] : List Int) : List Int)).bind fun y139 => (if (a0_0 ++ t138).size + (strOfNums y139).size ≤ 9223372036854775807 then (if 0 ≤ (wrap64 (6 - (a0_2.size : Int))) then (if (wrap64 (6 - (a0_2.size : Int))) ≤ 6 then (if a0_2.size + ((⟨#[0, 0, 0, 0, 0, 0]⟩ : ByteArray).extract 0 ((wrap64 (6 - (a0_2.size : Int))) : Int).toNat).size ≤ 9223372036854775807 then (if (a0_2 ++ ((⟨#[0, 0, 0, 0, 0, 0]⟩ : ByteArray).extract 0 ((wrap64 (6 - (a0_2.size : Int))) : Int).toNat)).size + a0_3.size ≤ 9223372036854775807 then (if ((a0_0 ++ t138) ++ (strOfNums y139)).size + ((a0_2 ++ ((⟨#[0, 0, 0, 0, 0, 0]⟩ : ByteArray).extract 0 ((wrap64 (6 - (a0_2.size : Int))) : Int).toNat)) ++ a0_3).size ≤ 9223372036854775807 then ((platformfwref07_Sum.f k (((a0_0 ++ t138) ++ (strOfNums y139)) ++ ((a0_2 ++ ((⟨#[0, 0, 0, 0, 0, 0]⟩ : ByteArray).extract 0 ((wrap64 (6 - (a0_2.size : Int))) : Int).toNat)) ++ a0_3))).bind fun t142 => ((some (([(-t142) % 256] : List Int) : List Int)).bind fun y143 => (if ((a0_0 ++ t138) ++ (strOfNums y139)).size + (strOfNums y143).size ≤ 9223372036854775807 then (if (((a0_0 ++ t138) ++ (strOfNums y139)) ++ (strOfNums y143)).size + ((a0_2 ++ ((⟨#[0, 0, 0, 0, 0, 0]⟩ : ByteArray).extract 0 ((wrap64 (6 - (a0_2.size : Int))) : Int).toNat)) ++ a0_3).size ≤ 9223372036854775807 then (some ((((a0_0 ++ t138) ++ (strOfNums y139)) ++ (strOfNums y143)) ++ ((a0_2 ++ ((⟨#[0, 0, 0, 0, 0, 0]⟩ : ByteArray).extract 0 ((wrap64 (6 - (a0_2.size : Int))) : Int).toNat)) ++ a0_3), 0)) else (none)) else (none)))) else (none)) else (none)) else (none)) else (none)) else (none)) else (none))) else (none))) else (some ((⟨#[]⟩ : ByteArray), 1)))
theorem platformfwref07_Encode.mono : ∀ a0 a1 a2 a3 k, LeO (platformfwref07_Encode.f k a0 a1 a2 a3) (platformfwref07_Encode.f (k + 1) a0 a1 a2 a3) := by
  intro a0 a1 a2 a3 k
  unfold platformfwref07_Encode.f
  repeat' first
      | (with_reducible exact platformfwref07_Sum.mono _ _)
      | (with_reducible exact platformfwref07_Valid.mono _ _ _ _ _)
      | (with_reducible exact LeO.refl _)
      | (with_reducible exact LeO.none _)
      | (with_reducible refine LeO.ite ?_ ?_)
      | (with_reducible refine LeO.bind ?_ (fun _ => ?_))
      | exact platformfwref07_Sum.mono _ _
      | exact platformfwref07_Valid.mono _ _ _ _ _
      | exact LeO.none _
      | refine LeO.ite ?_ ?_
      | refine LeO.bind ?_ (fun _ => ?_)
def platformfwref07_Encode.T3 : Bool × List (List Nat × List Nat) := (true, [([], []), ([0], [0]), ([], []), ([2], [2]), ([3], [3]), ([4], [4]), ([5], [5]), ([1, 6], [1, 6]), ([], []), ([8], [8]), ([9], [9]), ([10], [10]), ([11], [11]), ([7, 12], [7, 12]), ([13, 6, 0, 1, 2, 3, 4, 5, 6, 7, 8, 9, 10, 11, 12, 13], [13])])
def platformfwref07_Encode.B3 : List Nat := [0, 1, 0, 4, 12, 28, 60, 127, 0, 256, 768, 1792, 3840, 8191, 16383]
theorem platformfwref07_Encode.tab3 : rtab .any (opsOf Tryd.f17 3) = platformfwref07_Encode.T3 := by kernel_rfl
theorem platformfwref07_Encode.bits3 : waitsOk platformfwref07_Encode.T3.2 platformfwref07_Encode.B3 = true := by kernel_rfl
def platformfwref07_Encode.T4 : Bool × List (List Nat × List Nat) := (true, [([], []), ([0], [0]), ([], []), ([2], [2]), ([3], [3]), ([4], [4]), ([5], [5]), ([1, 6], [1, 6]), ([], []), ([8], [8]), ([7, 9], [7, 9]), ([10, 0, 1, 2, 3, 4, 5, 6, 7, 8, 9, 10], [10])])
def platformfwref07_Encode.B4 : List Nat := [0, 1, 0, 4, 12, 28, 60, 127, 0, 256, 1023, 2047]
theorem platformfwref07_Encode.tab4 : rtab .any (opsOf Tryd.f17 4) = platformfwref07_Encode.T4 := by kernel_rfl
theorem platformfwref07_Encode.bits4 : waitsOk platformfwref07_Encode.T4.2 platformfwref07_Encode.B4 = true := by kernel_rfl
set_option maxHeartbeats 8000000 in
set_option maxRecDepth 100000 in
theorem platformfwref07_Encode.calls (k : Nat) (a0_0 : ByteArray) (a0_1 : Int) (a0_2 : ByteArray) (a0_3 : ByteArray) (r1 : ByteArray) (r2 : Int) (w : World) (h : platformfwref07_Encode.f k a0_0 a0_1 a0_2 a0_3 = some (r1, r2)) :
    Calls Tryd.prog 17 #[.agg #[.string a0_0, .int .i64 a0_1, .string a0_2, .string a0_3]] w fun e w' => e = .returned (.tuple #[.string r1, .int .i64 r2]) ∧ Below w.heap.size w w' := by
  have hu23 := Tryd.underlying23
  have HB := Aside0.mk (Below.refl w.heap.size w)
  have H : ((platformfwref07_Valid.f k a0_0 a0_1 a0_2 a0_3).bind fun t137 => (if t137 = true then ((platformfwref07_four.f (wrap64 (16 + (a0_3.size : Int)))).bind fun t138 => (if a0_0.size + t138.size ≤ 9223372036854775807 then ((some (([(a0_1) % 256] : List Int) : List Int)).bind fun y139 => (if (a0_0 ++ t138).size + (strOfNums y139).size ≤ 9223372036854775807 then (if 0 ≤ (wrap64 (6 - (a0_2.size : Int))) then (if (wrap64 (6 - (a0_2.size : Int))) ≤ 6 then (if a0_2.size + ((⟨#[0, 0, 0, 0, 0, 0]⟩ : ByteArray).extract 0 ((wrap64 (6 - (a0_2.size : Int))) : Int).toNat).size ≤ 9223372036854775807 then (if (a0_2 ++ ((⟨#[0, 0, 0, 0, 0, 0]⟩ : ByteArray).extract 0 ((wrap64 (6 - (a0_2.size : Int))) : Int).toNat)).size + a0_3.size ≤ 9223372036854775807 then (if ((a0_0 ++ t138) ++ (strOfNums y139)).size + ((a0_2 ++ ((⟨#[0, 0, 0, 0, 0, 0]⟩ : ByteArray).extract 0 ((wrap64 (6 - (a0_2.size : Int))) : Int).toNat)) ++ a0_3).size ≤ 9223372036854775807 then ((platformfwref07_Sum.f k (((a0_0 ++ t138) ++ (strOfNums y139)) ++ ((a0_2 ++ ((⟨#[0, 0, 0, 0, 0, 0]⟩ : ByteArray).extract 0 ((wrap64 (6 - (a0_2.size : Int))) : Int).toNat)) ++ a0_3))).bind fun t142 => ((some (([(-t142) % 256] : List Int) : List Int)).bind fun y143 => (if ((a0_0 ++ t138) ++ (strOfNums y139)).size + (strOfNums y143).size ≤ 9223372036854775807 then (if (((a0_0 ++ t138) ++ (strOfNums y139)) ++ (strOfNums y143)).size + ((a0_2 ++ ((⟨#[0, 0, 0, 0, 0, 0]⟩ : ByteArray).extract 0 ((wrap64 (6 - (a0_2.size : Int))) : Int).toNat)) ++ a0_3).size ≤ 9223372036854775807 then (some ((((a0_0 ++ t138) ++ (strOfNums y139)) ++ (strOfNums y143)) ++ ((a0_2 ++ ((⟨#[0, 0, 0, 0, 0, 0]⟩ : ByteArray).extract 0 ((wrap64 (6 - (a0_2.size : Int))) : Int).toNat)) ++ a0_3), 0)) else (none)) else (none)))) else (none)) else (none)) else (none)) else (none)) else (none)) else (none))) else (none))) else (some ((⟨#[]⟩ : ByteArray), 1)))) = some (r1, r2) := h
  clear h
  replace H := Option.bind_eq_some_iff.mp H
  obtain ⟨t137, A20, H⟩ := H
  replace H : (if t137 = true then ((platformfwref07_four.f (wrap64 (16 + (a0_3.size : Int)))).bind fun t138 => (if a0_0.size + t138.size ≤ 9223372036854775807 then ((some (([(a0_1) % 256] : List Int) : List Int)).bind fun y139 => (if (a0_0 ++ t138).size + (strOfNums y139).size ≤ 9223372036854775807 then (if 0 ≤ (wrap64 (6 - (a0_2.size : Int))) then (if (wrap64 (6 - (a0_2.size : Int))) ≤ 6 then (if a0_2.size + ((⟨#[0, 0, 0, 0, 0, 0]⟩ : ByteArray).extract 0 ((wrap64 (6 - (a0_2.size : Int))) : Int).toNat).size ≤ 9223372036854775807 then (if (a0_2 ++ ((⟨#[0, 0, 0, 0, 0, 0]⟩ : ByteArray).extract 0 ((wrap64 (6 - (a0_2.size : Int))) : Int).toNat)).size + a0_3.size ≤ 9223372036854775807 then (if ((a0_0 ++ t138) ++ (strOfNums y139)).size + ((a0_2 ++ ((⟨#[0, 0, 0, 0, 0, 0]⟩ : ByteArray).extract 0 ((wrap64 (6 - (a0_2.size : Int))) : Int).toNat)) ++ a0_3).size ≤ 9223372036854775807 then ((platformfwref07_Sum.f k (((a0_0 ++ t138) ++ (strOfNums y139)) ++ ((a0_2 ++ ((⟨#[0, 0, 0, 0, 0, 0]⟩ : ByteArray).extract 0 ((wrap64 (6 - (a0_2.size : Int))) : Int).toNat)) ++ a0_3))).bind fun t142 => ((some (([(-t142) % 256] : List Int) : List Int)).bind fun y143 => (if ((a0_0 ++ t138) ++ (strOfNums y139)).size + (strOfNums y143).size ≤ 9223372036854775807 then (if (((a0_0 ++ t138) ++ (strOfNums y139)) ++ (strOfNums y143)).size + ((a0_2 ++ ((⟨#[0, 0, 0, 0, 0, 0]⟩ : ByteArray).extract 0 ((wrap64 (6 - (a0_2.size : Int))) : Int).toNat)) ++ a0_3).size ≤ 9223372036854775807 then (some ((((a0_0 ++ t138) ++ (strOfNums y139)) ++ (strOfNums y143)) ++ ((a0_2 ++ ((⟨#[0, 0, 0, 0, 0, 0]⟩ : ByteArray).extract 0 ((wrap64 (6 - (a0_2.size : Int))) : Int).toNat)) ++ a0_3), 0)) else (none)) else (none)))) else (none)) else (none)) else (none)) else (none)) else (none)) else (none))) else (none))) else (some ((⟨#[]⟩ : ByteArray), 1))) = some (r1, r2) := H
  have A2 := Aside0.mk A20
  clear A20
  by_cases c3 : t137 = true
  · subst c3
    have H1 : ((platformfwref07_four.f (wrap64 (16 + (a0_3.size : Int)))).bind fun t138 => (if a0_0.size + t138.size ≤ 9223372036854775807 then ((some (([(a0_1) % 256] : List Int) : List Int)).bind fun y139 => (if (a0_0 ++ t138).size + (strOfNums y139).size ≤ 9223372036854775807 then (if 0 ≤ (wrap64 (6 - (a0_2.size : Int))) then (if (wrap64 (6 - (a0_2.size : Int))) ≤ 6 then (if a0_2.size + ((⟨#[0, 0, 0, 0, 0, 0]⟩ : ByteArray).extract 0 ((wrap64 (6 - (a0_2.size : Int))) : Int).toNat).size ≤ 9223372036854775807 then (if (a0_2 ++ ((⟨#[0, 0, 0, 0, 0, 0]⟩ : ByteArray).extract 0 ((wrap64 (6 - (a0_2.size : Int))) : Int).toNat)).size + a0_3.size ≤ 9223372036854775807 then (if ((a0_0 ++ t138) ++ (strOfNums y139)).size + ((a0_2 ++ ((⟨#[0, 0, 0, 0, 0, 0]⟩ : ByteArray).extract 0 ((wrap64 (6 - (a0_2.size : Int))) : Int).toNat)) ++ a0_3).size ≤ 9223372036854775807 then ((platformfwref07_Sum.f k (((a0_0 ++ t138) ++ (strOfNums y139)) ++ ((a0_2 ++ ((⟨#[0, 0, 0, 0, 0, 0]⟩ : ByteArray).extract 0 ((wrap64 (6 - (a0_2.size : Int))) : Int).toNat)) ++ a0_3))).bind fun t142 => ((some (([(-t142) % 256] : List Int) : List Int)).bind fun y143 => (if ((a0_0 ++ t138) ++ (strOfNums y139)).size + (strOfNums y143).size ≤ 9223372036854775807 then (if (((a0_0 ++ t138) ++ (strOfNums y139)) ++ (strOfNums y143)).size + ((a0_2 ++ ((⟨#[0, 0, 0, 0, 0, 0]⟩ : ByteArray).extract 0 ((wrap64 (6 - (a0_2.size : Int))) : Int).toNat)) ++ a0_3).size ≤ 9223372036854775807 then (some ((((a0_0 ++ t138) ++ (strOfNums y139)) ++ (strOfNums y143)) ++ ((a0_2 ++ ((⟨#[0, 0, 0, 0, 0, 0]⟩ : ByteArray).extract 0 ((wrap64 (6 - (a0_2.size : Int))) : Int).toNat)) ++ a0_3), 0)) else (none)) else (none)))) else (none)) else (none)) else (none)) else (none)) else (none)) else (none))) else (none))) = some (r1, r2) := by rw [if_pos rfl] at H; exact H
    clear H
    have H := H1
    clear H1
    replace H := Option.bind_eq_some_iff.mp H
    obtain ⟨t138, A40, H⟩ := H
    replace H : (if a0_0.size + t138.size ≤ 9223372036854775807 then ((some (([(a0_1) % 256] : List Int) : List Int)).bind fun y139 => (if (a0_0 ++ t138).size + (strOfNums y139).size ≤ 9223372036854775807 then (if 0 ≤ (wrap64 (6 - (a0_2.size : Int))) then (if (wrap64 (6 - (a0_2.size : Int))) ≤ 6 then (if a0_2.size + ((⟨#[0, 0, 0, 0, 0, 0]⟩ : ByteArray).extract 0 ((wrap64 (6 - (a0_2.size : Int))) : Int).toNat).size ≤ 9223372036854775807 then (if (a0_2 ++ ((⟨#[0, 0, 0, 0, 0, 0]⟩ : ByteArray).extract 0 ((wrap64 (6 - (a0_2.size : Int))) : Int).toNat)).size + a0_3.size ≤ 9223372036854775807 then (if ((a0_0 ++ t138) ++ (strOfNums y139)).size + ((a0_2 ++ ((⟨#[0, 0, 0, 0, 0, 0]⟩ : ByteArray).extract 0 ((wrap64 (6 - (a0_2.size : Int))) : Int).toNat)) ++ a0_3).size ≤ 9223372036854775807 then ((platformfwref07_Sum.f k (((a0_0 ++ t138) ++ (strOfNums y139)) ++ ((a0_2 ++ ((⟨#[0, 0, 0, 0, 0, 0]⟩ : ByteArray).extract 0 ((wrap64 (6 - (a0_2.size : Int))) : Int).toNat)) ++ a0_3))).bind fun t142 => ((some (([(-t142) % 256] : List Int) : List Int)).bind fun y143 => (if ((a0_0 ++ t138) ++ (strOfNums y139)).size + (strOfNums y143).size ≤ 9223372036854775807 then (if (((a0_0 ++ t138) ++ (strOfNums y139)) ++ (strOfNums y143)).size + ((a0_2 ++ ((⟨#[0, 0, 0, 0, 0, 0]⟩ : ByteArray).extract 0 ((wrap64 (6 - (a0_2.size : Int))) : Int).toNat)) ++ a0_3).size ≤ 9223372036854775807 then (some ((((a0_0 ++ t138) ++ (strOfNums y139)) ++ (strOfNums y143)) ++ ((a0_2 ++ ((⟨#[0, 0, 0, 0, 0, 0]⟩ : ByteArray).extract 0 ((wrap64 (6 - (a0_2.size : Int))) : Int).toNat)) ++ a0_3), 0)) else (none)) else (none)))) else (none)) else (none)) else (none)) else (none)) else (none)) else (none))) else (none)) = some (r1, r2) := H
    have A4 := Aside0.mk A40
    clear A40
    by_cases c5 : a0_0.size + t138.size ≤ 9223372036854775807
    · rw [if_pos c5] at H
      have c5b0 := eq_true c5
      have c5b1 : decide (a0_0.size + t138.size ≤ 9223372036854775807) = true := decide_eq_true c5
      try have c5b2 : (9223372036854775807 < a0_0.size + t138.size) = False := eq_false (Nat.not_lt.2 c5)
      obtain ⟨y139, hy139⟩ : ∃ y_ : List Int, y_ = (([(a0_1) % 256] : List Int)) := ⟨_, rfl⟩
      replace H : (if (a0_0 ++ t138).size + (strOfNums y139).size ≤ 9223372036854775807 then (if 0 ≤ (wrap64 (6 - (a0_2.size : Int))) then (if (wrap64 (6 - (a0_2.size : Int))) ≤ 6 then (if a0_2.size + ((⟨#[0, 0, 0, 0, 0, 0]⟩ : ByteArray).extract 0 ((wrap64 (6 - (a0_2.size : Int))) : Int).toNat).size ≤ 9223372036854775807 then (if (a0_2 ++ ((⟨#[0, 0, 0, 0, 0, 0]⟩ : ByteArray).extract 0 ((wrap64 (6 - (a0_2.size : Int))) : Int).toNat)).size + a0_3.size ≤ 9223372036854775807 then (if ((a0_0 ++ t138) ++ (strOfNums y139)).size + ((a0_2 ++ ((⟨#[0, 0, 0, 0, 0, 0]⟩ : ByteArray).extract 0 ((wrap64 (6 - (a0_2.size : Int))) : Int).toNat)) ++ a0_3).size ≤ 9223372036854775807 then ((platformfwref07_Sum.f k (((a0_0 ++ t138) ++ (strOfNums y139)) ++ ((a0_2 ++ ((⟨#[0, 0, 0, 0, 0, 0]⟩ : ByteArray).extract 0 ((wrap64 (6 - (a0_2.size : Int))) : Int).toNat)) ++ a0_3))).bind fun t142 => ((some (([(-t142) % 256] : List Int) : List Int)).bind fun y143 => (if ((a0_0 ++ t138) ++ (strOfNums y139)).size + (strOfNums y143).size ≤ 9223372036854775807 then (if (((a0_0 ++ t138) ++ (strOfNums y139)) ++ (strOfNums y143)).size + ((a0_2 ++ ((⟨#[0, 0, 0, 0, 0, 0]⟩ : ByteArray).extract 0 ((wrap64 (6 - (a0_2.size : Int))) : Int).toNat)) ++ a0_3).size ≤ 9223372036854775807 then (some ((((a0_0 ++ t138) ++ (strOfNums y139)) ++ (strOfNums y143)) ++ ((a0_2 ++ ((⟨#[0, 0, 0, 0, 0, 0]⟩ : ByteArray).extract 0 ((wrap64 (6 - (a0_2.size : Int))) : Int).toNat)) ++ a0_3), 0)) else (none)) else (none)))) else (none)) else (none)) else (none)) else (none)) else (none)) else (none)) = some (r1, r2) := by first | (rw [hy139]; with_reducible exact H) | (have H2_ := (Option.bind_some _ _).symm.trans H; rw [hy139]; with_reducible exact H2_) | (have H2_ := (Option.bind_some _ _).symm.trans H; with_reducible exact H2_) | with_reducible exact H | (rw [hy139]; exact H) | exact H
      have Ny139 := Aside0.mk hy139
      clear hy139
      by_cases c6 : (a0_0 ++ t138).size + (strOfNums y139).size ≤ 9223372036854775807
      · rw [if_pos c6] at H
        have c6b0 := eq_true c6
        have c6b1 : decide ((a0_0 ++ t138).size + (strOfNums y139).size ≤ 9223372036854775807) = true := decide_eq_true c6
        try have c6b2 : (9223372036854775807 < (a0_0 ++ t138).size + (strOfNums y139).size) = False := eq_false (Nat.not_lt.2 c6)
        try have c6b3 := c6b2
        try simp only [ByteArray.size_append] at c6b3
        obtain ⟨ji7, hji7⟩ : ∃ j_ : Int, (wrap64 (6 - (a0_2.size : Int))) = j_ := ⟨_, rfl⟩
        replace H : (if 0 ≤ (ji7) then (if (ji7) ≤ 6 then (if a0_2.size + ((⟨#[0, 0, 0, 0, 0, 0]⟩ : ByteArray).extract 0 ((ji7) : Int).toNat).size ≤ 9223372036854775807 then (if (a0_2 ++ ((⟨#[0, 0, 0, 0, 0, 0]⟩ : ByteArray).extract 0 ((ji7) : Int).toNat)).size + a0_3.size ≤ 9223372036854775807 then (if ((a0_0 ++ t138) ++ (strOfNums y139)).size + ((a0_2 ++ ((⟨#[0, 0, 0, 0, 0, 0]⟩ : ByteArray).extract 0 ((ji7) : Int).toNat)) ++ a0_3).size ≤ 9223372036854775807 then ((platformfwref07_Sum.f k (((a0_0 ++ t138) ++ (strOfNums y139)) ++ ((a0_2 ++ ((⟨#[0, 0, 0, 0, 0, 0]⟩ : ByteArray).extract 0 ((ji7) : Int).toNat)) ++ a0_3))).bind fun t142 => ((some (([(-t142) % 256] : List Int) : List Int)).bind fun y143 => (if ((a0_0 ++ t138) ++ (strOfNums y139)).size + (strOfNums y143).size ≤ 9223372036854775807 then (if (((a0_0 ++ t138) ++ (strOfNums y139)) ++ (strOfNums y143)).size + ((a0_2 ++ ((⟨#[0, 0, 0, 0, 0, 0]⟩ : ByteArray).extract 0 ((ji7) : Int).toNat)) ++ a0_3).size ≤ 9223372036854775807 then (some ((((a0_0 ++ t138) ++ (strOfNums y139)) ++ (strOfNums y143)) ++ ((a0_2 ++ ((⟨#[0, 0, 0, 0, 0, 0]⟩ : ByteArray).extract 0 ((ji7) : Int).toNat)) ++ a0_3), 0)) else (none)) else (none)))) else (none)) else (none)) else (none)) else (none)) else (none)) = some (r1, r2) := by first | (rw [hji7] at H; exact H) | (simp only [hji7] at H ⊢; exact H)
        (try rw [hji7] at A2)
        (try rw [hji7] at A4)
        have hji7w : (IntKind.i64.wrap (6 - (a0_2.size : Int))) = ji7 := (i64_w _).trans hji7
        by_cases c8 : 0 ≤ (ji7)
        · rw [if_pos c8] at H
          have c8b0 := eq_true c8
          have c8b1 : decide (0 ≤ (ji7)) = true := decide_eq_true c8
          clear c8
          by_cases c9 : (ji7) ≤ 6
          · rw [if_pos c9] at H
            have c9b0 := eq_true c9
            have hzc9 : ((⟨#[0, 0, 0, 0, 0, 0]⟩ : ByteArray).extract 0 ((ji7) : Int).toNat).size = (ji7).toNat := by (rw [ByteArray.size_extract]; show min _ 6 - 0 = _; omega)
            have c9b1 : decide ((ji7) ≤ 6) = true := decide_eq_true c9
            clear c9
            by_cases c10 : a0_2.size + ((⟨#[0, 0, 0, 0, 0, 0]⟩ : ByteArray).extract 0 ((ji7) : Int).toNat).size ≤ 9223372036854775807
            · rw [if_pos c10] at H
              have c10b0 := eq_true c10
              have c10b1 : decide (a0_2.size + ((⟨#[0, 0, 0, 0, 0, 0]⟩ : ByteArray).extract 0 ((ji7) : Int).toNat).size ≤ 9223372036854775807) = true := decide_eq_true c10
              try have c10b2 : (9223372036854775807 < a0_2.size + ((⟨#[0, 0, 0, 0, 0, 0]⟩ : ByteArray).extract 0 ((ji7) : Int).toNat).size) = False := eq_false (Nat.not_lt.2 c10)
              try have c10b3 := c10b2
              try simp only [ByteArray.size_append, hzc9] at c10b3
              by_cases c11 : (a0_2 ++ ((⟨#[0, 0, 0, 0, 0, 0]⟩ : ByteArray).extract 0 ((ji7) : Int).toNat)).size + a0_3.size ≤ 9223372036854775807
              · rw [if_pos c11] at H
                have c11b0 := eq_true c11
                have c11b1 : decide ((a0_2 ++ ((⟨#[0, 0, 0, 0, 0, 0]⟩ : ByteArray).extract 0 ((ji7) : Int).toNat)).size + a0_3.size ≤ 9223372036854775807) = true := decide_eq_true c11
                try have c11b2 : (9223372036854775807 < (a0_2 ++ ((⟨#[0, 0, 0, 0, 0, 0]⟩ : ByteArray).extract 0 ((ji7) : Int).toNat)).size + a0_3.size) = False := eq_false (Nat.not_lt.2 c11)
                try have c11b3 := c11b2
                try simp only [ByteArray.size_append, hzc9] at c11b3
                by_cases c12 : ((a0_0 ++ t138) ++ (strOfNums y139)).size + ((a0_2 ++ ((⟨#[0, 0, 0, 0, 0, 0]⟩ : ByteArray).extract 0 ((ji7) : Int).toNat)) ++ a0_3).size ≤ 9223372036854775807
                · rw [if_pos c12] at H
                  have c12b0 := eq_true c12
                  have c12b1 : decide (((a0_0 ++ t138) ++ (strOfNums y139)).size + ((a0_2 ++ ((⟨#[0, 0, 0, 0, 0, 0]⟩ : ByteArray).extract 0 ((ji7) : Int).toNat)) ++ a0_3).size ≤ 9223372036854775807) = true := decide_eq_true c12
                  try have c12b2 : (9223372036854775807 < ((a0_0 ++ t138) ++ (strOfNums y139)).size + ((a0_2 ++ ((⟨#[0, 0, 0, 0, 0, 0]⟩ : ByteArray).extract 0 ((ji7) : Int).toNat)) ++ a0_3).size) = False := eq_false (Nat.not_lt.2 c12)
                  try have c12b3 := c12b2
                  try simp only [ByteArray.size_append, hzc9] at c12b3
                  replace H := Option.bind_eq_some_iff.mp H
                  obtain ⟨t142, A130, H⟩ := H
                  replace H : ((some (([(-t142) % 256] : List Int) : List Int)).bind fun y143 => (if ((a0_0 ++ t138) ++ (strOfNums y139)).size + (strOfNums y143).size ≤ 9223372036854775807 then (if (((a0_0 ++ t138) ++ (strOfNums y139)) ++ (strOfNums y143)).size + ((a0_2 ++ ((⟨#[0, 0, 0, 0, 0, 0]⟩ : ByteArray).extract 0 ((ji7) : Int).toNat)) ++ a0_3).size ≤ 9223372036854775807 then (some ((((a0_0 ++ t138) ++ (strOfNums y139)) ++ (strOfNums y143)) ++ ((a0_2 ++ ((⟨#[0, 0, 0, 0, 0, 0]⟩ : ByteArray).extract 0 ((ji7) : Int).toNat)) ++ a0_3), 0)) else (none)) else (none))) = some (r1, r2) := H
                  have A13 := Aside0.mk A130
                  clear A130
                  obtain ⟨y143, hy143⟩ : ∃ y_ : List Int, y_ = (([(-t142) % 256] : List Int)) := ⟨_, rfl⟩
                  replace H : (if ((a0_0 ++ t138) ++ (strOfNums y139)).size + (strOfNums y143).size ≤ 9223372036854775807 then (if (((a0_0 ++ t138) ++ (strOfNums y139)) ++ (strOfNums y143)).size + ((a0_2 ++ ((⟨#[0, 0, 0, 0, 0, 0]⟩ : ByteArray).extract 0 ((ji7) : Int).toNat)) ++ a0_3).size ≤ 9223372036854775807 then (some ((((a0_0 ++ t138) ++ (strOfNums y139)) ++ (strOfNums y143)) ++ ((a0_2 ++ ((⟨#[0, 0, 0, 0, 0, 0]⟩ : ByteArray).extract 0 ((ji7) : Int).toNat)) ++ a0_3), 0)) else (none)) else (none)) = some (r1, r2) := by first | (rw [hy143]; with_reducible exact H) | (have H2_ := (Option.bind_some _ _).symm.trans H; rw [hy143]; with_reducible exact H2_) | (have H2_ := (Option.bind_some _ _).symm.trans H; with_reducible exact H2_) | with_reducible exact H | (rw [hy143]; exact H) | exact H
                  have Ny143 := Aside0.mk hy143
                  clear hy143
                  by_cases c14 : ((a0_0 ++ t138) ++ (strOfNums y139)).size + (strOfNums y143).size ≤ 9223372036854775807
                  · rw [if_pos c14] at H
                    have c14b0 := eq_true c14
                    have c14b1 : decide (((a0_0 ++ t138) ++ (strOfNums y139)).size + (strOfNums y143).size ≤ 9223372036854775807) = true := decide_eq_true c14
                    try have c14b2 : (9223372036854775807 < ((a0_0 ++ t138) ++ (strOfNums y139)).size + (strOfNums y143).size) = False := eq_false (Nat.not_lt.2 c14)
                    try have c14b3 := c14b2
                    try simp only [ByteArray.size_append] at c14b3
                    by_cases c15 : (((a0_0 ++ t138) ++ (strOfNums y139)) ++ (strOfNums y143)).size + ((a0_2 ++ ((⟨#[0, 0, 0, 0, 0, 0]⟩ : ByteArray).extract 0 ((ji7) : Int).toNat)) ++ a0_3).size ≤ 9223372036854775807
                    · rw [if_pos c15] at H
                      have c15b0 := eq_true c15
                      have c15b1 : decide ((((a0_0 ++ t138) ++ (strOfNums y139)) ++ (strOfNums y143)).size + ((a0_2 ++ ((⟨#[0, 0, 0, 0, 0, 0]⟩ : ByteArray).extract 0 ((ji7) : Int).toNat)) ++ a0_3).size ≤ 9223372036854775807) = true := decide_eq_true c15
                      try have c15b2 : (9223372036854775807 < (((a0_0 ++ t138) ++ (strOfNums y139)) ++ (strOfNums y143)).size + ((a0_2 ++ ((⟨#[0, 0, 0, 0, 0, 0]⟩ : ByteArray).extract 0 ((ji7) : Int).toNat)) ++ a0_3).size) = False := eq_false (Nat.not_lt.2 c15)
                      try have c15b3 := c15b2
                      try simp only [ByteArray.size_append, hzc9] at c15b3
                      simp only [Option.some.injEq, Prod.mk.injEq] at H
                      obtain ⟨rfl, rfl⟩ := H
                      go_enter Tryd.func17, Tryd.ntmps17
                      try go_wp2_with (first | ((with_reducible refine gate_dst (N := 1) rfl ?_); refine box_event ?hg (N := 1) ?hd (cs := #[.string a0_0, .int .i64 a0_1, .string a0_2, .string a0_3]) (t := 23) ?hr ?_; (case hd => rfl); (case hg => rfl); (case hr => first | (go_simp; done) | (go_simp; rfl)); intro gb136 hg w16 hbox hb; have n0_ := Aside0.mk (below_step (by repeat (first | (with_reducible first | exact HB.out | apply below_alloc | apply pw_below_drewN | apply below_drew1) | exact HB.out)) hb); have n1_ := Aside0.mk (hbox); have n2_ := Aside0.mk ((by rw [hg]; exact (below_size (by repeat (first | (with_reducible first | exact HB.out | apply below_alloc | apply pw_below_drewN | apply below_drew1) | exact HB.out))) : w.heap.size ≤ gb136)); have n3_ := Aside0.mk ((by rw [hg]; exact (below_size (by repeat (first | (with_reducible first | exact HB.out | apply below_alloc | apply pw_below_drewN | apply below_drew1) | exact HB.out))) : w.heap.size ≤ gb136)); clear HB; have HB := n0_; have BK136 := n1_; have GW136 := n2_; have GE136 := n3_; clear n0_ n1_ n2_ n3_; clear hb hbox hg; have hcz17_0 : w16.cell? ⟨gb136, 0, none⟩ = some (.string a0_0) := (blk_cell BK136.out 0).trans rfl; have hcz17_1 : w16.cell? ⟨gb136, 1, none⟩ = some (.int .i64 a0_1) := (blk_cell BK136.out 1).trans rfl; have hcz17_2 : w16.cell? ⟨gb136, 2, none⟩ = some (.string a0_2) := (blk_cell BK136.out 2).trans rfl; have hcz17_3 : w16.cell? ⟨gb136, 3, none⟩ = some (.string a0_3) := (blk_cell BK136.out 3).trans rfl; have hfz17_0 := blk_frozen BK136.out 0; have hfz17_1 := blk_frozen BK136.out 1; have hfz17_2 := blk_frozen BK136.out 2; have hfz17_3 := blk_frozen BK136.out 3) | ((with_reducible refine gate_callee (f := 14) rfl ?_); refine goesL_ (some 7) rfl rfl Tryd.func14 (by kernel_rfl) rfl #[.agg #[.string a0_0, .int .i64 a0_1, .string a0_2, .string a0_3]] rfl (by (try simp only [List.map_toArray, List.map_cons, List.map_nil]); first | done | rfl | (simp only [List.length_drop, List.length_take]; rfl)) ?_; (with_reducible refine (platformfwref07_Valid.calls k a0_0 a0_1 a0_2 a0_3 true _ A2.out).mono ?_); rintro e w18 ⟨rfl, hb⟩; refine ⟨_, rfl, ?_⟩; have n0_ := Aside0.mk (blk_below (g := gb136) (o := .cells #[.string a0_0, .int .i64 a0_1, .string a0_2, .string a0_3] 23 (0, 0)) (by (with_reducible repeat (first | refine blk_drewN ?_ _ | refine blk_drew ?_ | refine blk_alloc ?_ _)); exact BK136.out) hb); have n1_ := Aside0.mk (below_step (by repeat (first | (with_reducible first | exact HB.out | apply below_alloc | apply pw_below_drewN | apply below_drew1 | refine below_set ?_ GE136.out) | exact HB.out)) hb); clear BK136; clear HB; have BK136 := n0_; have HB := n1_; clear n0_ n1_; (try clear hb); (try clear hb2); (try clear hk); (try clear hi)))
                      have n0_ := Aside0.mk (blk_drew BK136.out)
                      have n1_ := Aside0.mk (below_drew1 HB.out)
                      clear BK136
                      clear HB
                      have BK136 := n0_
                      have HB := n1_
                      clear n0_ n1_
                      refine start_ (n := 15) (S := fun w' => w'.cell? ⟨gb136, 0, none⟩ = some (.string a0_0) ∧ w'.cell? ⟨gb136, 1, none⟩ = some (.int .i64 a0_1) ∧ w'.cell? ⟨gb136, 2, none⟩ = some (.string a0_2) ∧ w'.cell? ⟨gb136, 3, none⟩ = some (.string a0_3)) (ds := []) #[false, false, false, false, false, false, false, false, false, false, false, false, false, false, false] (by kernel_rfl) rfl rfl ⟨(blk_cell BK136.out 0).trans rfl, (blk_cell BK136.out 1).trans rfl, (blk_cell BK136.out 2).trans rfl, (blk_cell BK136.out 3).trans rfl⟩ (fun hHeld => ?_); refine with_tabW platformfwref07_Encode.tab3 platformfwref07_Encode.bits3 (fun HT_ HW_ => ?_)
                      generalize w18.drew = w19 at BK136 HB hHeld ⊢
                      refine pure_ (i := 0) (N := some 9) (v := ?_) (a' := ?_) #[true, false, false, false, false, false, false, false, false, false, false, false, false, false, false] rfl rfl (any_of HT_.out (by kernel_rfl)) (fun _ _ _ h => h) (Or.inl ⟨by rfl, ?_⟩) ?_ ?_
                      rotate_left
                      · intro w'
                        go_simp
                        with_reducible rfl
                      rotate_left
                      · simp only [Act.put, List.setIfInBounds_toArray, List.set_cons_zero, List.set_cons_succ, i64_w, i32_w]
                        rfl
                      refine pure_ (i := 2) (N := some 11) (v := ?_) (a' := ?_) #[true, false, true, false, false, false, false, false, false, false, false, false, false, false, false] rfl rfl (any_of HT_.out (by kernel_rfl)) (fun _ _ _ h => h) (Or.inl ⟨by rfl, ?_⟩) ?_ ?_
                      rotate_left
                      · intro w'
                        go_simp
                        with_reducible rfl
                      rotate_left
                      · simp only [Act.put, List.setIfInBounds_toArray, List.set_cons_zero, List.set_cons_succ, i64_w, i32_w]
                        rfl
                      refine pure_ (i := 8) (N := some 17) (v := ?_) (a' := ?_) #[true, false, true, false, false, false, false, false, true, false, false, false, false, false, false] rfl rfl (any_of HT_.out (by kernel_rfl)) (fun _ _ _ h => h) (Or.inl ⟨by rfl, ?_⟩) ?_ ?_
                      rotate_left
                      · intro w'
                        go_simp
                        with_reducible rfl
                      rotate_left
                      · simp only [Act.put, List.setIfInBounds_toArray, List.set_cons_zero, List.set_cons_succ, i64_w, i32_w]
                        rfl
                      refine take_ (i := 1) (N := some 10) (v := ?_) (a' := ?_) #[true, true, true, false, false, false, false, false, true, false, false, false, false, false, false] rfl rfl (take_ofW HT_.out HW_.out (by kernel_rfl)) (fun _ _ _ h => h) (Or.inl ⟨by rfl, ?_⟩) hHeld ?_ ?_
                      rotate_left
                      · rintro w' ⟨s0, s1, s2, s3⟩
                        go_simp
                        with_reducible rfl
                      rotate_left
                      · simp only [Act.put, List.setIfInBounds_toArray, List.set_cons_zero, List.set_cons_succ, i64_w, i32_w]
                        rfl
                      refine take_ (i := 3) (N := some 12) (v := ?_) (a' := ?_) #[true, true, true, true, false, false, false, false, true, false, false, false, false, false, false] rfl rfl (take_ofW HT_.out HW_.out (by kernel_rfl)) (fun _ _ _ h => h) (Or.inl ⟨by rfl, ?_⟩) hHeld ?_ ?_
                      rotate_left
                      · rintro w' ⟨s0, s1, s2, s3⟩
                        go_simp
                        with_reducible rfl
                      rotate_left
                      · simp only [Act.put, List.setIfInBounds_toArray, List.set_cons_zero, List.set_cons_succ, i64_w, i32_w]
                        rfl
                      refine pure_ (i := 4) (N := some 13) (v := ?_) (a' := ?_) #[true, true, true, true, true, false, false, false, true, false, false, false, false, false, false] rfl rfl (any_of HT_.out (by kernel_rfl)) (fun _ _ _ h => h) (Or.inl ⟨by rfl, ?_⟩) ?_ ?_
                      rotate_left
                      · intro w'
                        go_simp
                        with_reducible rfl
                      rotate_left
                      · simp only [Act.put, List.setIfInBounds_toArray, List.set_cons_zero, List.set_cons_succ, i64_w, i32_w]
                        rfl
                      refine pure_ (i := 5) (N := some 14) (v := ?_) (a' := ?_) #[true, true, true, true, true, true, false, false, true, false, false, false, false, false, false] rfl rfl (any_of HT_.out (by kernel_rfl)) (fun _ _ _ h => h) (Or.inl ⟨by rfl, ?_⟩) ?_ ?_
                      rotate_left
                      · intro w'
                        go_simp
                        with_reducible rfl
                      rotate_left
                      · simp only [Act.put, List.setIfInBounds_toArray, List.set_cons_zero, List.set_cons_succ, i64_w, i32_w]
                        rfl
                      refine take_ (i := 9) (N := some 18) (v := ?_) (a' := ?_) #[true, true, true, true, true, true, false, false, true, true, false, false, false, false, false] rfl rfl (take_ofW HT_.out HW_.out (by kernel_rfl)) (fun _ _ _ h => h) (Or.inl ⟨by rfl, ?_⟩) hHeld ?_ ?_
                      rotate_left
                      · rintro w' ⟨s0, s1, s2, s3⟩
                        go_simp
                        with_reducible rfl
                      rotate_left
                      · simp only [Act.put, List.setIfInBounds_toArray, List.set_cons_zero, List.set_cons_succ, i64_w, i32_w]
                        rfl
                      refine pure_ (i := 10) (N := some 19) (v := ?_) (a' := ?_) #[true, true, true, true, true, true, false, false, true, true, true, false, false, false, false] rfl rfl (any_of HT_.out (by kernel_rfl)) (fun _ _ _ h => h) (Or.inl ⟨by rfl, ?_⟩) ?_ ?_
                      rotate_left
                      · intro w'
                        go_simp
                        with_reducible rfl
                      rotate_left
                      · simp only [Act.put, List.setIfInBounds_toArray, List.set_cons_zero, List.set_cons_succ, i64_w, i32_w]
                        rfl
                      refine join_ (σ := Value) 2 #[true, true, true, true, true, true, true, true, true, true, true, true, true, false, false] (fun s_ => [(15, .string t138), (20, s_), (21, .string (strOfNums y139)), (16, .string (a0_0 ++ t138))]) (fun s_ w' => (w'.cell? ⟨gb136, 0, none⟩ = some (.string a0_0) ∧ w'.cell? ⟨gb136, 1, none⟩ = some (.int .i64 a0_1) ∧ w'.cell? ⟨gb136, 2, none⟩ = some (.string a0_2) ∧ w'.cell? ⟨gb136, 3, none⟩ = some (.string a0_3)) ∧ (Kd.R (Kd.int .u8) 5 w' w.heap.size (fun _ => True) s_ y139) ∧ (w'.heap[gb136]? = some (.cells #[.string a0_0, .int .i64 a0_1, .string a0_2, .string a0_3] 23 (0, 0))) ∧ (Below w.heap.size w w')) ?_ ?_
                      rotate_left
                      · intro hCont
                        refine two_ (i := 6) (j := 11) (Ni := some 15) (Nj := some 20) #[true, true, true, true, true, true, true, false, true, true, true, false, false, false, false] #[true, true, true, true, true, true, false, false, true, true, true, true, false, false, false] rfl rfl rfl rfl (two_of HT_.out (by kernel_rfl)) (by decide) (by decide) (fun K hK => ?_) (fun K hK => ?_)
                        · skip
                          refine goes_ Tryd.func32 (by kernel_rfl) rfl #[.int .i64 (wrap64 (16 + (a0_3.size : Int)))] (by rfl) rfl rfl (by (try simp only [List.map_toArray, List.map_cons, List.map_nil]); first | done | rfl | (simp only [List.length_drop, List.length_take]; rfl)) ?_
                          with_reducible refine (platformfwref07_four.calls (wrap64 (16 + (a0_3.size : Int))) t138 _ A4.out).mono ?_
                          rintro e w20 ⟨rfl, hb⟩
                          refine ⟨_, rfl, ?_⟩
                          have n0_ := Aside0.mk (blk_below (g := gb136) (o := .cells #[.string a0_0, .int .i64 a0_1, .string a0_2, .string a0_3] 23 (0, 0)) (by (with_reducible repeat (first | refine blk_drewN ?_ _ | refine blk_drew ?_ | refine blk_alloc ?_ _)); exact BK136.out) hb)
                          have n1_ := Aside0.mk (below_step (by repeat (first | (with_reducible first | exact HB.out | apply below_alloc | apply pw_below_drewN | apply below_drew1 | refine below_set ?_ GE136.out) | exact HB.out)) hb)
                          clear BK136
                          clear HB
                          have BK136 := n0_
                          have HB := n1_
                          clear n0_ n1_
                          (try clear hb)
                          (try clear hb2)
                          (try clear hk)
                          (try clear hi)
                          refine hK.out _ _ ⟨(blk_cell BK136.out 0).trans rfl, (blk_cell BK136.out 1).trans rfl, (blk_cell BK136.out 2).trans rfl, (blk_cell BK136.out 3).trans rfl⟩ (fun hHeld => ?_)
                          clear hK K
                          refine norm_ (a' := ?_) ?_ ?_
                          rotate_left
                          · show Act.put _ (some 15) _ = _
                            simp only [Act.put, List.setIfInBounds_toArray, List.set_cons_zero, List.set_cons_succ, i64_w, i32_w]
                            rfl
                          refine pure_ (i := 7) (N := some 16) (v := ?_) (a' := ?_) #[true, true, true, true, true, true, true, true, true, true, true, false, false, false, false] rfl rfl (any_of HT_.out (by kernel_rfl)) (fun _ _ _ h => h) (Or.inl ⟨by rfl, ?_⟩) ?_ ?_
                          rotate_left
                          · intro w'
                            go_simp
                            with_reducible rfl
                          rotate_left
                          · simp only [Act.put, List.setIfInBounds_toArray, List.set_cons_zero, List.set_cons_succ, i64_w, i32_w]
                            rfl
                          refine one_ (i := 11) (N := some 20) #[true, true, true, true, true, true, true, true, true, true, true, true, false, false, false] rfl rfl (one_of HT_.out (by kernel_rfl)) (by decide) (fun K hK => ?_)
                          refine Kd.R_lit_step (Kd.int .u8) _ 5 ?hg (N := 20) ?hd (xs := ([(a0_1) % 256] : List Int)) (inner := [.int .u8 ((a0_1) % 256)]) (ok := fun _ => True) (okp := fun _ => True) ?hr ?hp (fun _ hk => hk) trivial (Below.refl _ _) (Nat.le_refl _) (by simp) ?_; (case hd => rfl); (case hg => rfl); (case hr => first | (go_simp; done) | (go_simp; rfl)); (case hp => exact (Reps.one (show Kd.M (Kd.int .u8) _ _ _ ((a0_1) % 256) [.int .u8 ((a0_1) % 256)] from rfl) (Reps.none _ _)))
                          intro v140 w21 ho22 hb hg_ hnew_
                          clear hg_ hnew_
                          (first | rw [← Ny139.out] at ho22 | (simp only [Int.reduceToNat] at ho22; rw [← Ny139.out] at ho22))
                          have n0_ := Aside0.mk (Kd.R_lower ho22 (below_size (by repeat (first | (with_reducible first | exact HB.out | apply below_alloc | apply pw_below_drewN | apply below_drew1 | refine below_set ?_ GE136.out) | exact HB.out))))
                          have n1_ := Aside0.mk (blk_below (g := gb136) (o := .cells #[.string a0_0, .int .i64 a0_1, .string a0_2, .string a0_3] 23 (0, 0)) (by (with_reducible repeat (first | refine blk_drewN ?_ _ | refine blk_drew ?_ | refine blk_alloc ?_ _)); exact BK136.out) hb)
                          have n2_ := Aside0.mk (below_step (by repeat (first | (with_reducible first | exact HB.out | apply below_alloc | apply pw_below_drewN | apply below_drew1 | refine below_set ?_ GE136.out) | exact HB.out)) hb)
                          clear BK136
                          clear HB
                          have HO141 := n0_
                          have BK136 := n1_
                          have HB := n2_
                          clear n0_ n1_ n2_
                          clear hb ho22
                          refine hK.out _ _ ⟨(blk_cell BK136.out 0).trans rfl, (blk_cell BK136.out 1).trans rfl, (blk_cell BK136.out 2).trans rfl, (blk_cell BK136.out 3).trans rfl⟩ (fun hHeld => ?_)
                          clear hK K
                          refine norm_ (a' := ?_) ?_ ?_
                          rotate_left
                          · show Act.put _ (some 20) _ = _
                            simp only [Act.put, List.setIfInBounds_toArray, List.set_cons_zero, List.set_cons_succ, i64_w, i32_w]
                            rfl
                          refine one_ (i := 12) (N := some 21) #[true, true, true, true, true, true, true, true, true, true, true, true, true, false, false] rfl rfl (one_of HT_.out (by kernel_rfl)) (by decide) (fun K hK => ?_)
                          have hcv23 := own_string (P := Tryd.prog) Tryd.underlying35 Tryd.underlying5 Tryd.underlying9 (Kd.own_of_R HO141.out)
                          refine value_ (w1 := ?_) (v := ?_) (by rfl) rfl ?_ ?_
                          rotate_left 2
                          · go_simp
                            constructor
                            · rfl
                            · rfl
                          clear hcv23
                          refine hK.out _ _ ⟨(blk_cell BK136.out 0).trans rfl, (blk_cell BK136.out 1).trans rfl, (blk_cell BK136.out 2).trans rfl, (blk_cell BK136.out 3).trans rfl⟩ (fun hHeld => ?_)
                          clear hK K
                          refine norm_ (a' := ?_) ?_ ?_
                          rotate_left
                          · show Act.put _ (some 21) _ = _
                            simp only [Act.put, List.setIfInBounds_toArray, List.set_cons_zero, List.set_cons_succ, i64_w, i32_w]
                            rfl
                          exact norm_ (by simp only [putAll, Act.put, List.setIfInBounds_toArray, List.set_cons_zero, List.set_cons_succ]) (hCont (v140) _ ⟨hHeld, (by (with_reducible repeat (first | apply Kd.R_alloc | apply Kd.R_drewN | apply Kd.R_drew)); exact HO141.out), (by (with_reducible repeat (first | refine blk_drewN ?_ _ | refine blk_drew ?_ | refine blk_alloc ?_ _)); exact BK136.out), (by repeat (first | (with_reducible first | exact HB.out | apply below_alloc | apply pw_below_drewN | apply below_drew1 | refine below_set ?_ GE136.out) | exact HB.out))⟩)
                        · skip
                          refine Kd.R_lit_step (Kd.int .u8) _ 5 ?hg (N := 20) ?hd (xs := ([(a0_1) % 256] : List Int)) (inner := [.int .u8 ((a0_1) % 256)]) (ok := fun _ => True) (okp := fun _ => True) ?hr ?hp (fun _ hk => hk) trivial (Below.refl _ _) (Nat.le_refl _) (by simp) ?_; (case hd => rfl); (case hg => rfl); (case hr => first | (go_simp; done) | (go_simp; rfl)); (case hp => exact (Reps.one (show Kd.M (Kd.int .u8) _ _ _ ((a0_1) % 256) [.int .u8 ((a0_1) % 256)] from rfl) (Reps.none _ _)))
                          intro v140 w20 ho21 hb hg_ hnew_
                          clear hg_ hnew_
                          (first | rw [← Ny139.out] at ho21 | (simp only [Int.reduceToNat] at ho21; rw [← Ny139.out] at ho21))
                          have n0_ := Aside0.mk (Kd.R_lower ho21 (below_size (by repeat (first | (with_reducible first | exact HB.out | apply below_alloc | apply pw_below_drewN | apply below_drew1 | refine below_set ?_ GE136.out) | exact HB.out))))
                          have n1_ := Aside0.mk (blk_below (g := gb136) (o := .cells #[.string a0_0, .int .i64 a0_1, .string a0_2, .string a0_3] 23 (0, 0)) (by (with_reducible repeat (first | refine blk_drewN ?_ _ | refine blk_drew ?_ | refine blk_alloc ?_ _)); exact BK136.out) hb)
                          have n2_ := Aside0.mk (below_step (by repeat (first | (with_reducible first | exact HB.out | apply below_alloc | apply pw_below_drewN | apply below_drew1 | refine below_set ?_ GE136.out) | exact HB.out)) hb)
                          clear BK136
                          clear HB
                          have HO141 := n0_
                          have BK136 := n1_
                          have HB := n2_
                          clear n0_ n1_ n2_
                          clear hb ho21
                          refine hK.out _ _ ⟨(blk_cell BK136.out 0).trans rfl, (blk_cell BK136.out 1).trans rfl, (blk_cell BK136.out 2).trans rfl, (blk_cell BK136.out 3).trans rfl⟩ (fun hHeld => ?_)
                          clear hK K
                          refine norm_ (a' := ?_) ?_ ?_
                          rotate_left
                          · show Act.put _ (some 20) _ = _
                            simp only [Act.put, List.setIfInBounds_toArray, List.set_cons_zero, List.set_cons_succ, i64_w, i32_w]
                            rfl
                          refine two_ (i := 6) (j := 12) (Ni := some 15) (Nj := some 21) #[true, true, true, true, true, true, true, false, true, true, true, true, false, false, false] #[true, true, true, true, true, true, false, false, true, true, true, true, true, false, false] rfl rfl rfl rfl (two_of HT_.out (by kernel_rfl)) (by decide) (by decide) (fun K hK => ?_) (fun K hK => ?_)
                          · skip
                            refine goes_ Tryd.func32 (by kernel_rfl) rfl #[.int .i64 (wrap64 (16 + (a0_3.size : Int)))] (by rfl) rfl rfl (by (try simp only [List.map_toArray, List.map_cons, List.map_nil]); first | done | rfl | (simp only [List.length_drop, List.length_take]; rfl)) ?_
                            with_reducible refine (platformfwref07_four.calls (wrap64 (16 + (a0_3.size : Int))) t138 _ A4.out).mono ?_
                            rintro e w22 ⟨rfl, hb⟩
                            refine ⟨_, rfl, ?_⟩
                            have n0_ := Aside0.mk (Kd.R_below (by (with_reducible repeat (first | apply Kd.R_alloc | apply Kd.R_drewN | apply Kd.R_drew)); exact HO141.out) hb)
                            have n1_ := Aside0.mk (blk_below (g := gb136) (o := .cells #[.string a0_0, .int .i64 a0_1, .string a0_2, .string a0_3] 23 (0, 0)) (by (with_reducible repeat (first | refine blk_drewN ?_ _ | refine blk_drew ?_ | refine blk_alloc ?_ _)); exact BK136.out) hb)
                            have n2_ := Aside0.mk (below_step (by repeat (first | (with_reducible first | exact HB.out | apply below_alloc | apply pw_below_drewN | apply below_drew1 | refine below_set ?_ GE136.out) | exact HB.out)) hb)
                            clear HO141
                            clear BK136
                            clear HB
                            have HO141 := n0_
                            have BK136 := n1_
                            have HB := n2_
                            clear n0_ n1_ n2_
                            (try clear hb)
                            (try clear hb2)
                            (try clear hk)
                            (try clear hi)
                            refine hK.out _ _ ⟨(blk_cell BK136.out 0).trans rfl, (blk_cell BK136.out 1).trans rfl, (blk_cell BK136.out 2).trans rfl, (blk_cell BK136.out 3).trans rfl⟩ (fun hHeld => ?_)
                            clear hK K
                            refine norm_ (a' := ?_) ?_ ?_
                            rotate_left
                            · show Act.put _ (some 15) _ = _
                              simp only [Act.put, List.setIfInBounds_toArray, List.set_cons_zero, List.set_cons_succ, i64_w, i32_w]
                              rfl
                            refine pure_ (i := 7) (N := some 16) (v := ?_) (a' := ?_) #[true, true, true, true, true, true, true, true, true, true, true, true, false, false, false] rfl rfl (any_of HT_.out (by kernel_rfl)) (fun _ _ _ h => h) (Or.inl ⟨by rfl, ?_⟩) ?_ ?_
                            rotate_left
                            · intro w'
                              go_simp
                              with_reducible rfl
                            rotate_left
                            · simp only [Act.put, List.setIfInBounds_toArray, List.set_cons_zero, List.set_cons_succ, i64_w, i32_w]
                              rfl
                            refine one_ (i := 12) (N := some 21) #[true, true, true, true, true, true, true, true, true, true, true, true, true, false, false] rfl rfl (one_of HT_.out (by kernel_rfl)) (by decide) (fun K hK => ?_)
                            have hcv23 := own_string (P := Tryd.prog) Tryd.underlying35 Tryd.underlying5 Tryd.underlying9 (Kd.own_of_R HO141.out)
                            refine value_ (w1 := ?_) (v := ?_) (by rfl) rfl ?_ ?_
                            rotate_left 2
                            · go_simp
                              constructor
                              · rfl
                              · rfl
                            clear hcv23
                            refine hK.out _ _ ⟨(blk_cell BK136.out 0).trans rfl, (blk_cell BK136.out 1).trans rfl, (blk_cell BK136.out 2).trans rfl, (blk_cell BK136.out 3).trans rfl⟩ (fun hHeld => ?_)
                            clear hK K
                            refine norm_ (a' := ?_) ?_ ?_
                            rotate_left
                            · show Act.put _ (some 21) _ = _
                              simp only [Act.put, List.setIfInBounds_toArray, List.set_cons_zero, List.set_cons_succ, i64_w, i32_w]
                              rfl
                            exact norm_ (by simp only [putAll, Act.put, List.setIfInBounds_toArray, List.set_cons_zero, List.set_cons_succ]) (hCont (v140) _ ⟨hHeld, (by (with_reducible repeat (first | apply Kd.R_alloc | apply Kd.R_drewN | apply Kd.R_drew)); exact HO141.out), (by (with_reducible repeat (first | refine blk_drewN ?_ _ | refine blk_drew ?_ | refine blk_alloc ?_ _)); exact BK136.out), (by repeat (first | (with_reducible first | exact HB.out | apply below_alloc | apply pw_below_drewN | apply below_drew1 | refine below_set ?_ GE136.out) | exact HB.out))⟩)
                          · skip
                            have hcv22 := own_string (P := Tryd.prog) Tryd.underlying35 Tryd.underlying5 Tryd.underlying9 (Kd.own_of_R HO141.out)
                            refine value_ (w1 := ?_) (v := ?_) (by rfl) rfl ?_ ?_
                            rotate_left 2
                            · go_simp
                              constructor
                              · rfl
                              · rfl
                            clear hcv22
                            refine hK.out _ _ ⟨(blk_cell BK136.out 0).trans rfl, (blk_cell BK136.out 1).trans rfl, (blk_cell BK136.out 2).trans rfl, (blk_cell BK136.out 3).trans rfl⟩ (fun hHeld => ?_)
                            clear hK K
                            refine norm_ (a' := ?_) ?_ ?_
                            rotate_left
                            · show Act.put _ (some 21) _ = _
                              simp only [Act.put, List.setIfInBounds_toArray, List.set_cons_zero, List.set_cons_succ, i64_w, i32_w]
                              rfl
                            refine one_ (i := 6) (N := some 15) #[true, true, true, true, true, true, true, false, true, true, true, true, true, false, false] rfl rfl (one_of HT_.out (by kernel_rfl)) (by decide) (fun K hK => ?_)
                            refine goes_ Tryd.func32 (by kernel_rfl) rfl #[.int .i64 (wrap64 (16 + (a0_3.size : Int)))] (by rfl) rfl rfl (by (try simp only [List.map_toArray, List.map_cons, List.map_nil]); first | done | rfl | (simp only [List.length_drop, List.length_take]; rfl)) ?_
                            with_reducible refine (platformfwref07_four.calls (wrap64 (16 + (a0_3.size : Int))) t138 _ A4.out).mono ?_
                            rintro e w23 ⟨rfl, hb⟩
                            refine ⟨_, rfl, ?_⟩
                            have n0_ := Aside0.mk (Kd.R_below (by (with_reducible repeat (first | apply Kd.R_alloc | apply Kd.R_drewN | apply Kd.R_drew)); exact HO141.out) hb)
                            have n1_ := Aside0.mk (blk_below (g := gb136) (o := .cells #[.string a0_0, .int .i64 a0_1, .string a0_2, .string a0_3] 23 (0, 0)) (by (with_reducible repeat (first | refine blk_drewN ?_ _ | refine blk_drew ?_ | refine blk_alloc ?_ _)); exact BK136.out) hb)
                            have n2_ := Aside0.mk (below_step (by repeat (first | (with_reducible first | exact HB.out | apply below_alloc | apply pw_below_drewN | apply below_drew1 | refine below_set ?_ GE136.out) | exact HB.out)) hb)
                            clear HO141
                            clear BK136
                            clear HB
                            have HO141 := n0_
                            have BK136 := n1_
                            have HB := n2_
                            clear n0_ n1_ n2_
                            (try clear hb)
                            (try clear hb2)
                            (try clear hk)
                            (try clear hi)
                            refine hK.out _ _ ⟨(blk_cell BK136.out 0).trans rfl, (blk_cell BK136.out 1).trans rfl, (blk_cell BK136.out 2).trans rfl, (blk_cell BK136.out 3).trans rfl⟩ (fun hHeld => ?_)
                            clear hK K
                            refine norm_ (a' := ?_) ?_ ?_
                            rotate_left
                            · show Act.put _ (some 15) _ = _
                              simp only [Act.put, List.setIfInBounds_toArray, List.set_cons_zero, List.set_cons_succ, i64_w, i32_w]
                              rfl
                            refine pure_ (i := 7) (N := some 16) (v := ?_) (a' := ?_) #[true, true, true, true, true, true, true, true, true, true, true, true, true, false, false] rfl rfl (any_of HT_.out (by kernel_rfl)) (fun _ _ _ h => h) (Or.inl ⟨by rfl, ?_⟩) ?_ ?_
                            rotate_left
                            · intro w'
                              go_simp
                              with_reducible rfl
                            rotate_left
                            · simp only [Act.put, List.setIfInBounds_toArray, List.set_cons_zero, List.set_cons_succ, i64_w, i32_w]
                              rfl
                            exact norm_ (by simp only [putAll, Act.put, List.setIfInBounds_toArray, List.set_cons_zero, List.set_cons_succ]) (hCont (v140) _ ⟨hHeld, (by (with_reducible repeat (first | apply Kd.R_alloc | apply Kd.R_drewN | apply Kd.R_drew)); exact HO141.out), (by (with_reducible repeat (first | refine blk_drewN ?_ _ | refine blk_drew ?_ | refine blk_alloc ?_ _)); exact BK136.out), (by repeat (first | (with_reducible first | exact HB.out | apply below_alloc | apply pw_below_drewN | apply below_drew1 | refine below_set ?_ GE136.out) | exact HB.out))⟩)
                      rintro v140 w24 ⟨hS_, h0_, h1_, h2_⟩
                      have n0_ : Aside0 (Kd.R (Kd.int .u8) 5 w24 w.heap.size (fun _ => True) v140 y139) := ⟨h0_⟩
                      have n1_ : Aside0 (w24.heap[gb136]? = some (.cells #[.string a0_0, .int .i64 a0_1, .string a0_2, .string a0_3] 23 (0, 0))) := ⟨h1_⟩
                      have n2_ : Aside0 (Below w.heap.size w w24) := ⟨h2_⟩
                      clear BK136
                      clear HB
                      clear h0_ h1_ h2_
                      have HO141 := n0_
                      have BK136 := n1_
                      have HB := n2_
                      clear n0_ n1_ n2_
                      have hHeld : w24.cell? ⟨gb136, 0, none⟩ = some (.string a0_0) ∧ w24.cell? ⟨gb136, 1, none⟩ = some (.int .i64 a0_1) ∧ w24.cell? ⟨gb136, 2, none⟩ = some (.string a0_2) ∧ w24.cell? ⟨gb136, 3, none⟩ = some (.string a0_3) := hS_
                      refine norm_ (a' := ?_) ?_ ?_
                      rotate_left
                      · simp only [putAll, Act.put, List.setIfInBounds_toArray, List.set_cons_zero, List.set_cons_succ]
                        rfl
                      refine pure_ (i := 13) (N := some 22) (v := ?_) (a' := ?_) #[true, true, true, true, true, true, true, true, true, true, true, true, true, true, false] rfl rfl (any_of HT_.out (by kernel_rfl)) (fun _ _ _ h => h) (Or.inl ⟨by rfl, ?_⟩) ?_ ?_
                      rotate_left
                      · intro w'
                        go_simp
                        with_reducible rfl
                      rotate_left
                      · simp only [Act.put, List.setIfInBounds_toArray, List.set_cons_zero, List.set_cons_succ, i64_w, i32_w]
                        rfl
                      refine pure_ (i := 14) (N := some 4) (v := ?_) (a' := ?_) #[true, true, true, true, true, true, true, true, true, true, true, true, true, true, true] rfl rfl (any_of HT_.out (by kernel_rfl)) (fun _ _ _ h => h) (Or.inl ⟨by rfl, ?_⟩) ?_ ?_
                      rotate_left
                      · intro w'
                        go_simp
                        with_reducible rfl
                      rotate_left
                      · simp only [Act.put, List.setIfInBounds_toArray, List.set_cons_zero, List.set_cons_succ, i64_w, i32_w]
                        rfl
                      refine done_ (done_of HT_.out (by kernel_rfl)) ?_
                      try go_wp2
                      have n0_ := Aside0.mk (Kd.R_drew HO141.out)
                      have n1_ := Aside0.mk (blk_drew BK136.out)
                      have n2_ := Aside0.mk (below_drew1 HB.out)
                      clear HO141
                      clear BK136
                      clear HB
                      have HO141 := n0_
                      have BK136 := n1_
                      have HB := n2_
                      clear n0_ n1_ n2_
                      refine start_ (n := 12) (S := fun w' => w'.cell? ⟨gb136, 0, none⟩ = some (.string a0_0) ∧ w'.cell? ⟨gb136, 1, none⟩ = some (.int .i64 a0_1) ∧ w'.cell? ⟨gb136, 2, none⟩ = some (.string a0_2) ∧ w'.cell? ⟨gb136, 3, none⟩ = some (.string a0_3)) (ds := []) #[false, false, false, false, false, false, false, false, false, false, false, false] (by kernel_rfl) rfl rfl ⟨(blk_cell BK136.out 0).trans rfl, (blk_cell BK136.out 1).trans rfl, (blk_cell BK136.out 2).trans rfl, (blk_cell BK136.out 3).trans rfl⟩ (fun hHeld => ?_); refine with_tabW platformfwref07_Encode.tab4 platformfwref07_Encode.bits4 (fun HT_ HW_ => ?_)
                      generalize w24.drew = w25 at HO141 BK136 HB hHeld ⊢
                      refine pure_ (i := 0) (N := some 23) (v := ?_) (a' := ?_) #[true, false, false, false, false, false, false, false, false, false, false, false] rfl rfl (any_of HT_.out (by kernel_rfl)) (fun _ _ _ h => h) (Or.inl ⟨by rfl, ?_⟩) ?_ ?_
                      rotate_left
                      · intro w'
                        go_simp
                        with_reducible rfl
                      rotate_left
                      · simp only [Act.put, List.setIfInBounds_toArray, List.set_cons_zero, List.set_cons_succ, i64_w, i32_w]
                        rfl
                      refine pure_ (i := 2) (N := some 25) (v := ?_) (a' := ?_) #[true, false, true, false, false, false, false, false, false, false, false, false] rfl rfl (any_of HT_.out (by kernel_rfl)) (fun _ _ _ h => h) (Or.inl ⟨by rfl, ?_⟩) ?_ ?_
                      rotate_left
                      · intro w'
                        go_simp
                        with_reducible rfl
                      rotate_left
                      · simp only [Act.put, List.setIfInBounds_toArray, List.set_cons_zero, List.set_cons_succ, i64_w, i32_w]
                        rfl
                      refine pure_ (i := 8) (N := some 31) (v := ?_) (a' := ?_) #[true, false, true, false, false, false, false, false, true, false, false, false] rfl rfl (any_of HT_.out (by kernel_rfl)) (fun _ _ _ h => h) (Or.inl ⟨by rfl, ?_⟩) ?_ ?_
                      rotate_left
                      · intro w'
                        go_simp
                        with_reducible rfl
                      rotate_left
                      · simp only [Act.put, List.setIfInBounds_toArray, List.set_cons_zero, List.set_cons_succ, i64_w, i32_w]
                        rfl
                      refine take_ (i := 1) (N := some 24) (v := ?_) (a' := ?_) #[true, true, true, false, false, false, false, false, true, false, false, false] rfl rfl (take_ofW HT_.out HW_.out (by kernel_rfl)) (fun _ _ _ h => h) (Or.inl ⟨by rfl, ?_⟩) hHeld ?_ ?_
                      rotate_left
                      · rintro w' ⟨s0, s1, s2, s3⟩
                        go_simp
                        with_reducible rfl
                      rotate_left
                      · simp only [Act.put, List.setIfInBounds_toArray, List.set_cons_zero, List.set_cons_succ, i64_w, i32_w]
                        rfl
                      refine take_ (i := 3) (N := some 26) (v := ?_) (a' := ?_) #[true, true, true, true, false, false, false, false, true, false, false, false] rfl rfl (take_ofW HT_.out HW_.out (by kernel_rfl)) (fun _ _ _ h => h) (Or.inl ⟨by rfl, ?_⟩) hHeld ?_ ?_
                      rotate_left
                      · rintro w' ⟨s0, s1, s2, s3⟩
                        go_simp
                        with_reducible rfl
                      rotate_left
                      · simp only [Act.put, List.setIfInBounds_toArray, List.set_cons_zero, List.set_cons_succ, i64_w, i32_w]
                        rfl
                      refine pure_ (i := 4) (N := some 27) (v := ?_) (a' := ?_) #[true, true, true, true, true, false, false, false, true, false, false, false] rfl rfl (any_of HT_.out (by kernel_rfl)) (fun _ _ _ h => h) (Or.inl ⟨by rfl, ?_⟩) ?_ ?_
                      rotate_left
                      · intro w'
                        go_simp
                        with_reducible rfl
                      rotate_left
                      · simp only [Act.put, List.setIfInBounds_toArray, List.set_cons_zero, List.set_cons_succ, i64_w, i32_w]
                        rfl
                      refine pure_ (i := 5) (N := some 28) (v := ?_) (a' := ?_) #[true, true, true, true, true, true, false, false, true, false, false, false] rfl rfl (any_of HT_.out (by kernel_rfl)) (fun _ _ _ h => h) (Or.inl ⟨by rfl, ?_⟩) ?_ ?_
                      rotate_left
                      · intro w'
                        go_simp
                        with_reducible rfl
                      rotate_left
                      · simp only [Act.put, List.setIfInBounds_toArray, List.set_cons_zero, List.set_cons_succ, i64_w, i32_w]
                        rfl
                      refine pure_ (i := 6) (N := some 29) (v := ?_) (a' := ?_) #[true, true, true, true, true, true, true, false, true, false, false, false] rfl rfl (any_of HT_.out (by kernel_rfl)) (fun _ _ _ h => h) (Or.inl ⟨by rfl, ?_⟩) ?_ ?_
                      rotate_left
                      · intro w'
                        go_simp
                        with_reducible rfl
                      rotate_left
                      · simp only [Act.put, List.setIfInBounds_toArray, List.set_cons_zero, List.set_cons_succ, i64_w, i32_w]
                        rfl
                      refine pure_ (i := 7) (N := some 30) (v := ?_) (a' := ?_) #[true, true, true, true, true, true, true, true, true, false, false, false] rfl rfl (any_of HT_.out (by kernel_rfl)) (fun _ _ _ h => h) (Or.inl ⟨by rfl, ?_⟩) ?_ ?_
                      rotate_left
                      · intro w'
                        go_simp
                        with_reducible rfl
                      rotate_left
                      · simp only [Act.put, List.setIfInBounds_toArray, List.set_cons_zero, List.set_cons_succ, i64_w, i32_w]
                        rfl
                      refine take_ (i := 9) (N := some 32) (v := ?_) (a' := ?_) #[true, true, true, true, true, true, true, true, true, true, false, false] rfl rfl (take_ofW HT_.out HW_.out (by kernel_rfl)) (fun _ _ _ h => h) (Or.inl ⟨by rfl, ?_⟩) hHeld ?_ ?_
                      rotate_left
                      · rintro w' ⟨s0, s1, s2, s3⟩
                        go_simp
                        with_reducible rfl
                      rotate_left
                      · simp only [Act.put, List.setIfInBounds_toArray, List.set_cons_zero, List.set_cons_succ, i64_w, i32_w]
                        rfl
                      refine pure_ (i := 10) (N := some 33) (v := ?_) (a' := ?_) #[true, true, true, true, true, true, true, true, true, true, true, false] rfl rfl (any_of HT_.out (by kernel_rfl)) (fun _ _ _ h => h) (Or.inl ⟨by rfl, ?_⟩) ?_ ?_
                      rotate_left
                      · intro w'
                        go_simp
                        with_reducible rfl
                      rotate_left
                      · simp only [Act.put, List.setIfInBounds_toArray, List.set_cons_zero, List.set_cons_succ, i64_w, i32_w]
                        rfl
                      refine pure_ (i := 11) (N := some 5) (v := ?_) (a' := ?_) #[true, true, true, true, true, true, true, true, true, true, true, true] rfl rfl (any_of HT_.out (by kernel_rfl)) (fun _ _ _ h => h) (Or.inl ⟨by rfl, ?_⟩) ?_ ?_
                      rotate_left
                      · intro w'
                        go_simp
                        with_reducible rfl
                      rotate_left
                      · simp only [Act.put, List.setIfInBounds_toArray, List.set_cons_zero, List.set_cons_succ, i64_w, i32_w]
                        rfl
                      refine done_ (done_of HT_.out (by kernel_rfl)) ?_
                      try go_wp2_with (first | ((with_reducible refine gate_callee (f := 13) rfl ?_); refine goesL_ (some 38) rfl rfl Tryd.func13 (by kernel_rfl) rfl #[.string (((a0_0 ++ t138) ++ (strOfNums y139)) ++ ((a0_2 ++ ((⟨#[0, 0, 0, 0, 0, 0]⟩ : ByteArray).extract 0 ((ji7) : Int).toNat)) ++ a0_3))] rfl (by (try simp only [List.map_toArray, List.map_cons, List.map_nil]); first | done | (simp only [hji7]; rfl) | rfl | (simp only [List.length_drop, List.length_take]; rfl)) ?_; (with_reducible refine (platformfwref07_Sum.calls k (((a0_0 ++ t138) ++ (strOfNums y139)) ++ ((a0_2 ++ ((⟨#[0, 0, 0, 0, 0, 0]⟩ : ByteArray).extract 0 ((ji7) : Int).toNat)) ++ a0_3)) t142 _ A13.out).mono ?_); rintro e w' ⟨rfl, ⟨nd, rfl⟩⟩; refine ⟨_, rfl, ?_⟩) | ((with_reducible refine gate_dst (N := 40) rfl ?_); refine Kd.R_lit (Kd.int .u8) _ 5 ?hg (N := 40) ?hd (xs := ([(-t142) % 256] : List Int)) (inner := [.int .u8 ((-t142) % 256)]) (ok := fun _ => True) (okp := fun _ => True) ?hr ?hp (fun _ hk => hk) trivial (Below.refl _ _) (Nat.le_refl _) (by simp) ?_; (case hd => rfl); (case hg => rfl); (case hr => first | (go_simp; done) | (go_simp; rfl)); (case hp => exact (Reps.one (show Kd.M (Kd.int .u8) _ _ _ ((-t142) % 256) [.int .u8 ((-t142) % 256)] from rfl) (Reps.none _ _))); intro v144 w26 ho27 hb hg_ hnew_; clear hg_ hnew_; (first | rw [← Ny143.out] at ho27 | (simp only [Int.reduceToNat] at ho27; rw [← Ny143.out] at ho27)); have n0_ := Aside0.mk (Kd.R_elder' (by (with_reducible repeat (first | apply Kd.R_alloc | apply Kd.R_drewN | apply Kd.R_drew)); exact HO141.out) (Kd.R_base ho27) hb); have n1_ := Aside0.mk (Kd.R_lower (Kd.R_new' ho27 (Kd.R_lt (by (with_reducible repeat (first | apply Kd.R_alloc | apply Kd.R_drewN | apply Kd.R_drew)); exact HO141.out))) (below_size (by repeat (first | (with_reducible first | exact HB.out | apply below_alloc | apply pw_below_drewN | apply below_drew1 | refine below_set ?_ GE136.out) | exact HB.out)))); have n2_ := Aside0.mk (blk_below (g := gb136) (o := .cells #[.string a0_0, .int .i64 a0_1, .string a0_2, .string a0_3] 23 (0, 0)) (by (with_reducible repeat (first | refine blk_drewN ?_ _ | refine blk_drew ?_ | refine blk_alloc ?_ _)); exact BK136.out) hb); have n3_ := Aside0.mk (below_step (by repeat (first | (with_reducible first | exact HB.out | apply below_alloc | apply pw_below_drewN | apply below_drew1 | refine below_set ?_ GE136.out) | exact HB.out)) hb); clear HO141; clear BK136; clear HB; have HO141 := n0_; have HO145 := n1_; have BK136 := n2_; have HB := n3_; clear n0_ n1_ n2_ n3_; clear hb ho27; have hcv28 := own_string (P := Tryd.prog) Tryd.underlying35 Tryd.underlying5 Tryd.underlying9 (Kd.own_of_R HO145.out)))
                      go_ret2
                      exact ⟨by first | rfl | (simp [errW_none, errW_some] <;> rfl) | (simp only [← hji7]; first | rfl | (simp [errW_none, errW_some] <;> rfl)) | (simp [*, errW_none, errW_some] <;> rfl), by repeat (first | (with_reducible first | exact HB.out | apply below_alloc | apply pw_below_drewN | apply below_drew1 | refine below_set ?_ GE136.out) | exact HB.out)⟩
                    · rw [if_neg c15] at H
                      exact absurd H (by simp)
                  · rw [if_neg c14] at H
                    exact absurd H (by simp)
                · rw [if_neg c12] at H
                  exact absurd H (by simp)
              · rw [if_neg c11] at H
                exact absurd H (by simp)
            · rw [if_neg c10] at H
              exact absurd H (by simp)
          · rw [if_neg c9] at H
            exact absurd H (by simp)
        · rw [if_neg c8] at H
          exact absurd H (by simp)
      · rw [if_neg c6] at H
        exact absurd H (by simp)
    · rw [if_neg c5] at H
      exact absurd H (by simp)
  · replace c3 := Bool.eq_false_iff.mpr c3
    subst c3
    have H1 : (some ((⟨#[]⟩ : ByteArray), 1)) = some (r1, r2) := by rw [if_neg (show ¬ (false = true) by decide)] at H; exact H
    clear H
    have H := H1
    clear H1
    simp only [Option.some.injEq, Prod.mk.injEq] at H
    obtain ⟨rfl, rfl⟩ := H
    go_enter Tryd.func17, Tryd.ntmps17
    go_wp2_with (first | ((with_reducible refine gate_dst (N := 1) rfl ?_); refine box_event ?hg (N := 1) ?hd (cs := #[.string a0_0, .int .i64 a0_1, .string a0_2, .string a0_3]) (t := 23) ?hr ?_; (case hd => rfl); (case hg => rfl); (case hr => first | (go_simp; done) | (go_simp; rfl)); intro gb136 hg w29 hbox hb; have n0_ := Aside0.mk (below_step (by repeat (first | (with_reducible first | exact HB.out | apply below_alloc | apply pw_below_drewN | apply below_drew1) | exact HB.out)) hb); have n1_ := Aside0.mk (hbox); have n2_ := Aside0.mk ((by rw [hg]; exact (below_size (by repeat (first | (with_reducible first | exact HB.out | apply below_alloc | apply pw_below_drewN | apply below_drew1) | exact HB.out))) : w.heap.size ≤ gb136)); have n3_ := Aside0.mk ((by rw [hg]; exact (below_size (by repeat (first | (with_reducible first | exact HB.out | apply below_alloc | apply pw_below_drewN | apply below_drew1) | exact HB.out))) : w.heap.size ≤ gb136)); clear HB; have HB := n0_; have BK136 := n1_; have GW136 := n2_; have GE136 := n3_; clear n0_ n1_ n2_ n3_; clear hb hbox hg; have hcz30_0 : w29.cell? ⟨gb136, 0, none⟩ = some (.string a0_0) := (blk_cell BK136.out 0).trans rfl; have hcz30_1 : w29.cell? ⟨gb136, 1, none⟩ = some (.int .i64 a0_1) := (blk_cell BK136.out 1).trans rfl; have hcz30_2 : w29.cell? ⟨gb136, 2, none⟩ = some (.string a0_2) := (blk_cell BK136.out 2).trans rfl; have hcz30_3 : w29.cell? ⟨gb136, 3, none⟩ = some (.string a0_3) := (blk_cell BK136.out 3).trans rfl; have hfz30_0 := blk_frozen BK136.out 0; have hfz30_1 := blk_frozen BK136.out 1; have hfz30_2 := blk_frozen BK136.out 2; have hfz30_3 := blk_frozen BK136.out 3) | ((with_reducible refine gate_callee (f := 14) rfl ?_); refine goesL_ (some 7) rfl rfl Tryd.func14 (by kernel_rfl) rfl #[.agg #[.string a0_0, .int .i64 a0_1, .string a0_2, .string a0_3]] rfl (by (try simp only [List.map_toArray, List.map_cons, List.map_nil]); first | done | rfl | (simp only [List.length_drop, List.length_take]; rfl)) ?_; (with_reducible refine (platformfwref07_Valid.calls k a0_0 a0_1 a0_2 a0_3 false _ A2.out).mono ?_); rintro e w31 ⟨rfl, hb⟩; refine ⟨_, rfl, ?_⟩; have n0_ := Aside0.mk (blk_below (g := gb136) (o := .cells #[.string a0_0, .int .i64 a0_1, .string a0_2, .string a0_3] 23 (0, 0)) (by (with_reducible repeat (first | refine blk_drewN ?_ _ | refine blk_drew ?_ | refine blk_alloc ?_ _)); exact BK136.out) hb); have n1_ := Aside0.mk (below_step (by repeat (first | (with_reducible first | exact HB.out | apply below_alloc | apply pw_below_drewN | apply below_drew1 | refine below_set ?_ GE136.out) | exact HB.out)) hb); clear BK136; clear HB; have BK136 := n0_; have HB := n1_; clear n0_ n1_; (try clear hb); (try clear hb2); (try clear hk); (try clear hi)))
    go_ret2
    exact ⟨by first | rfl | (simp [errW_none, errW_some] <;> rfl) | (simp [*, errW_none, errW_some] <;> rfl), by repeat (first | (with_reducible first | exact HB.out | apply below_alloc | apply pw_below_drewN | apply below_drew1 | refine below_set ?_ GE136.out) | exact HB.out)⟩

/-! ### platformfwhelp_Mod: function 18 -/
def platformfwhelp_Mod.f (a0 : Int) (a1 : Int) : Option (Int) := if (IntKind.u64.wrap (a1)) = 0 then (none) else (some (wrap64 (Int.tmod (IntKind.u64.wrap (a0)) (IntKind.u64.wrap (a1)))))
set_option maxHeartbeats 8000000 in
set_option maxRecDepth 100000 in
theorem platformfwhelp_Mod.calls (a0 : Int) (a1 : Int) (r : Int) (w : World) (h : platformfwhelp_Mod.f a0 a1 = some r) :
    Calls Tryd.prog 18 #[.int .i64 a0, .int .i64 a1] w fun e w' => e = .returned (.int .i64 r) ∧ Drawn0 w w' := by
  have H : (if (IntKind.u64.wrap (a1)) = 0 then (none) else (some (wrap64 (Int.tmod (IntKind.u64.wrap (a0)) (IntKind.u64.wrap (a1)))))) = some r := h
  clear h
  by_cases c3 : (IntKind.u64.wrap (a1)) = 0
  · rw [if_pos c3] at H
    exact absurd H (by simp)
  · rw [if_neg c3] at H
    have c3b0 : ((IntKind.u64.wrap (a1)) == 0) = false := beq_eq_false_iff_ne.mpr c3
    have c3b1 : ((IntKind.u64.wrap (a1)) != 0) = true := bne_iff_ne.mpr c3
    obtain rfl := Option.some.inj H
    go_enter Tryd.func18, Tryd.ntmps18
    go_wp2
    go_ret
    exact ⟨by first | rfl | (simp; done) | (simp [*]; done), by repeat (first | exact Drawn0.refl _ | apply Drawn0.step)⟩

/-! ### sdt_isDirectory: function 35 -/
def sdt_isDirectory.f (a0_0 : ByteArray) (a0_1 : Int) (a0_2 : ByteArray) (a0_3 : ByteArray) : Option (Bool) := if a0_0.toList = ([82, 83, 68, 84] : List UInt8) then (if a0_1 = 1 then (if a0_2.toList = ([80, 76, 65, 84, 70, 87] : List UInt8) then (if (a0_3.size : Int) > 0 then (if ((a0_3.size : Int) % 4) = 0 then (some (decide ((wrap64 ((a0_3.size : Int) / 4)) ≤ 16))) else (some false)) else (some false)) else (some false)) else (some false)) else (some false)
set_option maxHeartbeats 8000000 in
set_option maxRecDepth 100000 in
theorem sdt_isDirectory.calls (a0_0 : ByteArray) (a0_1 : Int) (a0_2 : ByteArray) (a0_3 : ByteArray) (r : Bool) (w : World) (h : sdt_isDirectory.f a0_0 a0_1 a0_2 a0_3 = some r) :
    Calls Tryd.prog 35 #[.agg #[.string a0_0, .int .i64 a0_1, .string a0_2, .string a0_3]] w fun e w' => e = .returned (.bool r) ∧ Below w.heap.size w w' := by
  have hu23 := Tryd.underlying23
  have HB := Aside0.mk (Below.refl w.heap.size w)
  have H : (if a0_0.toList = ([82, 83, 68, 84] : List UInt8) then (if a0_1 = 1 then (if a0_2.toList = ([80, 76, 65, 84, 70, 87] : List UInt8) then (if (a0_3.size : Int) > 0 then (if ((a0_3.size : Int) % 4) = 0 then (some (decide ((wrap64 ((a0_3.size : Int) / 4)) ≤ 16))) else (some false)) else (some false)) else (some false)) else (some false)) else (some false)) = some r := h
  clear h
  by_cases c2 : a0_0.toList = ([82, 83, 68, 84] : List UInt8)
  · rw [if_pos c2] at H
    have c2b0 : (a0_0.toList == ([82, 83, 68, 84] : List UInt8)) = true := beq_iff_eq.mpr c2
    have c2b1 : (a0_0.toList != ([82, 83, 68, 84] : List UInt8)) = false := bne_eq_false_iff_eq.mpr c2
    clear c2
    by_cases c3 : a0_1 = 1
    · rw [if_pos c3] at H
      have c3b0 : (a0_1 == 1) = true := beq_iff_eq.mpr c3
      have c3b1 : (a0_1 != 1) = false := bne_eq_false_iff_eq.mpr c3
      clear c3
      by_cases c4 : a0_2.toList = ([80, 76, 65, 84, 70, 87] : List UInt8)
      · rw [if_pos c4] at H
        have c4b0 : (a0_2.toList == ([80, 76, 65, 84, 70, 87] : List UInt8)) = true := beq_iff_eq.mpr c4
        have c4b1 : (a0_2.toList != ([80, 76, 65, 84, 70, 87] : List UInt8)) = false := bne_eq_false_iff_eq.mpr c4
        clear c4
        by_cases c5 : (a0_3.size : Int) > 0
        · rw [if_pos c5] at H
          have c5b0 : decide (0 < (a0_3.size : Int)) = true := decide_eq_true c5
          have c5b1 : decide (0 < a0_3.size) = true := decide_eq_true (by omega)
          clear c5
          by_cases c6 : ((a0_3.size : Int) % 4) = 0
          · rw [if_pos c6] at H
            have c6b0 : (((a0_3.size : Int) % 4) == 0) = true := beq_iff_eq.mpr c6
            have c6b1 : (((a0_3.size : Int) % 4) != 0) = false := bne_eq_false_iff_eq.mpr c6
            clear c6
            obtain rfl := Option.some.inj H
            go_enter Tryd.func35, Tryd.ntmps35
            go_wp2_with (first | ((with_reducible refine gate_dst (N := 1) rfl ?_); refine box_event ?hg (N := 1) ?hd (cs := #[.string a0_0, .int .i64 a0_1, .string a0_2, .string a0_3]) (t := 23) ?hr ?_; (case hd => rfl); (case hg => rfl); (case hr => first | (go_simp; done) | (go_simp; rfl)); intro gb146 hg w7 hbox hb; have n0_ := Aside0.mk (below_step (by repeat (first | (with_reducible first | exact HB.out | apply below_alloc | apply pw_below_drewN | apply below_drew1) | exact HB.out)) hb); have n1_ := Aside0.mk (hbox); have n2_ := Aside0.mk ((by rw [hg]; exact (below_size (by repeat (first | (with_reducible first | exact HB.out | apply below_alloc | apply pw_below_drewN | apply below_drew1) | exact HB.out))) : w.heap.size ≤ gb146)); have n3_ := Aside0.mk ((by rw [hg]; exact (below_size (by repeat (first | (with_reducible first | exact HB.out | apply below_alloc | apply pw_below_drewN | apply below_drew1) | exact HB.out))) : w.heap.size ≤ gb146)); clear HB; have HB := n0_; have BK146 := n1_; have GW146 := n2_; have GE146 := n3_; clear n0_ n1_ n2_ n3_; clear hb hbox hg; have hcz8_0 : w7.cell? ⟨gb146, 0, none⟩ = some (.string a0_0) := (blk_cell BK146.out 0).trans rfl; have hcz8_1 : w7.cell? ⟨gb146, 1, none⟩ = some (.int .i64 a0_1) := (blk_cell BK146.out 1).trans rfl; have hcz8_2 : w7.cell? ⟨gb146, 2, none⟩ = some (.string a0_2) := (blk_cell BK146.out 2).trans rfl; have hcz8_3 : w7.cell? ⟨gb146, 3, none⟩ = some (.string a0_3) := (blk_cell BK146.out 3).trans rfl; have hfz8_0 := blk_frozen BK146.out 0; have hfz8_1 := blk_frozen BK146.out 1; have hfz8_2 := blk_frozen BK146.out 2; have hfz8_3 := blk_frozen BK146.out 3))
            go_ret
            exact ⟨by first | rfl | (simp [errW_none, errW_some] <;> rfl) | (simp [*, errW_none, errW_some] <;> rfl), by repeat (first | (with_reducible first | exact HB.out | apply below_alloc | apply pw_below_drewN | apply below_drew1 | refine below_set ?_ GE146.out) | exact HB.out)⟩
          · rw [if_neg c6] at H
            have c6b0 : (((a0_3.size : Int) % 4) == 0) = false := beq_eq_false_iff_ne.mpr c6
            have c6b1 : (((a0_3.size : Int) % 4) != 0) = true := bne_iff_ne.mpr c6
            obtain rfl := Option.some.inj H
            go_enter Tryd.func35, Tryd.ntmps35
            go_wp2_with (first | ((with_reducible refine gate_dst (N := 1) rfl ?_); refine box_event ?hg (N := 1) ?hd (cs := #[.string a0_0, .int .i64 a0_1, .string a0_2, .string a0_3]) (t := 23) ?hr ?_; (case hd => rfl); (case hg => rfl); (case hr => first | (go_simp; done) | (go_simp; rfl)); intro gb146 hg w9 hbox hb; have n0_ := Aside0.mk (below_step (by repeat (first | (with_reducible first | exact HB.out | apply below_alloc | apply pw_below_drewN | apply below_drew1) | exact HB.out)) hb); have n1_ := Aside0.mk (hbox); have n2_ := Aside0.mk ((by rw [hg]; exact (below_size (by repeat (first | (with_reducible first | exact HB.out | apply below_alloc | apply pw_below_drewN | apply below_drew1) | exact HB.out))) : w.heap.size ≤ gb146)); have n3_ := Aside0.mk ((by rw [hg]; exact (below_size (by repeat (first | (with_reducible first | exact HB.out | apply below_alloc | apply pw_below_drewN | apply below_drew1) | exact HB.out))) : w.heap.size ≤ gb146)); clear HB; have HB := n0_; have BK146 := n1_; have GW146 := n2_; have GE146 := n3_; clear n0_ n1_ n2_ n3_; clear hb hbox hg; have hcz10_0 : w9.cell? ⟨gb146, 0, none⟩ = some (.string a0_0) := (blk_cell BK146.out 0).trans rfl; have hcz10_1 : w9.cell? ⟨gb146, 1, none⟩ = some (.int .i64 a0_1) := (blk_cell BK146.out 1).trans rfl; have hcz10_2 : w9.cell? ⟨gb146, 2, none⟩ = some (.string a0_2) := (blk_cell BK146.out 2).trans rfl; have hcz10_3 : w9.cell? ⟨gb146, 3, none⟩ = some (.string a0_3) := (blk_cell BK146.out 3).trans rfl; have hfz10_0 := blk_frozen BK146.out 0; have hfz10_1 := blk_frozen BK146.out 1; have hfz10_2 := blk_frozen BK146.out 2; have hfz10_3 := blk_frozen BK146.out 3))
            go_ret
            exact ⟨by first | rfl | (simp [errW_none, errW_some] <;> rfl) | (simp [*, errW_none, errW_some] <;> rfl), by repeat (first | (with_reducible first | exact HB.out | apply below_alloc | apply pw_below_drewN | apply below_drew1 | refine below_set ?_ GE146.out) | exact HB.out)⟩
        · rw [if_neg c5] at H
          have c5b0 : decide (0 < (a0_3.size : Int)) = false := decide_eq_false c5
          have c5b1 : decide (0 < a0_3.size) = false := decide_eq_false (by omega)
          clear c5
          obtain rfl := Option.some.inj H
          go_enter Tryd.func35, Tryd.ntmps35
          go_wp2_with (first | ((with_reducible refine gate_dst (N := 1) rfl ?_); refine box_event ?hg (N := 1) ?hd (cs := #[.string a0_0, .int .i64 a0_1, .string a0_2, .string a0_3]) (t := 23) ?hr ?_; (case hd => rfl); (case hg => rfl); (case hr => first | (go_simp; done) | (go_simp; rfl)); intro gb146 hg w11 hbox hb; have n0_ := Aside0.mk (below_step (by repeat (first | (with_reducible first | exact HB.out | apply below_alloc | apply pw_below_drewN | apply below_drew1) | exact HB.out)) hb); have n1_ := Aside0.mk (hbox); have n2_ := Aside0.mk ((by rw [hg]; exact (below_size (by repeat (first | (with_reducible first | exact HB.out | apply below_alloc | apply pw_below_drewN | apply below_drew1) | exact HB.out))) : w.heap.size ≤ gb146)); have n3_ := Aside0.mk ((by rw [hg]; exact (below_size (by repeat (first | (with_reducible first | exact HB.out | apply below_alloc | apply pw_below_drewN | apply below_drew1) | exact HB.out))) : w.heap.size ≤ gb146)); clear HB; have HB := n0_; have BK146 := n1_; have GW146 := n2_; have GE146 := n3_; clear n0_ n1_ n2_ n3_; clear hb hbox hg; have hcz12_0 : w11.cell? ⟨gb146, 0, none⟩ = some (.string a0_0) := (blk_cell BK146.out 0).trans rfl; have hcz12_1 : w11.cell? ⟨gb146, 1, none⟩ = some (.int .i64 a0_1) := (blk_cell BK146.out 1).trans rfl; have hcz12_2 : w11.cell? ⟨gb146, 2, none⟩ = some (.string a0_2) := (blk_cell BK146.out 2).trans rfl; have hcz12_3 : w11.cell? ⟨gb146, 3, none⟩ = some (.string a0_3) := (blk_cell BK146.out 3).trans rfl; have hfz12_0 := blk_frozen BK146.out 0; have hfz12_1 := blk_frozen BK146.out 1; have hfz12_2 := blk_frozen BK146.out 2; have hfz12_3 := blk_frozen BK146.out 3))
          go_ret
          exact ⟨by first | rfl | (simp [errW_none, errW_some] <;> rfl) | (simp [*, errW_none, errW_some] <;> rfl), by repeat (first | (with_reducible first | exact HB.out | apply below_alloc | apply pw_below_drewN | apply below_drew1 | refine below_set ?_ GE146.out) | exact HB.out)⟩
      · rw [if_neg c4] at H
        have c4b0 : (a0_2.toList == ([80, 76, 65, 84, 70, 87] : List UInt8)) = false := beq_eq_false_iff_ne.mpr c4
        have c4b1 : (a0_2.toList != ([80, 76, 65, 84, 70, 87] : List UInt8)) = true := bne_iff_ne.mpr c4
        obtain rfl := Option.some.inj H
        go_enter Tryd.func35, Tryd.ntmps35
        go_wp2_with (first | ((with_reducible refine gate_dst (N := 1) rfl ?_); refine box_event ?hg (N := 1) ?hd (cs := #[.string a0_0, .int .i64 a0_1, .string a0_2, .string a0_3]) (t := 23) ?hr ?_; (case hd => rfl); (case hg => rfl); (case hr => first | (go_simp; done) | (go_simp; rfl)); intro gb146 hg w13 hbox hb; have n0_ := Aside0.mk (below_step (by repeat (first | (with_reducible first | exact HB.out | apply below_alloc | apply pw_below_drewN | apply below_drew1) | exact HB.out)) hb); have n1_ := Aside0.mk (hbox); have n2_ := Aside0.mk ((by rw [hg]; exact (below_size (by repeat (first | (with_reducible first | exact HB.out | apply below_alloc | apply pw_below_drewN | apply below_drew1) | exact HB.out))) : w.heap.size ≤ gb146)); have n3_ := Aside0.mk ((by rw [hg]; exact (below_size (by repeat (first | (with_reducible first | exact HB.out | apply below_alloc | apply pw_below_drewN | apply below_drew1) | exact HB.out))) : w.heap.size ≤ gb146)); clear HB; have HB := n0_; have BK146 := n1_; have GW146 := n2_; have GE146 := n3_; clear n0_ n1_ n2_ n3_; clear hb hbox hg; have hcz14_0 : w13.cell? ⟨gb146, 0, none⟩ = some (.string a0_0) := (blk_cell BK146.out 0).trans rfl; have hcz14_1 : w13.cell? ⟨gb146, 1, none⟩ = some (.int .i64 a0_1) := (blk_cell BK146.out 1).trans rfl; have hcz14_2 : w13.cell? ⟨gb146, 2, none⟩ = some (.string a0_2) := (blk_cell BK146.out 2).trans rfl; have hcz14_3 : w13.cell? ⟨gb146, 3, none⟩ = some (.string a0_3) := (blk_cell BK146.out 3).trans rfl; have hfz14_0 := blk_frozen BK146.out 0; have hfz14_1 := blk_frozen BK146.out 1; have hfz14_2 := blk_frozen BK146.out 2; have hfz14_3 := blk_frozen BK146.out 3))
        go_ret
        exact ⟨by first | rfl | (simp [errW_none, errW_some] <;> rfl) | (simp [*, errW_none, errW_some] <;> rfl), by repeat (first | (with_reducible first | exact HB.out | apply below_alloc | apply pw_below_drewN | apply below_drew1 | refine below_set ?_ GE146.out) | exact HB.out)⟩
    · rw [if_neg c3] at H
      have c3b0 : (a0_1 == 1) = false := beq_eq_false_iff_ne.mpr c3
      have c3b1 : (a0_1 != 1) = true := bne_iff_ne.mpr c3
      obtain rfl := Option.some.inj H
      go_enter Tryd.func35, Tryd.ntmps35
      go_wp2_with (first | ((with_reducible refine gate_dst (N := 1) rfl ?_); refine box_event ?hg (N := 1) ?hd (cs := #[.string a0_0, .int .i64 a0_1, .string a0_2, .string a0_3]) (t := 23) ?hr ?_; (case hd => rfl); (case hg => rfl); (case hr => first | (go_simp; done) | (go_simp; rfl)); intro gb146 hg w15 hbox hb; have n0_ := Aside0.mk (below_step (by repeat (first | (with_reducible first | exact HB.out | apply below_alloc | apply pw_below_drewN | apply below_drew1) | exact HB.out)) hb); have n1_ := Aside0.mk (hbox); have n2_ := Aside0.mk ((by rw [hg]; exact (below_size (by repeat (first | (with_reducible first | exact HB.out | apply below_alloc | apply pw_below_drewN | apply below_drew1) | exact HB.out))) : w.heap.size ≤ gb146)); have n3_ := Aside0.mk ((by rw [hg]; exact (below_size (by repeat (first | (with_reducible first | exact HB.out | apply below_alloc | apply pw_below_drewN | apply below_drew1) | exact HB.out))) : w.heap.size ≤ gb146)); clear HB; have HB := n0_; have BK146 := n1_; have GW146 := n2_; have GE146 := n3_; clear n0_ n1_ n2_ n3_; clear hb hbox hg; have hcz16_0 : w15.cell? ⟨gb146, 0, none⟩ = some (.string a0_0) := (blk_cell BK146.out 0).trans rfl; have hcz16_1 : w15.cell? ⟨gb146, 1, none⟩ = some (.int .i64 a0_1) := (blk_cell BK146.out 1).trans rfl; have hcz16_2 : w15.cell? ⟨gb146, 2, none⟩ = some (.string a0_2) := (blk_cell BK146.out 2).trans rfl; have hcz16_3 : w15.cell? ⟨gb146, 3, none⟩ = some (.string a0_3) := (blk_cell BK146.out 3).trans rfl; have hfz16_0 := blk_frozen BK146.out 0; have hfz16_1 := blk_frozen BK146.out 1; have hfz16_2 := blk_frozen BK146.out 2; have hfz16_3 := blk_frozen BK146.out 3))
      go_ret
      exact ⟨by first | rfl | (simp [errW_none, errW_some] <;> rfl) | (simp [*, errW_none, errW_some] <;> rfl), by repeat (first | (with_reducible first | exact HB.out | apply below_alloc | apply pw_below_drewN | apply below_drew1 | refine below_set ?_ GE146.out) | exact HB.out)⟩
  · rw [if_neg c2] at H
    have c2b0 : (a0_0.toList == ([82, 83, 68, 84] : List UInt8)) = false := beq_eq_false_iff_ne.mpr c2
    have c2b1 : (a0_0.toList != ([82, 83, 68, 84] : List UInt8)) = true := bne_iff_ne.mpr c2
    obtain rfl := Option.some.inj H
    go_enter Tryd.func35, Tryd.ntmps35
    go_wp2_with (first | ((with_reducible refine gate_dst (N := 1) rfl ?_); refine box_event ?hg (N := 1) ?hd (cs := #[.string a0_0, .int .i64 a0_1, .string a0_2, .string a0_3]) (t := 23) ?hr ?_; (case hd => rfl); (case hg => rfl); (case hr => first | (go_simp; done) | (go_simp; rfl)); intro gb146 hg w17 hbox hb; have n0_ := Aside0.mk (below_step (by repeat (first | (with_reducible first | exact HB.out | apply below_alloc | apply pw_below_drewN | apply below_drew1) | exact HB.out)) hb); have n1_ := Aside0.mk (hbox); have n2_ := Aside0.mk ((by rw [hg]; exact (below_size (by repeat (first | (with_reducible first | exact HB.out | apply below_alloc | apply pw_below_drewN | apply below_drew1) | exact HB.out))) : w.heap.size ≤ gb146)); have n3_ := Aside0.mk ((by rw [hg]; exact (below_size (by repeat (first | (with_reducible first | exact HB.out | apply below_alloc | apply pw_below_drewN | apply below_drew1) | exact HB.out))) : w.heap.size ≤ gb146)); clear HB; have HB := n0_; have BK146 := n1_; have GW146 := n2_; have GE146 := n3_; clear n0_ n1_ n2_ n3_; clear hb hbox hg; have hcz18_0 : w17.cell? ⟨gb146, 0, none⟩ = some (.string a0_0) := (blk_cell BK146.out 0).trans rfl; have hcz18_1 : w17.cell? ⟨gb146, 1, none⟩ = some (.int .i64 a0_1) := (blk_cell BK146.out 1).trans rfl; have hcz18_2 : w17.cell? ⟨gb146, 2, none⟩ = some (.string a0_2) := (blk_cell BK146.out 2).trans rfl; have hcz18_3 : w17.cell? ⟨gb146, 3, none⟩ = some (.string a0_3) := (blk_cell BK146.out 3).trans rfl; have hfz18_0 := blk_frozen BK146.out 0; have hfz18_1 := blk_frozen BK146.out 1; have hfz18_2 := blk_frozen BK146.out 2; have hfz18_3 := blk_frozen BK146.out 3))
    go_ret
    exact ⟨by first | rfl | (simp [errW_none, errW_some] <;> rfl) | (simp [*, errW_none, errW_some] <;> rfl), by repeat (first | (with_reducible first | exact HB.out | apply below_alloc | apply pw_below_drewN | apply below_drew1 | refine below_set ?_ GE146.out) | exact HB.out)⟩

end Go.Proofs.YtkpaglpophfeeaaDoor.PA
