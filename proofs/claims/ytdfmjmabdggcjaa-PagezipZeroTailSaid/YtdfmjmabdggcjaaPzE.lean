import Derived.Test.YtdfmjmabdggcjaaPzD
namespace Go.Proofs.Ytdfmjmabdggcjaa.Pz
open Go.RowKit Go.Proofs.YtdfmjmabdggcjaaW.PrintWords
set_option linter.unusedVariables false
set_option linter.unusedSimpArgs false
/-- The compressed form, as numbers. -/
def packS (s : ByteArray) : List Int := packL (pst s 64)
def compS (s : ByteArray) : ByteArray := if s.size = 256 then (if (packS s).length ≤ 256 then strOfNums (packS s) else ⟨#[0]⟩ ++ s) else ByteArray.empty
def compE (s : ByteArray) : Int := if s.size = 256 then 0 else 1
theorem compress_calls (s : ByteArray) (w : World) : Calls Try.prog 11 #[.string s] w fun e w' => e = .returned (.tuple #[.string (compS s), .int .i64 (compE s)]) ∧ Below w.heap.size w w' := by
  unfold compS compE
  by_cases hs : s.size = 256
  · rw [if_pos hs, if_pos hs]
    have hne : ((s.size : Int) != 256) = false := by simp; omega
    have Hs := Lib.hid hs
    have hs1 : s.size ≤ 256 := by omega
    clear hs
    have HL := Lib.hid (packL_length (pst s 64))
    by_cases hl : (packS s).length ≤ 256
    · rw [if_pos hl]
      have hdec : decide (((packL (pst s 64)).length : Int) ≤ 256) = true := by have : (packL (pst s 64)).length ≤ 256 := hl; simp; omega
      go_enter Try.func11, Try.ntmps11
      go_wp2_with fail
      refine (pack_calls s Hs.out _).mono ?_
      rintro e w1 ⟨v, rfl, ho, hb⟩
      have hcv := own_string (P := Try.prog) (src := 31) (dst := 9) (e := 5) Try.underlying31 Try.underlying5 Try.underlying9 ho
      obtain ⟨A, c, hv⟩ := own_slice ho
      subst hv
      go_wp2_with fail
      go_ret2
      exact ⟨rfl, hb⟩
    · rw [if_neg hl]
      have hdec : decide (((packL (pst s 64)).length : Int) ≤ 256) = false := by have : ¬ (packL (pst s 64)).length ≤ 256 := hl; simp; omega
      go_enter Try.func11, Try.ntmps11
      go_wp2_with fail
      refine (pack_calls s Hs.out _).mono ?_
      rintro e w1 ⟨v, rfl, ho, hb⟩
      obtain ⟨A, c, hv⟩ := own_slice ho
      subst hv
      go_wp2_with fail
      go_ret2
      exact ⟨rfl, hb⟩
  · rw [if_neg hs, if_neg hs]
    have hne : ((s.size : Int) != 256) = true := by simp; omega
    go_enter Try.func11, Try.ntmps11
    go_wp2_with fail
    go_ret2
    exact ⟨rfl, Below.refl _ _⟩
end Go.Proofs.Ytdfmjmabdggcjaa.Pz
