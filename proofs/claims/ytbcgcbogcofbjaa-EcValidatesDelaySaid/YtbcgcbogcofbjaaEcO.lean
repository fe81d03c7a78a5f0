import Derived.Test.YtbcgcbogcofbjaaEcN
namespace Go.Proofs.Ytbcgcbogcofbjaa.Ec
open Go.RowKit Go.Proofs.Ytbcgcbogcofbjaa.G
set_option linter.unusedVariables false
set_option linter.unusedSimpArgs false
attribute [local go_sem ↓] Go.wp_at_zero Go.wp_at_succ

set_option maxHeartbeats 3200000 in
set_option maxRecDepth 100000 in
theorem validates_calls (d : Int) (d0 : 0 ≤ d) (d1 : d < 18446744073709551616) (s : Int) (s0 : 0 ≤ s) (s1 : s < 256) (w : World) :
    Calls Try.prog 3 #[.int .u64 d, .int .u8 s] w fun e w' => e = .returned (.bool true) ∧ Below w.heap.size w w' := by
  have ha := Lib.hid (fun w => awake_calls w)
  go_enter Try.func3, Try.ntmps3
  go_upto_region 2 with (fail)
  have hD0 : 0 ≤ d / 2 ^ (s % 64).toNat := Int.ediv_nonneg d0 (Int.le_of_lt (Int.pow_pos (by omega)))
  have hD1 : d / 2 ^ (s % 64).toNat ≤ d := Int.ediv_le_self _ d0
  generalize d / 2 ^ (s % 64).toNat = D at *
  have hD2 : D < 18446744073709551616 := by omega
  by_cases hD : D ≤ 4294967296
  · have hn := Lib.hid (oNew D hD w w (Fr.refl _ _))
    go_wp2_with fail
    refine hn.out.mono ?_
    rintro e w1 ⟨rfl, hC1⟩
    have HC1 := Lib.hid hC1.2.1
    clear hn hC1
    go_wp2_with fail
    refine (ha.out w1).mono ?_
    rintro e w2 ⟨rfl, hf⟩
    have hdec : decide (D ≤ 4294967296) = true := decide_eq_true hD
    go_wp2_with fail
    go_ret
    exact ⟨rfl, (HC1.out.trans hf).below (Below.refl _ _) (Nat.le_refl _) (by simp)⟩
  · have hn := Lib.hid (new_bad D (by omega) w)
    have hD' : 4294967296 < D := by omega
    go_wp2_with fail
    refine hn.out.mono ?_
    rintro e w1 ⟨rfl, rfl⟩
    clear hn
    go_wp2_with fail
    refine (ha.out w1).mono ?_
    rintro e w2 ⟨rfl, hf⟩
    have hdec : decide (D ≤ 4294967296) = false := decide_eq_false (by omega)
    go_wp2_with fail
    go_ret
    exact ⟨rfl, hf.below (Below.refl _ _) (Nat.le_refl _) (by simp)⟩
end Go.Proofs.Ytbcgcbogcofbjaa.Ec
