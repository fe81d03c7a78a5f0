import Derived.Test.YtbcgcbogcofbjaaEcM
import Derived.Test.YtbcgcbogcofbjaaEcN
namespace Go.Proofs.Ytbcgcbogcofbjaa.Ec
open Go.RowKit Go.Proofs.Ytbcgcbogcofbjaa.G
set_option linter.unusedVariables false
set_option linter.unusedSimpArgs false
attribute [local go_sem ↓] Go.wp_at_zero Go.wp_at_succ

def umod (v n : Int) : Int := v % 18446744073709551616 % n
set_option maxHeartbeats 400000 in
theorem mod_calls (v n : Int) (v0 : -9223372036854775808 ≤ v) (v1 : v < 9223372036854775808) (n0 : 0 < n) (n1 : n < 9223372036854775808) (w : World) :
    Calls Try.prog 18 #[.int .i64 v, .int .i64 n] w fun e w' => e = .returned (.int .i64 (umod v n)) ∧ w' = w := by
  have hu0 : 0 ≤ umod v n := by unfold umod; exact Int.emod_nonneg _ (by omega)
  have hu1 : umod v n < n := by unfold umod; exact Int.emod_lt_of_pos _ n0
  have e1 : IntKind.u64.wrap v = v % 18446744073709551616 := by rw [IntKind.wrap_u64]
  have e2 : IntKind.u64.wrap n = n := by rw [IntKind.wrap_u64]; omega
  have hv0 : 0 ≤ v % 18446744073709551616 := by omega
  have hv1 : v % 18446744073709551616 < 18446744073709551616 := by omega
  go_enter Try.func18, Try.ntmps18
  go_wp2_with fail
  go_ret
  refine ⟨?_, rfl⟩
  show Ending.returned (.int .i64 (wrap64 (v % 18446744073709551616 % n))) = _
  rw [IntWalk.wrap64_in _ ⟨by unfold umod at hu0; omega, by unfold umod at hu1; omega⟩]
  rfl
def valF (v : Int) : Int := if v % 8 = 7 then v else v % 4
def valT (v : Int) : Int := if v % 8 = 7 then v else if v % 3 = 0 then 128 else if v % 3 = 1 then 129 else 132
theorem valF_byte {v : Int} (h : Byte v) : Byte (valF v) := by
  obtain ⟨h0, h1⟩ := h
  unfold valF Byte; split <;> omega
theorem valT_byte {v : Int} (h : Byte v) : Byte (valT v) := by
  obtain ⟨h0, h1⟩ := h
  unfold valT Byte; split
  · omega
  · split
    · omega
    · split <;> omega
set_option maxHeartbeats 400000 in
theorem valueF_calls (v : Int) (v0 : 0 ≤ v) (v1 : v < 256) (w : World) :
    Calls Try.prog 20 #[.int .u8 v, .bool false] w fun e w' => e = .returned (.int .u8 (valF v)) ∧ w' = w := by
  by_cases h7 : v % 8 = 7
  · have e : valF v = v := by unfold valF; rw [if_pos h7]
    rw [e]
    go_enter Try.func20, Try.ntmps20
    go_wp2_with fail
    go_ret
    exact ⟨rfl, rfl⟩
  · have e : valF v = v % 4 := by unfold valF; rw [if_neg h7]
    have hb : (v % 8 == 7) = false := by simp [h7]
    rw [e]
    go_enter Try.func20, Try.ntmps20
    go_wp2_with fail
    go_ret
    exact ⟨rfl, rfl⟩
set_option maxHeartbeats 400000 in
theorem valueT_calls (v : Int) (v0 : 0 ≤ v) (v1 : v < 256) (w : World) :
    Calls Try.prog 20 #[.int .u8 v, .bool true] w fun e w' => e = .returned (.int .u8 (valT v)) ∧ Fr [] w w' := by
  by_cases h7 : v % 8 = 7
  · have e : valT v = v := by unfold valT; rw [if_pos h7]
    rw [e]
    go_enter Try.func20, Try.ntmps20
    go_wp2_with fail
    go_ret
    exact ⟨rfl, Fr.refl _ _⟩
  · have hb : (v % 8 == 7) = false := by simp [h7]
    have h3 : v % 3 = 0 ∨ v % 3 = 1 ∨ v % 3 = 2 := by omega
    rcases h3 with h3 | h3 | h3
    · have e : valT v = 128 := by unfold valT; rw [if_neg h7, if_pos h3]
      rw [e]
      clear e h7
      go_enter Try.func20, Try.ntmps20
      go_wp2_with fail
      go_ret
      exact ⟨rfl, (Fr.refl _ _).alloc _⟩
    · have e : valT v = 129 := by unfold valT; rw [if_neg h7, if_neg (by omega), if_pos h3]
      rw [e]
      clear e h7
      go_enter Try.func20, Try.ntmps20
      go_wp2_with fail
      go_ret
      exact ⟨rfl, (Fr.refl _ _).alloc _⟩
    · have e : valT v = 132 := by unfold valT; rw [if_neg h7, if_neg (by omega), if_neg (by omega)]
      rw [e]
      clear e h7
      go_enter Try.func20, Try.ntmps20
      go_wp2_with fail
      go_ret
      exact ⟨rfl, (Fr.refl _ _).alloc _⟩
end Go.Proofs.Ytbcgcbogcofbjaa.Ec
