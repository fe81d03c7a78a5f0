import Derived.Test.YtkpaglpophfeeaaDoorGiven
import Derived.IntWalk
import Derived.BigGuardPart
namespace Go.Proofs.YtkpaglpophfeeaaDoor.Given
open Go.RowKit
set_option linter.unusedVariables false
set_option linter.unusedSimpArgs false
def umod (v n : Int) : Int := (v % 18446744073709551616) % n
set_option maxHeartbeats 800000 in
theorem mod_calls (v n : Int) (v0 : -9223372036854775808 ≤ v) (v1 : v ≤ 9223372036854775807) (n0 : 0 < n) (n1 : n < 9223372036854775808) (w : World) :
    Calls Tryd.prog 18 #[.int .i64 v, .int .i64 n] w fun e w' => e = .returned (.int .i64 (umod v n)) ∧ w' = w := by
  have hu0 : 0 ≤ umod v n := by unfold umod; exact Int.emod_nonneg _ (by omega)
  have hu1 : umod v n < n := by unfold umod; exact Int.emod_lt_of_pos _ n0
  have e1 : IntKind.u64.wrap v = v % 18446744073709551616 := by rw [IntKind.wrap_u64]
  have e2 : IntKind.u64.wrap n = n := by rw [IntKind.wrap_u64]; omega
  have hv0 : 0 ≤ v % 18446744073709551616 := by omega
  have hv1 : v % 18446744073709551616 < 18446744073709551616 := by omega
  go_enter Tryd.func18, Tryd.ntmps18
  go_wp2_with fail
  go_ret
  refine ⟨?_, rfl⟩
  show Ending.returned (.int .i64 (wrap64 (v % 18446744073709551616 % n))) = _
  rw [IntWalk.wrap64_in _ ⟨by unfold umod at hu0; omega, by unfold umod at hu1; omega⟩]
  rfl
def sigOf (i : Int) : ByteArray := if i = 0 then ⟨#[68, 83, 68, 84]⟩ else if i = 1 then ⟨#[83, 83, 68, 84]⟩ else if i = 2 then ⟨#[65, 49, 66, 50]⟩ else ⟨#[82, 83, 68, 84]⟩
def tabOf (a0 : ByteArray) (a1 : Int) (a2 a3 : ByteArray) : ByteArray × Int × ByteArray × ByteArray :=
  if umod a1 5 = 4 then (a0, a1, a2, a3) else (sigOf (umod a0.size 4), umod a1 256, a2.extract 0 (min (a2.size : Int) 6).toNat, a3.extract 0 (min (a3.size : Int) 2000).toNat)
set_option maxHeartbeats 3200000 in
set_option maxRecDepth 100000 in
theorem table_calls (a0 : ByteArray) (a1 : Int) (a2 a3 : ByteArray) (w : World) (v0 : -9223372036854775808 ≤ a1) (v1 : a1 ≤ 9223372036854775807) (h0 : a0.size ≤ 9223372036854775807) (h2 : a2.size ≤ 9223372036854775807) (h3 : a3.size ≤ 9223372036854775807) :
    Calls Tryd.prog 11 #[.agg #[.string a0, .int .i64 a1, .string a2, .string a3]] w fun e w' => e = .returned (.agg #[.string (tabOf a0 a1 a2 a3).1, .int .i64 (tabOf a0 a1 a2 a3).2.1, .string (tabOf a0 a1 a2 a3).2.2.1, .string (tabOf a0 a1 a2 a3).2.2.2]) ∧ Below w.heap.size w w' := by
  have hm := Lib.hid (fun W => mod_calls a1 5 v0 v1 (by omega) (by omega) W)
  have hm2 := Lib.hid (fun W => mod_calls a1 256 v0 v1 (by omega) (by omega) W)
  have hm3 := Lib.hid (fun W => mod_calls a0.size 4 (by omega) (by omega) (by omega) (by omega) W)
  have hi0 : 0 ≤ umod a0.size 4 := by unfold umod; omega
  have hi4 : umod a0.size 4 < 4 := by unfold umod; omega
  have HT : Hid (tabOf a0 a1 a2 a3 = if umod a1 5 = 4 then (a0, a1, a2, a3) else (sigOf (umod a0.size 4), umod a1 256, a2.extract 0 (min (a2.size : Int) 6).toNat, a3.extract 0 (min (a3.size : Int) 2000).toNat)) := Lib.hid rfl
  generalize tabOf a0 a1 a2 a3 = R at *
  generalize umod a1 5 = m5 at *
  generalize umod a1 256 = m256 at *
  generalize umod a0.size 4 = i at *
  go_enter Tryd.func11, Tryd.ntmps11
  go_wp2_with fail
  refine (hm.out _).mono ?_
  rintro e w1 ⟨rfl, rfl⟩
  by_cases h5 : m5 = 4
  · have HR : Hid (R = (a0, a1, a2, a3)) := Lib.hid (HT.out.trans (if_pos h5))
    have hb : (m5 == 4) = true := by simp [h5]
    clear h5 HT
    go_wp2_with fail
    refine bodyPost_ret (v := .agg #[.string a0, .int .i64 a1, .string a2, .string a3]) (by simp [results, Tryd.results11, go_sem]) rfl ⟨by rw [HR.out], ?_⟩
    exact ((Below.refl _ _).alloc (Nat.le_refl _) _).alloc (by simp) _
  · have HR := Lib.hid (HT.out.trans (if_neg h5))
    have hb : (m5 == 4) = false := by simp [h5]
    clear h5 HT
    have hii : i = 0 ∨ i = 1 ∨ i = 2 ∨ i = 3 := by omega
    rcases hii with rfl | rfl | rfl | rfl
    · go_wp2_with fail
      refine (hm3.out _).mono ?_
      rintro e w2 ⟨rfl, rfl⟩
      go_wp2_with fail
      refine (hm2.out _).mono ?_
      rintro e w3 ⟨rfl, rfl⟩
      go_wp2_with fail
      refine bodyPost_ret (v := .agg #[.string ⟨#[68, 83, 68, 84]⟩, .int .i64 m256, .string (a2.extract 0 (min (a2.size : Int) 6).toNat), .string (a3.extract 0 (min (a3.size : Int) 2000).toNat)]) (by simp [results, Tryd.results11, go_sem]) rfl ⟨by rw [HR.out]; rfl, ?_⟩
      exact (((Below.refl _ _).alloc (Nat.le_refl _) _).alloc (by simp) _).alloc (by simp; omega) _
    · go_wp2_with fail
      refine (hm3.out _).mono ?_
      rintro e w2 ⟨rfl, rfl⟩
      go_wp2_with fail
      refine (hm2.out _).mono ?_
      rintro e w3 ⟨rfl, rfl⟩
      go_wp2_with fail
      refine bodyPost_ret (v := .agg #[.string ⟨#[83, 83, 68, 84]⟩, .int .i64 m256, .string (a2.extract 0 (min (a2.size : Int) 6).toNat), .string (a3.extract 0 (min (a3.size : Int) 2000).toNat)]) (by simp [results, Tryd.results11, go_sem]) rfl ⟨by rw [HR.out]; rfl, ?_⟩
      exact (((Below.refl _ _).alloc (Nat.le_refl _) _).alloc (by simp) _).alloc (by simp; omega) _
    · go_wp2_with fail
      refine (hm3.out _).mono ?_
      rintro e w2 ⟨rfl, rfl⟩
      go_wp2_with fail
      refine (hm2.out _).mono ?_
      rintro e w3 ⟨rfl, rfl⟩
      go_wp2_with fail
      refine bodyPost_ret (v := .agg #[.string ⟨#[65, 49, 66, 50]⟩, .int .i64 m256, .string (a2.extract 0 (min (a2.size : Int) 6).toNat), .string (a3.extract 0 (min (a3.size : Int) 2000).toNat)]) (by simp [results, Tryd.results11, go_sem]) rfl ⟨by rw [HR.out]; rfl, ?_⟩
      exact (((Below.refl _ _).alloc (Nat.le_refl _) _).alloc (by simp) _).alloc (by simp; omega) _
    · go_wp2_with fail
      refine (hm3.out _).mono ?_
      rintro e w2 ⟨rfl, rfl⟩
      go_wp2_with fail
      refine (hm2.out _).mono ?_
      rintro e w3 ⟨rfl, rfl⟩
      go_wp2_with fail
      refine bodyPost_ret (v := .agg #[.string ⟨#[82, 83, 68, 84]⟩, .int .i64 m256, .string (a2.extract 0 (min (a2.size : Int) 6).toNat), .string (a3.extract 0 (min (a3.size : Int) 2000).toNat)]) (by simp [results, Tryd.results11, go_sem]) rfl ⟨by rw [HR.out]; rfl, ?_⟩
      exact (((Below.refl _ _).alloc (Nat.le_refl _) _).alloc (by simp) _).alloc (by simp; omega) _
end Go.Proofs.YtkpaglpophfeeaaDoor.Given
