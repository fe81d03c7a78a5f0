import Derived.Test.YtkpaglpophfeeaaDoorSp3
import Derived.Test.YtkpaglpophfeeaaDoorPAx8
import Derived.Laws.BitsLemmas
namespace Go.Proofs.YtkpaglpophfeeaaDoor.Sp
open Go.RowKit Go.Proofs.YtkpaglpophfeeaaDoorW.PrintWords Go.Proofs.YtkpaglpophfeeaaDoorW.PrintLast Go.Proofs.YtkpaglpophfeeaaDoorW.PrintMore Go.Proofs.YtkpaglpophfeeaaDoor.PA
set_option linter.unusedVariables false
set_option linter.unusedSimpArgs false

/-! ### Numbers of four bytes -/
theorem wraps_i64 (n : Int) (h₀ : 0 ≤ n) (h₁ : n < 2 ^ 63) : IntKind.i64.wrap n = n := by rw [IntKind.wrap_i64]; omega
theorem or_add {x y : Int} (i : Nat) (hi : i ≤ 40) (hx0 : 0 ≤ x) (hx : x < 2 ^ i) (hy0 : 0 ≤ y) (hy : y < 256) : bits .or .i64 x (y * 2 ^ i) = x + y * 2 ^ i := by
  obtain ⟨a, rfl⟩ := Int.eq_ofNat_of_zero_le hx0
  obtain ⟨b, rfl⟩ := Int.eq_ofNat_of_zero_le hy0
  have ha : a < 2 ^ i := by exact_mod_cast hx
  have hb : b < 256 := by omega
  have hp : 2 ^ i ≤ 2 ^ 40 := Nat.pow_le_pow_right (by decide) hi
  have h40 : (2 : Nat) ^ 40 = 1099511627776 := by decide
  have hbb : b * 2 ^ i < 256 * 2 ^ 40 := by
    have h1 : b * 2 ^ i ≤ 255 * 2 ^ i := Nat.mul_le_mul_right _ (by omega)
    omega
  have h63 : (2 : Nat) ^ 63 = 9223372036854775808 := by decide
  have e := (bits_nat .i64 63 (by decide) wraps_i64 a (b * 2 ^ i) (by omega) (by omega)).2
  rw [Nat.or_comm, Nat.mul_comm b, ← Nat.two_pow_add_eq_or_of_lt ha b] at e
  push_cast at e
  rw [Int.mul_comm (b : Int), e]
  omega
def num4 (a b c d : Int) : Int := a + b * 256 + c * 65536 + d * 16777216
def numS (s : ByteArray) : Int := num4 (bt s 0) (bt s 1) (bt s 2) (bt s 3)
theorem or3 {a b c d : Int} (a0 : 0 ≤ a) (a1 : a ≤ 255) (b0 : 0 ≤ b) (b1 : b ≤ 255) (c0 : 0 ≤ c) (c1 : c ≤ 255) (d0 : 0 ≤ d) (d1 : d ≤ 255) :
    bits .or .i64 (bits .or .i64 (bits .or .i64 a (b * 256)) (c * 65536)) (d * 16777216) = num4 a b c d := by
  have h1 := or_add (x := a) (y := b) 8 (by omega) a0 (by omega) b0 (by omega)
  have h2 := or_add (x := a + b * 256) (y := c) 16 (by omega) (by omega) (by omega) c0 (by omega)
  have h3 := or_add (x := a + b * 256 + c * 65536) (y := d) 24 (by omega) (by omega) (by omega) d0 (by omega)
  have e1 : (2 : Int) ^ 8 = 256 := by decide
  have e2 : (2 : Int) ^ 16 = 65536 := by decide
  have e3 : (2 : Int) ^ 24 = 16777216 := by decide
  rw [e1] at h1; rw [e2] at h2; rw [e3] at h3
  rw [h1, h2, h3]; rfl
theorem w64 {n : Int} (h0 : 0 ≤ n) (h : n ≤ 9223372036854775807) : wrap64 n = n := by unfold wrap64; omega
theorem rnumber_f (s : ByteArray) (h : 4 ≤ s.size) : platformfwref07_number.f s = some (numS s) := by
  unfold platformfwref07_number.f numS
  have b0 := bt_range s 0
  have b1 := bt_range s 1
  have b2 := bt_range s 2
  have b3 := bt_range s 3
  rw [if_pos (by omega), if_pos (by omega), if_pos (by omega), if_pos (by omega)]
  rw [w64 b0.1 (by omega), w64 b1.1 (by omega), w64 b2.1 (by omega), w64 b3.1 (by omega), w64 (n := bt s 1 * 256) (by omega) (by omega), w64 (n := bt s 2 * 65536) (by omega) (by omega), w64 (n := bt s 3 * 16777216) (by omega) (by omega), or3 b0.1 b0.2 b1.1 b1.2 b2.1 b2.2 b3.1 b3.2]
theorem shl_at {x : Int} (y : Nat) (hy : y ≤ 30) (h0 : 0 ≤ x) (h : x ≤ 255) : shl .i64 x (y : Int) = x * 2 ^ y := by
  obtain ⟨a, rfl⟩ := Int.eq_ofNat_of_zero_le h0
  unfold shl
  have hb : IntKind.i64.bits = 64 := rfl
  have hp : 2 ^ y ≤ 2 ^ 30 := Nat.pow_le_pow_right (by decide) hy
  have h30 : (2 : Nat) ^ 30 = 1073741824 := by decide
  have hm : a * 2 ^ y ≤ 255 * 2 ^ y := Nat.mul_le_mul_right _ (by omega)
  rw [hb, Int.toNat_natCast, Nat.min_eq_left (by omega)]
  have hc : ((a : Int) * 2 ^ y) = ((a * 2 ^ y : Nat) : Int) := by push_cast; rfl
  rw [hc]
  exact wraps_i64 _ (by omega) (by
    have : (2 : Int) ^ 63 = 9223372036854775808 := by decide
    rw [this]
    omega)
theorem number_f (s : ByteArray) (h : 4 ≤ s.size) (k : Nat) (hk : 4 < k) : sdt_number.f k s = some (numS s) := by
  obtain ⟨k, rfl⟩ : ∃ m, k = m + 5 := ⟨k - 5, by omega⟩
  have b0 := bt_range s 0
  have b1 := bt_range s 1
  have b2 := bt_range s 2
  have b3 := bt_range s 3
  unfold sdt_number.f numS
  have w8 : ∀ i : Int, 0 ≤ i → i ≤ 4 → wrap64 (8 * i) = 8 * i := fun i h0 h1 => w64 (by omega) (by omega)
  have wi : ∀ i : Int, 0 ≤ i → i ≤ 4 → wrap64 (i + 1) = i + 1 := fun i h0 h1 => w64 (by omega) (by omega)
  have s0 := shl_at (x := bt s 0) 0 (by omega) b0.1 b0.2
  have s1 := shl_at (x := bt s 1) 8 (by omega) b1.1 b1.2
  have s2 := shl_at (x := bt s 2) 16 (by omega) b2.1 b2.2
  have s3 := shl_at (x := bt s 3) 24 (by omega) b3.1 b3.2
  have z : bits .or .i64 0 (bt s 0) = bt s 0 := by
    have := or_add (x := 0) (y := bt s 0) 0 (by omega) (by omega) (by decide) b0.1 (by omega)
    simpa using this
  rw [← or3 b0.1 b0.2 b1.1 b1.2 b2.1 b2.2 b3.1 b3.2]
  simp only [Int.pow_zero, Int.mul_one] at s0
  have e1 : (2 : Int) ^ 8 = 256 := by decide
  have e2 : (2 : Int) ^ 16 = 65536 := by decide
  have e3 : (2 : Int) ^ 24 = 16777216 := by decide
  rw [e1] at s1; rw [e2] at s2; rw [e3] at s3
  have r : ∀ (m : Nat) (acc i : Int), 0 ≤ i → i < 4 → sdt_number.l0 (m + 1) s acc i = sdt_number.l0 m s (Go.bits .or .i64 acc (shl .i64 (bt s i) (8 * i))) (i + 1) := fun m acc i i0 i4 => by
    have bi := bt_range s i
    conv => lhs; unfold sdt_number.l0
    rw [if_pos i4, if_pos i0, if_pos (by omega), w8 i i0 (by omega), if_pos (by omega), w64 bi.1 (by omega), wi i i0 (by omega)]
  have last : ∀ (m : Nat) (acc : Int), sdt_number.l0 (m + 1) s acc 4 = some acc := fun m acc => by
    conv => lhs; unfold sdt_number.l0
    rw [if_neg (by omega)]
  rw [r _ _ 0 (by omega) (by omega), r _ _ (0 + 1) (by omega) (by omega), r _ _ (0 + 1 + 1) (by omega) (by omega), r _ _ (0 + 1 + 1 + 1) (by omega) (by omega), show (0 + 1 + 1 + 1 + 1 : Int) = 4 from rfl, last]
  rw [show (0 + 1 + 1 + 1 : Int) = 3 from rfl, show (0 + 1 + 1 : Int) = 2 from rfl, show (0 + 1 : Int) = 1 from rfl]
  rw [show (8 * 0 : Int) = ((0 : Nat) : Int) from rfl, show (8 * 1 : Int) = ((8 : Nat) : Int) from rfl, show (8 * 2 : Int) = ((16 : Nat) : Int) from rfl, show (8 * 3 : Int) = ((24 : Nat) : Int) from rfl, s0, s1, s2, s3, z]
end Go.Proofs.YtkpaglpophfeeaaDoor.Sp
