import Derived.Test.YtkpaglpophfeeaaDoorShelf
import Derived.Test.YtkpaglpophfeeaaDoorWMore
import Derived.WalkKit
import Derived.LoopTactic
import Derived.Below
import Derived.RowKit
import Derived.Lib.ConvBytes
import Derived.Lib.Hide
namespace Go.Proofs.YtkpaglpophfeeaaDoor.Given
open Go.RowKit Go.Proofs.YtkpaglpophfeeaaDoorW.PrintWords Go.Proofs.YtkpaglpophfeeaaDoorW.PrintLast Go.Proofs.YtkpaglpophfeeaaDoorW.PrintMore
set_option linter.unusedVariables false
set_option linter.unusedSimpArgs false
theorem repeat_calls (a0 : ByteArray) (a1 : Int) (w : World) (h0 : a0.size = 1) (h1 : 0 ≤ a1) (h2 : a1 ≤ 1000) :
    Calls Tryd.prog 28 #[.string a0, .int .i64 a1] w fun e w' => e = .returned (.string ⟨(Lib.repeatL a0.data.toList a1.toNat).toArray⟩) ∧ Below w.heap.size w w' := by
  obtain ⟨n, rfl⟩ := Int.eq_ofNat_of_zero_le h1
  rw [Int.toNat_natCast]
  exact Tryd.strings_Repeat a0 n w (by omega) (by rw [h0]; omega)
theorem info5 : (Tryd.prog.info? 5).map (fun i => (i.zero, i.size, i.bytes)) = some (some (.int .u8 0), 1, 1) := by kernel_rfl
def Rows (w0 w : World) (A : Option Addr) (co : Nat) (v : Value) (a0 : Int) : Prop :=
  (v = .int .i64 0 ∧ Kd.R (Kd.int .u8) 5 w w0.heap.size (fun _ => True) (.slice A 4 co) [0, 0, 0, 0] ∧ Below w0.heap.size w0 w) ∨
  (v = .int .i64 1 ∧ Kd.R (Kd.int .u8) 5 w w0.heap.size (fun _ => True) (.slice A 4 co) [a0 % 256, 0, 0, 0] ∧ Below w0.heap.size w0 w) ∨
  (v = .int .i64 2 ∧ Kd.R (Kd.int .u8) 5 w w0.heap.size (fun _ => True) (.slice A 4 co) [a0 % 256, a0 / 256 % 256, 0, 0] ∧ Below w0.heap.size w0 w) ∨
  (v = .int .i64 3 ∧ Kd.R (Kd.int .u8) 5 w w0.heap.size (fun _ => True) (.slice A 4 co) [a0 % 256, a0 / 256 % 256, a0 / 65536 % 256, 0] ∧ Below w0.heap.size w0 w) ∨
  (v = .int .i64 4 ∧ Kd.R (Kd.int .u8) 5 w w0.heap.size (fun _ => True) (.slice A 4 co) [a0 % 256, a0 / 256 % 256, a0 / 65536 % 256, a0 / 16777216 % 256] ∧ Below w0.heap.size w0 w)
set_option maxHeartbeats 1600000 in
set_option maxRecDepth 100000 in
theorem word_calls (a0 : Int) (w : World) (h0 : -9223372036854775808 ≤ a0) (h1 : a0 ≤ 9223372036854775807) :
    Calls Tryd.prog 27 #[.int .i64 a0] w fun e w' => e = .returned (.string (strOfNums [a0 % 256, a0 / 256 % 256, a0 / 65536 % 256, a0 / 16777216 % 256])) ∧ Below w.heap.size w w' := by
  go_enter Tryd.func27, Tryd.ntmps27
  go_wp2_with ((with_reducible refine gate_dst (N := 5) rfl ?_); refine Kd.R_make (Kd.int .u8) _ 5 rfl (N := 5) rfl 35 _ _ rfl 4 rfl rfl Tryd.underlying35 (.int .u8 0) 1 info5 rfl (by decide) (by omega) 0 (ok := fun _ => True) (okp := fun _ => True) rfl (fun _ hk => hk) trivial (by omega) (by omega) (Below.refl _ _) (Nat.le_refl _) ?_; intro v106 w3 ho4 hb hg_ hnew_; clear hg_ hnew_; have HO := Lib.hid ho4; have HB := Lib.hid hb; clear hb ho4; obtain ⟨Ao5, co5, eo5⟩ := Kd.R_slice HO.out; subst eo5)
  have HR : Hid (Rows w w3 Ao5 co5 (.int .i64 0) a0) := Lib.hid (.inl ⟨rfl, HO.out, HB.out⟩)
  clear HO HB
  go_loopw [8] (fun v wr => ∃ x : Int, v = .int .i64 x ∧ 0 ≤ x ∧ x ≤ 4 ∧ Hid (Rows w wr Ao5 co5 (.int .i64 x) a0)) (fun v _ => 4 - (intOf v).toNat)
  case atStart => exact ⟨0, rfl, by omega, by omega, HR⟩
  case round =>
    clear HR
    obtain ⟨x, rfl, x0, x4, HR⟩ := hrel
    rcases HR.out with h | h | h | h | h
    · obtain ⟨hv, hR, hb⟩ := h
      obtain rfl : x = 0 := by injection hv
      clear HR hv
      have HO := Lib.hid hR
      have HB := Lib.hid hb
      obtain ⟨go12, co12, eo12, gb12, gl12, cl12, HG12⟩ := Kd.R_form hR (by simp)
      injection eo12 with ea_ en_ ec_
      subst ea_ ec_
      obtain ⟨hx12_0, hf12_0⟩ := Kd.R_celln 0 hR (0 : Int) (by omega) (by simp)
      have HP13 := Lib.hid (Kd.R_putg hR (0 : Int) (a0 % 256))
      have GB := Lib.hid gb12
      simp at hx12_0 hf12_0
      clear hR hb gb12 gl12 cl12 HG12 en_
      go_wp2_with fail
      exact ⟨⟨1, rfl, by omega, by omega, Lib.hid (.inr (.inl ⟨rfl, HP13.out.1, below_set HB.out GB.out⟩))⟩, by simp [intOf]⟩
    · obtain ⟨hv, hR, hb⟩ := h
      obtain rfl : x = 1 := by injection hv
      clear HR hv
      have HO := Lib.hid hR
      have HB := Lib.hid hb
      obtain ⟨go12, co12, eo12, gb12, gl12, cl12, HG12⟩ := Kd.R_form hR (by simp)
      injection eo12 with ea_ en_ ec_
      subst ea_ ec_
      obtain ⟨hx12_0, hf12_0⟩ := Kd.R_celln 0 hR (1 : Int) (by omega) (by simp)
      have HP13 := Lib.hid (Kd.R_putg hR (1 : Int) (a0 / 256 % 256))
      have GB := Lib.hid gb12
      simp at hx12_0 hf12_0
      clear hR hb gb12 gl12 cl12 HG12 en_
      go_wp2_with fail
      exact ⟨⟨2, rfl, by omega, by omega, Lib.hid (.inr (.inr (.inl ⟨rfl, HP13.out.1, below_set HB.out GB.out⟩)))⟩, by simp [intOf]⟩
    · obtain ⟨hv, hR, hb⟩ := h
      obtain rfl : x = 2 := by injection hv
      clear HR hv
      have HO := Lib.hid hR
      have HB := Lib.hid hb
      obtain ⟨go12, co12, eo12, gb12, gl12, cl12, HG12⟩ := Kd.R_form hR (by simp)
      injection eo12 with ea_ en_ ec_
      subst ea_ ec_
      obtain ⟨hx12_0, hf12_0⟩ := Kd.R_celln 0 hR (2 : Int) (by omega) (by simp)
      have HP13 := Lib.hid (Kd.R_putg hR (2 : Int) (a0 / 65536 % 256))
      have GB := Lib.hid gb12
      simp at hx12_0 hf12_0
      clear hR hb gb12 gl12 cl12 HG12 en_
      go_wp2_with fail
      exact ⟨⟨3, rfl, by omega, by omega, Lib.hid (.inr (.inr (.inr (.inl ⟨rfl, HP13.out.1, below_set HB.out GB.out⟩))))⟩, by simp [intOf]⟩
    · obtain ⟨hv, hR, hb⟩ := h
      obtain rfl : x = 3 := by injection hv
      clear HR hv
      have HO := Lib.hid hR
      have HB := Lib.hid hb
      obtain ⟨go12, co12, eo12, gb12, gl12, cl12, HG12⟩ := Kd.R_form hR (by simp)
      injection eo12 with ea_ en_ ec_
      subst ea_ ec_
      obtain ⟨hx12_0, hf12_0⟩ := Kd.R_celln 0 hR (3 : Int) (by omega) (by simp)
      have HP13 := Lib.hid (Kd.R_putg hR (3 : Int) (a0 / 16777216 % 256))
      have GB := Lib.hid gb12
      simp at hx12_0 hf12_0
      clear hR hb gb12 gl12 cl12 HG12 en_
      go_wp2_with fail
      exact ⟨⟨4, rfl, by omega, by omega, Lib.hid (.inr (.inr (.inr (.inr (⟨rfl, HP13.out.1, below_set HB.out GB.out⟩)))))⟩, by simp [intOf]⟩
    · obtain ⟨hv, hR, hb⟩ := h
      obtain rfl : x = 4 := by injection hv
      clear HR hv
      have HO := Lib.hid hR
      have HB := Lib.hid hb
      have hcv := own_string (P := Tryd.prog) Tryd.underlying35 Tryd.underlying5 Tryd.underlying9 (Kd.own_of_R hR)
      clear hR hb
      go_wp2_with fail
      go_ret
      exact ⟨rfl, HB.out⟩
end Go.Proofs.YtkpaglpophfeeaaDoor.Given
