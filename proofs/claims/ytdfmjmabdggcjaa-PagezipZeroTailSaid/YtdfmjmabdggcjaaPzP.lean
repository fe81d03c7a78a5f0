import Derived.Test.YtdfmjmabdggcjaaPzB
import Derived.Test.YtdfmjmabdggcjaaPzN
import Derived.Deep.DeepCutAuto
namespace Go.Proofs.Ytdfmjmabdggcjaa.Pz
open Go.RowKit Go.Proofs.YtdfmjmabdggcjaaW.PrintWords
set_option linter.unusedVariables false
set_option linter.unusedSimpArgs false
theorem mod_calls (v n : Int) (hv0 : -9223372036854775808 ≤ v) (hv1 : v ≤ 9223372036854775807) (hn0 : 0 < n) (hn1 : n ≤ 1000000) (w : World) :
    Calls Try.prog 15 #[.int .i64 v, .int .i64 n] w fun e w' => (∃ r : Int, 0 ≤ r ∧ r < n ∧ r = v % 18446744073709551616 % n ∧ e = .returned (.int .i64 r)) ∧ w = w' := by
  have h0 := Int.emod_nonneg (v % 18446744073709551616) (b := n) (by omega)
  have h1 := Int.emod_lt_of_pos (v % 18446744073709551616) hn0
  have hne : (n == 0) = false := by simp; omega
  go_enter Try.func15, Try.ntmps15
  have e1 : IntKind.u64.wrap v = v % 18446744073709551616 := by simp [IntKind.wrap, IntKind.bits, IntKind.signed]
  have e2 : wrap64 ((IntKind.u64.wrap v).tmod n) = v % 18446744073709551616 % n := by
    rw [e1, Int.tmod_eq_emod_of_nonneg (Int.emod_nonneg _ (by decide))]
    unfold wrap64
    omega
  have H2 := Lib.hid e2
  have H0 := Lib.hid h0
  have H1 := Lib.hid h1
  clear e1 e2 h0 h1
  go_wp2_with fail
  go_ret
  exact ⟨⟨_, H0.out, H1.out, rfl, by rw [← H2.out]; rfl⟩, rfl⟩
def zeros256 : Array Value := madeCells #[.int .u8 0] 256
theorem make256 (W : World) : (Instr.makeSlice 31 (.int .i64 256) (.int .i64 256)).run Try.prog W = .ok (.slice (some ⟨W.heap.size, 0, none⟩) 256 256) (W.alloc (.cells zeros256 5)) :=
  print_make (P := Try.prog) 31 5 .u8 1 Try.underlying31 (by kernel_rfl) (by decide) 256 (by decide) W
set_option maxHeartbeats 4000000 in
set_option maxRecDepth 100000 in
theorem page_calls (A : Option Addr) (n c : Nat) (xs : List Int) (st : Int) (w : World) (hR : ReadsInt w .u32 A n xs) (hx : ∀ i, 0 ≤ rd xs i ∧ rd xs i < 4294967296) (h0 : 0 ≤ st) (h1 : st ≤ 255) :
    Calls Try.prog 13 #[.slice A n c, .int .u8 st] w fun e w' => (∃ p : ByteArray, p.size = 256 ∧ e = .returned (.string p)) ∧ Below w.heap.size w w' := by
  have HX := Lib.hid hx
  have HR := Lib.hid hR
  have hn := hR.2.1
  clear hx hR
  have hmk := make256
  go_enter Try.func13, Try.ntmps13
  go_wp2_with fail
  clear hmk
  go_loopw [6] (fun i wr => ∃ k : Nat, k ≤ 64 ∧ i = .int .i64 k ∧ (∃ L : List Int, wr.ownsRow w.heap.size 5 1 (.slice (some ⟨w.heap.size, 0, none⟩) 256 256) 256 (nums .u8 L)) ∧ Below w.heap.size w wr) (fun i _ => 64 - (intOf i).toNat)
  case atStart =>
    refine ⟨0, by omega, rfl, ⟨List.replicate 256 0, ?_⟩, (Below.refl _ _).alloc (Nat.le_refl _) _⟩
    exact own_made w w.heap.size 5 .u8 256 (Nat.le_refl _) (by decide)
  case round =>
    obtain ⟨k, hk, rfl, ⟨L, hL⟩, hb⟩ := hrel
    by_cases hlt : k < 64
    · have hHR := (HR.out.below (⟨hb.os, hb.tape, hb.output, hb.size, hb.block⟩ : Below w.heap.size w wr))
      by_cases hn0 : 0 < n
      · go_upto_if 23 with (fail)
        go_cut [7] (fun s7 wx => ∃ kk : Int, s7 = .int .i64 kk ∧ 0 ≤ kk ∧ kk ≤ 1000 ∧ wr = wx)
        case first =>
          go_wp2_with fail
          all_goals go_meet
          · refine ⟨_, rfl, Int.emod_nonneg _ (by omega), ?_, rfl⟩
            have := Int.emod_lt_of_pos (k : Int) (show (0 : Int) < 1 + st by omega)
            omega
          · exact ⟨_, rfl, by omega, by omega, rfl⟩
        case rest =>
          obtain ⟨kk, rfl, hk0, hk1, rfl⟩ := hcut
          go_upto_if 32 with (fail)
          go_cut [8] (fun s8 wx => ∃ x : Int, s8 = .int .u32 x ∧ 0 ≤ x ∧ x < 4294967296 ∧ wr = wx)
          case first =>
            by_cases hkn : kk < n
            · obtain ⟨ad, rfl, hcell⟩ := hHR.at_ kk hk0 hkn
              have hxx := HX.out kk
              generalize rd xs kk = x at hcell hxx
              obtain ⟨K, rfl⟩ := Int.eq_ofNat_of_zero_le hk0
              rw [Int.toNat_natCast] at hcell
              go_wp2_with fail
              go_meet
              exact ⟨_, rfl, hxx.1, hxx.2, rfl⟩
            · go_wp2_with fail
              go_meet
              exact ⟨_, rfl, by decide, by decide, rfl⟩
          case rest =>
            obtain ⟨x, rfl, hx0, hx1, rfl⟩ := hcut
            go_upto_block 2 with (fail)
            go_cut [8] (fun s8 wx => ∃ x : Int, s8 = .int .u32 x ∧ 0 ≤ x ∧ x < 4294967296 ∧ wr = wx)
            case first =>
              have Hand := Lib.hid (u32_and x 4294901775 hx0 hx1 (by decide) (by decide))
              have Hle := Lib.hid (Nat.and_le_left (n := x.toNat) (m := (4294901775 : Int).toNat))
              go_wp2_with fail
              all_goals go_meet
              · exact ⟨_, rfl, by decide, by decide, rfl⟩
              · exact ⟨_, rfl, Int.emod_nonneg _ (by decide), Int.emod_lt_of_pos _ (by decide), rfl⟩
              · refine ⟨_, rfl, ?_, ?_, rfl⟩
                · rw [Hand.out]; omega
                · rw [Hand.out]; have := Hle.out; omega
              · exact ⟨_, rfl, hx0, hx1, rfl⟩
            case rest =>
              obtain ⟨x, rfl, hx0, hx1, rfl⟩ := hcut
              go_wp2_with fail
              clear hHR HX HR
              go_loopw [9] (fun i wi => ∃ j : Nat, j ≤ 4 ∧ i = .int .i64 j ∧ (∃ L : List Int, wi.ownsRow w.heap.size 5 1 (.slice (some ⟨w.heap.size, 0, none⟩) 256 256) 256 (nums .u8 L)) ∧ Below w.heap.size w wi) (fun i _ => 4 - (intOf i).toNat)
              case atStart => exact ⟨0, by omega, rfl, ⟨L, hL⟩, hb⟩
              case round =>
                obtain ⟨j, hj, rfl, ⟨L2, hL2⟩, hb2⟩ := hrel
                by_cases hlj : j < 4
                · have c1 := own_at hL2 (4 * (k : Int) + j) (by omega) (by omega)
                  rw [show (4 * (k : Int) + j).toNat = 4 * k + j by omega] at c1
                  obtain ⟨c1, f1⟩ := c1
                  go_wp2_with fail
                  have hs3 := own_store hL2 (4 * (k : Int) + j) (x / 2 ^ (8 * j) % 256)
                  rw [show (4 * (k : Int) + j).toNat = 4 * k + j by omega] at hs3
                  go_roundw
                  case rel => exact ⟨j + 1, by omega, by go_num, ⟨_, hs3.1⟩, hb2.setCell (Nat.le_refl _) _⟩
                  case measure => simp [intOf]; omega
                · go_wp2_with fail
                  go_roundw
                  case rel => exact ⟨k + 1, by omega, by go_num, ⟨_, hL2⟩, hb2⟩
                  case measure => simp [intOf]; omega
      · have hn00 : n = 0 := by omega
        have hdn : decide (0 < (n : Int)) = false := by simp; omega
        have Hn0 := Lib.hid hn00
        have hcv := own_string (P := Try.prog) (src := 31) (dst := 9) (e := 5) Try.underlying31 Try.underlying5 Try.underlying9 hL
        clear hn00
        go_wp2_with fail
        go_ret
        exact ⟨⟨_, by rw [strOfNums_size]; have := hL.1; simpa [nums] using this, rfl⟩, hb⟩
    · have hcv := own_string (P := Try.prog) (src := 31) (dst := 9) (e := 5) Try.underlying31 Try.underlying5 Try.underlying9 hL
      go_wp2_with fail
      go_ret
      exact ⟨⟨_, by rw [strOfNums_size]; have := hL.1; simpa [nums] using this, rfl⟩, hb⟩
end Go.Proofs.Ytdfmjmabdggcjaa.Pz
