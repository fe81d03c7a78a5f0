import Derived.Test.YtbcgcbogcofbjaaEcAC
import Derived.Deep.RegionHeld3
import Derived.BigQuiet
import Derived.BigRegion
namespace Go.Proofs.Ytbcgcbogcofbjaa.Ec
open Go.RowKit Go.Proofs.Ytbcgcbogcofbjaa.G
set_option linter.unusedVariables false
set_option linter.unusedSimpArgs false
attribute [local go_sem ↓] Go.wp_at_zero Go.wp_at_succ

set_option maxHeartbeats 3200000 in
set_option maxRecDepth 100000 in
theorem matches_calls (x : Int) (x0 : 0 ≤ x) (x1 : x < 18446744073709551616) (a : Option Addr) (len cap : Nat) (hmax : len ≤ 9223372036854775807) (L : Nat → Opr) (w : World) (hL : OpsAt w a len L) :
    Calls Try.prog 6 #[.int .u64 x, .slice a len cap] w fun e w' => e = .returned (.bool true) ∧ Below w.heap.size w w' := by
  have ha := Lib.hid (fun w => awake_calls w)
  have hn := Lib.hid (oNew (x % 4) (by omega) w w (Fr.refl _ _))
  obtain ⟨bb, oo, h1, h2⟩ := hL
  have H1 := Lib.hid h1
  have H2 := Lib.hid h2
  have hd0 : 0 ≤ x % 4 := by omega
  have hd8 : x % 4 < 4 := by omega
  clear h1 h2
  go_enter Try.func6, Try.ntmps6
  go_wp2_with fail
  refine hn.out.mono ?_
  rintro e w1 ⟨rfl, hC1⟩
  generalize w.heap.size = p at hC1 ⊢
  clear hn
  have HC1 := Lib.hid hC1
  clear hC1
  generalize x % 4 = d at *
  go_wp2_with fail
  refine (ha.out w1).mono ?_
  rintro e w2 ⟨rfl, hf⟩
  have HC2 := Lib.hid (HC1.out.frame hf)
  clear HC1 ha hf
  have hnc := Lib.hid (newC_calls d w2)
  go_wp2_with fail
  refine hnc.out.mono ?_
  rintro e w3 ⟨rfl, hR, hf3, hs3⟩
  have hS0 : Hid ((Ct.new d).Ok ∧ Bn w w3 p w2.heap.size (Ct.new d) (Ct.new d)) := Lib.hid ⟨new_ok hd0 (by omega), HC2.out.bn HC2.out.2.1.size hR hf3⟩
  clear hnc hR hf3 hs3 HC2
  generalize w2.heap.size = r at *
  go_wp2_with fail
  go_loopw [8, 9] (fun nv c wr => ∃ (k : Nat) (n : Int) (C : Ct), k ≤ len ∧ k ≤ 90 ∧ c = .int .i64 k ∧ nv = .int .u64 n ∧ 0 ≤ n ∧ n ≤ 2 * k ∧ Hid (C.Ok ∧ Bn w wr p r C C))
    (fun nv c _ => 100 - (intOf c).toNat)
  case atStart => exact ⟨0, 0, Ct.new d, by omega, by omega, rfl, rfl, by omega, by omega, hS0⟩
  case round =>
    clear hS0
    obtain ⟨k, n, C, hk, hk90, rfl, rfl, hn0, hn1, HR⟩ := hrel
    by_cases hkl : k < len
    · by_cases hk9 : k < 90
      · obtain ⟨g0, ok, q0, q1, q2, q3⟩ := H2.out k hkl
        obtain rfl := H1.out (by omega)
        have hfr := HR.out.2.2.2.1
        have k0 : wr.cell? ⟨bb, oo + k * 4, none⟩ = some (.int .i64 (L k).kind) := (hfr.cell g0 (by simp)).trans q0
        have k1 : wr.cell? ⟨bb, oo + k * 4 + 1, none⟩ = some (.int .u8 (L k).v) := (hfr.cell g0 (by simp)).trans q1
        have k2 : wr.cell? ⟨bb, oo + k * 4 + 2, none⟩ = some (.int .u8 (L k).r) := (hfr.cell g0 (by simp)).trans q2
        have k3 : wr.cell? ⟨bb, oo + k * 4 + 3, none⟩ = some (.int .u64 (L k).pass) := (hfr.cell g0 (by simp)).trans q3
        obtain ⟨i0, i1, ⟨v0, v1⟩, ⟨r0, r1⟩, p0, p1⟩ := ok
        generalize (L k).kind = ki at *
        generalize (L k).v = vi at *
        generalize (L k).r = ri at *
        generalize (L k).pass = pa at *
        clear q0 q1 q2 q3 hfr
        go_upto_region 11 with (fail)
        have hB : Bo w (wr.alloc (.cells #[.int .i64 ki, .int .u8 vi, .int .u8 ri, .int .u64 pa] 45)) p r wr.heap.size #[.int .i64 ki, .int .u8 vi, .int .u8 ri, .int .u64 pa] C C := HR.out.2.bo ((Fr.refl _ _).alloc _) (heap_alloc_new _ _)
        have Hok := Lib.hid HR.out.1
        clear HR H1 k0 k1 k2 k3
        generalize wr.alloc (.cells #[.int .i64 ki, .int .u8 vi, .int .u8 ri, .int .u64 pa] 45) = W at *
        generalize wr.heap.size = z at *
        have z0 : W.cell? ⟨z, 0, none⟩ = some (.int .i64 ki) := cellB hB.2.2.2.1 0
        have z1 : W.cell? ⟨z, 1, none⟩ = some (.int .u8 vi) := cellB hB.2.2.2.1 1
        have z2 : W.cell? ⟨z, 2, none⟩ = some (.int .u8 ri) := cellB hB.2.2.2.1 2
        have z3 : W.cell? ⟨z, 3, none⟩ = some (.int .u64 pa) := cellB hB.2.2.2.1 3
        have HB := Lib.hid hB
        clear hB
        have hmod := mod_calls ki 10 i0 i1 (by omega) (by omega) W
        have hm0 : 0 ≤ umod ki 10 := by unfold umod; omega
        have hm9 : umod ki 10 < 10 := by unfold umod; omega
        generalize umod ki 10 = m at *
        have Hmod := Lib.hid hmod
        clear hmod
        by_cases hm8 : 8 ≤ m
        · have e0 : (m == 0) = false := by simp; omega
          have e1 : (m == 1) = false := by simp; omega
          have e2 : (m == 2) = false := by simp; omega
          have e3 : (m == 3) = false := by simp; omega
          have e4 : (m == 4) = false := by simp; omega
          have e5 : (m == 5) = false := by simp; omega
          have e6 : (m == 6) = false := by simp; omega
          have e7 : (m == 7) = false := by simp; omega
          go_wp2_with fail
          refine Hmod.out.mono ?_
          rintro e w4 ⟨rfl, rfl⟩
          have hst := Lib.hid (HB.out.left (fun O hP => status_calls p O C Hok.out (n + pa % 3) (by omega) (by omega) _ hP))
          go_wp2_with fail
          refine hst.out.mono ?_
          rintro e w5 ⟨rfl, hB5⟩
          have hst2 := Lib.hid (hB5.right (fun Q hR => ref1 (rstatus_calls r Q C Hok.out (n + pa % 3) (by omega) (by omega) _ hR)))
          have hbits := status_bits (C.adv (n + pa % 3))
          have hokA := adv_ok Hok.out (t := n + pa % 3) (by omega) (by omega)
          have HokA := Lib.hid hokA
          generalize statusV (C.adv (n + pa % 3)) = sv at *
          clear hst hB5 z0 z1 z2 z3 hokA
          go_wp2_with fail
          refine hst2.out.mono ?_
          rintro e w6 ⟨rfl, hB6⟩
          have z2 : w6.cell? ⟨z, 2, none⟩ = some (.int .u8 ri) := cellB hB6.2.2.2.1 2
          have HB6 := Lib.hid hB6
          clear hst2 hB6
          generalize C.adv (n + pa % 3) = D at *
          go_upto_region 31 with (fail)
          obtain ⟨vf, hvf⟩ : ∃ j : Nat, valF ri = (j : Int) := Int.eq_ofNat_of_zero_le (valF_byte ⟨r0, r1⟩).1
          have hvf2 : vf < 256 := by have := (valF_byte ⟨r0, r1⟩).2; omega
          have hrp : ∀ W : World, Fr [] w6 W → Calls Try.prog 16 #[.pointer (some ⟨p, 0, none⟩), .int .u8 (vf : Int)] W fun e w' => e = .returned (.int .u8 (D.regs vf)) ∧ w' = W := fun W hW => by
            obtain ⟨_, _, _, _, O, Q, hC, hR, _⟩ := HB6.out.frame hW
            exact regP_calls p O D vf hvf2 W hC
          have hrr : ∀ W : World, Fr [] w6 W → Calls Try.prog 31 #[.pointer (some ⟨r, 0, none⟩), .int .u8 (vf : Int)] W fun e w' => e = .returned (.int .u8 (D.regs vf)) ∧ w' = W := fun W hW => by
            obtain ⟨_, _, _, _, O, Q, hC, hR, _⟩ := HB6.out.frame hW
            exact regR_calls r Q D vf hvf2 W hR
          have hval : ∀ W : World, Calls Try.prog 20 #[.int .u8 ri, .bool false] W fun e w' => e = .returned (.int .u8 (vf : Int)) ∧ w' = W := fun W => by rw [← hvf]; exact valueF_calls ri r0 r1 W
          have Hrp := Lib.hid hrp
          have Hrr := Lib.hid hrr
          have Hval := Lib.hid hval
          generalize D.regs vf = rg at *
          clear hrp hrr hval hvf Hmod
          go_quiet (first
            | (go_at_call 20; refine Calls.quiet_of_same (Hval.out _))
            | (go_at_call 16; refine Calls.quiet_of_same (Hrp.out _ (Fr.drewN (Fr.refl _ _) _)))
            | (go_at_call 31; refine Calls.quiet_of_same (Hrr.out _ (Fr.drewN (Fr.refl _ _) _))))
          go_wp2_with fail
          go_roundw
          case rel => exact ⟨k + 1, n + pa % 3, D, by omega, by omega, by go_num, rfl, by omega, by omega, Lib.hid ⟨HokA.out, (HB6.out.frame (Fr.drewN (Fr.refl _ _) _)).bn⟩⟩
          case measure => simp [intOf]; omega
        · by_cases hm5 : m = 5
          · subst hm5
            go_wp2_with fail
            refine Hmod.out.mono ?_
            rintro e w4 ⟨rfl, rfl⟩
            have hst := Lib.hid (HB.out.left (fun O hP => readData_calls p O C Hok.out (n + pa % 3) (by omega) (by omega) _ hP))
            go_wp2_with fail
            refine hst.out.mono ?_
            rintro e w5 ⟨rfl, hB5⟩
            have hst2 := Lib.hid (hB5.right (fun Q hR => ref1 (rreadData_calls r Q C Hok.out (n + pa % 3) (by omega) (by omega) _ hR)))
            have hokA := read_ok (adv_ok Hok.out (t := n + pa % 3) (by omega) (by omega))
            have HokA := Lib.hid hokA
            generalize readV (C.adv (n + pa % 3)) = sv at *
            clear hst hB5 z0 z1 z2 z3 hokA
            go_wp2_with fail
            refine hst2.out.mono ?_
            rintro e w6 ⟨rfl, hB6⟩
            have z2 : w6.cell? ⟨z, 2, none⟩ = some (.int .u8 ri) := cellB hB6.2.2.2.1 2
            have HB6 := Lib.hid hB6
            clear hB6
            clear hst2
            generalize readS (C.adv (n + pa % 3)) = D at *
            go_upto_region 31 with (fail)
            obtain ⟨vf, hvf⟩ : ∃ j : Nat, valF ri = (j : Int) := Int.eq_ofNat_of_zero_le (valF_byte ⟨r0, r1⟩).1
            have hvf2 : vf < 256 := by have := (valF_byte ⟨r0, r1⟩).2; omega
            have hrp : ∀ W : World, Fr [] w6 W → Calls Try.prog 16 #[.pointer (some ⟨p, 0, none⟩), .int .u8 (vf : Int)] W fun e w' => e = .returned (.int .u8 (D.regs vf)) ∧ w' = W := fun W hW => by
              obtain ⟨_, _, _, _, O, Q, hC, hR, _⟩ := HB6.out.frame hW
              exact regP_calls p O D vf hvf2 W hC
            have hrr : ∀ W : World, Fr [] w6 W → Calls Try.prog 31 #[.pointer (some ⟨r, 0, none⟩), .int .u8 (vf : Int)] W fun e w' => e = .returned (.int .u8 (D.regs vf)) ∧ w' = W := fun W hW => by
              obtain ⟨_, _, _, _, O, Q, hC, hR, _⟩ := HB6.out.frame hW
              exact regR_calls r Q D vf hvf2 W hR
            have hval : ∀ W : World, Calls Try.prog 20 #[.int .u8 ri, .bool false] W fun e w' => e = .returned (.int .u8 (vf : Int)) ∧ w' = W := fun W => by rw [← hvf]; exact valueF_calls ri r0 r1 W
            have Hrp := Lib.hid hrp
            have Hrr := Lib.hid hrr
            have Hval := Lib.hid hval
            generalize D.regs vf = rg at *
            clear hrp hrr hval hvf Hmod
            go_quiet (first
              | (go_at_call 20; refine Calls.quiet_of_same (Hval.out _))
              | (go_at_call 16; refine Calls.quiet_of_same (Hrp.out _ (Fr.drewN (Fr.refl _ _) _)))
              | (go_at_call 31; refine Calls.quiet_of_same (Hrr.out _ (Fr.drewN (Fr.refl _ _) _))))
            go_wp2_with fail
            go_roundw
            case rel => exact ⟨k + 1, n + pa % 3, D, by omega, by omega, by go_num, rfl, by omega, by omega, Lib.hid ⟨HokA.out, (HB6.out.frame (Fr.drewN (Fr.refl _ _) _)).bn⟩⟩
            case measure => simp [intOf]; omega
          · by_cases hm02 : m ≤ 2
            · have hm012 : m = 0 ∨ m = 1 ∨ m = 2 := by omega
              rcases hm012 with rfl | rfl | rfl
              all_goals
                go_wp2_with fail
                refine Hmod.out.mono ?_
                rintro e w4 ⟨rfl, rfl⟩
                have hvb := valF_byte (v := vi) ⟨v0, v1⟩
                have hokA := write_ok Hok.out (t := n + pa % 3) (v := valF vi) (by omega) (by omega) hvb false
                have HokA := Lib.hid hokA
                clear hokA hvb
                go_wp2_with fail
                refine (valueF_calls vi v0 v1 _).mono ?_
                rintro e w5 ⟨rfl, rfl⟩
                have hf5 := Fr.refl [] w5
                have HB5 := Lib.hid (HB.out.frame hf5)
                have hst := Lib.hid (HB5.out.left (fun O hP => writeData_calls p O C Hok.out (n + pa % 3) (by omega) (by omega) (valF vi) _ hP))
                clear z0 z1 z2 z3 hf5
                go_wp2_with fail
                refine hst.out.mono ?_
                rintro e w7 ⟨rfl, hB7⟩
                have z1 : w7.cell? ⟨z, 1, none⟩ = some (.int .u8 vi) := cellB hB7.2.2.2.1 1
                have HB7 := Lib.hid hB7
                clear hst hB7
                go_wp2_with fail
                refine (valueF_calls vi v0 v1 _).mono ?_
                rintro e w8 ⟨rfl, rfl⟩
                have hf5 := Fr.refl [] w8
                have HB8 := Lib.hid (HB7.out.frame hf5)
                have hst2 := Lib.hid (HB8.out.right (fun Q hR => ref1 (rwriteData_calls r Q C Hok.out (n + pa % 3) (by omega) (by omega) (valF vi) _ hR)))
                clear z1 hf5
                go_wp2_with fail
                refine hst2.out.mono ?_
                rintro e w6 ⟨rfl, hB6⟩
                have z2 : w6.cell? ⟨z, 2, none⟩ = some (.int .u8 ri) := cellB hB6.2.2.2.1 2
                have HB6 := Lib.hid hB6
                clear hB6
                clear hst2
                generalize writeS C (n + pa % 3) (valF vi) false = D at *
                go_upto_region 31 with (fail)
                obtain ⟨vf, hvf⟩ : ∃ j : Nat, valF ri = (j : Int) := Int.eq_ofNat_of_zero_le (valF_byte ⟨r0, r1⟩).1
                have hvf2 : vf < 256 := by have := (valF_byte ⟨r0, r1⟩).2; omega
                have hrp : ∀ W : World, Fr [] w6 W → Calls Try.prog 16 #[.pointer (some ⟨p, 0, none⟩), .int .u8 (vf : Int)] W fun e w' => e = .returned (.int .u8 (D.regs vf)) ∧ w' = W := fun W hW => by
                  obtain ⟨_, _, _, _, O, Q, hC, hR, _⟩ := HB6.out.frame hW
                  exact regP_calls p O D vf hvf2 W hC
                have hrr : ∀ W : World, Fr [] w6 W → Calls Try.prog 31 #[.pointer (some ⟨r, 0, none⟩), .int .u8 (vf : Int)] W fun e w' => e = .returned (.int .u8 (D.regs vf)) ∧ w' = W := fun W hW => by
                  obtain ⟨_, _, _, _, O, Q, hC, hR, _⟩ := HB6.out.frame hW
                  exact regR_calls r Q D vf hvf2 W hR
                have hval : ∀ W : World, Calls Try.prog 20 #[.int .u8 ri, .bool false] W fun e w' => e = .returned (.int .u8 (vf : Int)) ∧ w' = W := fun W => by rw [← hvf]; exact valueF_calls ri r0 r1 W
                have Hrp := Lib.hid hrp
                have Hrr := Lib.hid hrr
                have Hval := Lib.hid hval
                generalize D.regs vf = rg at *
                clear hrp hrr hval hvf Hmod
                go_quiet (first
                  | (go_at_call 20; refine Calls.quiet_of_same (Hval.out _))
                  | (go_at_call 16; refine Calls.quiet_of_same (Hrp.out _ (Fr.drewN (Fr.refl _ _) _)))
                  | (go_at_call 31; refine Calls.quiet_of_same (Hrr.out _ (Fr.drewN (Fr.refl _ _) _))))
                go_wp2_with fail
                go_roundw
                case rel => exact ⟨k + 1, n + pa % 3, D, by omega, by omega, by go_num, rfl, by omega, by omega, Lib.hid ⟨HokA.out, (HB6.out.frame (Fr.drewN (Fr.refl _ _) _)).bn⟩⟩
                case measure => simp [intOf]; omega
            · by_cases hm34 : m ≤ 4
              · have hm034 : m = 3 ∨ m = 4 := by omega
                rcases hm034 with rfl | rfl
                all_goals
                  go_wp2_with fail
                  refine Hmod.out.mono ?_
                  rintro e w4 ⟨rfl, rfl⟩
                  have hvb := valT_byte (v := vi) ⟨v0, v1⟩
                  have hokA := write_ok Hok.out (t := n + pa % 3) (v := valT vi) (by omega) (by omega) hvb true
                  have HokA := Lib.hid hokA
                  clear hokA hvb
                  go_wp2_with fail
                  refine (valueT_calls vi v0 v1 _).mono ?_
                  rintro e w5 ⟨rfl, hf5⟩
                  have HB5 := Lib.hid (HB.out.frame hf5)
                  have hst := Lib.hid (HB5.out.left (fun O hP => writeCommand_calls p O C Hok.out (n + pa % 3) (by omega) (by omega) (valT vi) _ hP))
                  clear z0 z1 z2 z3 hf5
                  go_wp2_with fail
                  refine hst.out.mono ?_
                  rintro e w7 ⟨rfl, hB7⟩
                  have z1 : w7.cell? ⟨z, 1, none⟩ = some (.int .u8 vi) := cellB hB7.2.2.2.1 1
                  have HB7 := Lib.hid hB7
                  clear hst hB7
                  go_wp2_with fail
                  refine (valueT_calls vi v0 v1 _).mono ?_
                  rintro e w8 ⟨rfl, hf5⟩
                  have HB8 := Lib.hid (HB7.out.frame hf5)
                  have hst2 := Lib.hid (HB8.out.right (fun Q hR => ref1 (rwriteCommand_calls r Q C Hok.out (n + pa % 3) (by omega) (by omega) (valT vi) _ hR)))
                  clear z1 hf5
                  go_wp2_with fail
                  refine hst2.out.mono ?_
                  rintro e w6 ⟨rfl, hB6⟩
                  have z2 : w6.cell? ⟨z, 2, none⟩ = some (.int .u8 ri) := cellB hB6.2.2.2.1 2
                  have HB6 := Lib.hid hB6
                  clear hB6
                  clear hst2
                  generalize writeS C (n + pa % 3) (valT vi) true = D at *
                  go_upto_region 31 with (fail)
                  obtain ⟨vf, hvf⟩ : ∃ j : Nat, valF ri = (j : Int) := Int.eq_ofNat_of_zero_le (valF_byte ⟨r0, r1⟩).1
                  have hvf2 : vf < 256 := by have := (valF_byte ⟨r0, r1⟩).2; omega
                  have hrp : ∀ W : World, Fr [] w6 W → Calls Try.prog 16 #[.pointer (some ⟨p, 0, none⟩), .int .u8 (vf : Int)] W fun e w' => e = .returned (.int .u8 (D.regs vf)) ∧ w' = W := fun W hW => by
                    obtain ⟨_, _, _, _, O, Q, hC, hR, _⟩ := HB6.out.frame hW
                    exact regP_calls p O D vf hvf2 W hC
                  have hrr : ∀ W : World, Fr [] w6 W → Calls Try.prog 31 #[.pointer (some ⟨r, 0, none⟩), .int .u8 (vf : Int)] W fun e w' => e = .returned (.int .u8 (D.regs vf)) ∧ w' = W := fun W hW => by
                    obtain ⟨_, _, _, _, O, Q, hC, hR, _⟩ := HB6.out.frame hW
                    exact regR_calls r Q D vf hvf2 W hR
                  have hval : ∀ W : World, Calls Try.prog 20 #[.int .u8 ri, .bool false] W fun e w' => e = .returned (.int .u8 (vf : Int)) ∧ w' = W := fun W => by rw [← hvf]; exact valueF_calls ri r0 r1 W
                  have Hrp := Lib.hid hrp
                  have Hrr := Lib.hid hrr
                  have Hval := Lib.hid hval
                  generalize D.regs vf = rg at *
                  clear hrp hrr hval hvf Hmod
                  go_quiet (first
                    | (go_at_call 20; refine Calls.quiet_of_same (Hval.out _))
                    | (go_at_call 16; refine Calls.quiet_of_same (Hrp.out _ (Fr.drewN (Fr.refl _ _) _)))
                    | (go_at_call 31; refine Calls.quiet_of_same (Hrr.out _ (Fr.drewN (Fr.refl _ _) _))))
                  go_wp2_with fail
                  go_roundw
                  case rel => exact ⟨k + 1, n + pa % 3, D, by omega, by omega, by go_num, rfl, by omega, by omega, Lib.hid ⟨HokA.out, (HB6.out.frame (Fr.drewN (Fr.refl _ _) _)).bn⟩⟩
                  case measure => simp [intOf]; omega
              · by_cases hm6 : m = 6
                · subst hm6
                  go_wp2_with fail
                  refine Hmod.out.mono ?_
                  rintro e w4 ⟨rfl, rfl⟩
                  have hx0 : 0 ≤ vi.tmod 4 := by rw [Int.tmod_eq_emod_of_nonneg v0]; omega
                  have hx4 : vi.tmod 4 < 256 := by rw [Int.tmod_eq_emod_of_nonneg v0]; omega
                  have hokA := raise_ok Hok.out (q := vi.tmod 4) ⟨hx0, hx4⟩
                  have HokA := Lib.hid hokA
                  have HL : Hid (∀ V, Fr [] w4 V → Calls Try.prog 26 #[.pointer (some ⟨p, 0, none⟩), .int .u8 (vi.tmod 4)] V fun e w' => e = .returned (.int .i64 (raiseE C (vi.tmod 4))) ∧ Bo w w' p r z #[.int .i64 ki, .int .u8 vi, .int .u8 ri, .int .u64 pa] (raiseS C (vi.tmod 4)) C) := Lib.hid (fun V hV => (HB.out.frame hV).left (fun O hP => raise_calls p O C Hok.out (vi.tmod 4) hx0 hx4 _ hP))
                  have HR : Hid (∀ V, Fr [] w4 V → Calls Try.prog 27 #[.pointer (some ⟨r, 0, none⟩), .int .u8 (vi.tmod 4)] V fun e w' => e = .returned (.int .i64 (raiseE C (vi.tmod 4))) ∧ Bo w w' p r z #[.int .i64 ki, .int .u8 vi, .int .u8 ri, .int .u64 pa] C (raiseS C (vi.tmod 4))) := Lib.hid (fun V hV => (HB.out.frame hV).right (fun Q hQ => rraise_calls r Q C Hok.out (vi.tmod 4) hx0 hx4 _ hQ))
                  have HL2 : Hid (∀ V, Bo w V p r z #[.int .i64 ki, .int .u8 vi, .int .u8 ri, .int .u64 pa] C (raiseS C (vi.tmod 4)) → Calls Try.prog 26 #[.pointer (some ⟨p, 0, none⟩), .int .u8 (vi.tmod 4)] V fun e w' => e = .returned (.int .i64 (raiseE C (vi.tmod 4))) ∧ Bo w w' p r z #[.int .i64 ki, .int .u8 vi, .int .u8 ri, .int .u64 pa] (raiseS C (vi.tmod 4)) (raiseS C (vi.tmod 4))) := Lib.hid (fun V hV => hV.left (fun O hP => raise_calls p O C Hok.out (vi.tmod 4) hx0 hx4 _ hP))
                  have HR2 : Hid (∀ V, Bo w V p r z #[.int .i64 ki, .int .u8 vi, .int .u8 ri, .int .u64 pa] (raiseS C (vi.tmod 4)) C → Calls Try.prog 27 #[.pointer (some ⟨r, 0, none⟩), .int .u8 (vi.tmod 4)] V fun e w' => e = .returned (.int .i64 (raiseE C (vi.tmod 4))) ∧ Bo w w' p r z #[.int .i64 ki, .int .u8 vi, .int .u8 ri, .int .u64 pa] (raiseS C (vi.tmod 4)) (raiseS C (vi.tmod 4))) := Lib.hid (fun V hV => hV.right (fun Q hQ => rraise_calls r Q C Hok.out (vi.tmod 4) hx0 hx4 _ hQ))
                  generalize raiseS C (vi.tmod 4) = D at *
                  generalize raiseE C (vi.tmod 4) = re at *
                  clear hokA z0 z2 z3
                  go_upto_region 27 with (fail)
                  go_region_held3 (fun V => V.cell? ⟨z, 1, none⟩ = some (.int .u8 vi))
                    (first | (with_reducible exact HB6.out.k1) | (with_reducible exact HB6.out.drew.k1) | (with_reducible exact HBL.out.k1) | (with_reducible exact HBL.out.drew.k1) | (with_reducible exact HBR.out.k1) | (with_reducible exact HBR.out.drew.k1) | (with_reducible exact HB.out.k1) | (with_reducible exact HB.out.drew.k1))
                    (first
                      | (go_at_call 26; (with_reducible refine (HL2.out _ HBR.out).mono ?_); rintro e w6 ⟨rfl, hB6⟩; have HB6 := Lib.hid hB6; clear hB6)
                      | (go_at_call 27; (with_reducible refine (HR2.out _ HBL.out).mono ?_); rintro e w6 ⟨rfl, hB6⟩; have HB6 := Lib.hid hB6; clear hB6)
                      | (go_at_call 26; (with_reducible refine (HL.out _ (by first | exact Fr.refl _ _ | exact (Fr.refl _ _).drew | exact Fr.drewN (Fr.refl _ _) _)).mono ?_); rintro e w5 ⟨rfl, hBL⟩; have HBL := Lib.hid hBL; clear hBL)
                      | (go_at_call 27; (with_reducible refine (HR.out _ (by first | exact Fr.refl _ _ | exact (Fr.refl _ _).drew | exact Fr.drewN (Fr.refl _ _) _)).mono ?_); rintro e w5 ⟨rfl, hBR⟩; have HBR := Lib.hid hBR; clear hBR))
                  all_goals
                    have z2 : w6.cell? ⟨z, 2, none⟩ = some (.int .u8 ri) := cellB HB6.out.2.2.2.1 2
                    go_upto_region 31 with (fail)
                    obtain ⟨vf, hvf⟩ : ∃ j : Nat, valF ri = (j : Int) := Int.eq_ofNat_of_zero_le (valF_byte ⟨r0, r1⟩).1
                    have hvf2 : vf < 256 := by have := (valF_byte ⟨r0, r1⟩).2; omega
                    have hrp : ∀ W : World, Fr [] w6 W → Calls Try.prog 16 #[.pointer (some ⟨p, 0, none⟩), .int .u8 (vf : Int)] W fun e w' => e = .returned (.int .u8 (D.regs vf)) ∧ w' = W := fun W hW => by
                      obtain ⟨_, _, _, _, O, Q, hC, hR, _⟩ := HB6.out.frame hW
                      exact regP_calls p O D vf hvf2 W hC
                    have hrr : ∀ W : World, Fr [] w6 W → Calls Try.prog 31 #[.pointer (some ⟨r, 0, none⟩), .int .u8 (vf : Int)] W fun e w' => e = .returned (.int .u8 (D.regs vf)) ∧ w' = W := fun W hW => by
                      obtain ⟨_, _, _, _, O, Q, hC, hR, _⟩ := HB6.out.frame hW
                      exact regR_calls r Q D vf hvf2 W hR
                    have hval : ∀ W : World, Calls Try.prog 20 #[.int .u8 ri, .bool false] W fun e w' => e = .returned (.int .u8 (vf : Int)) ∧ w' = W := fun W => by rw [← hvf]; exact valueF_calls ri r0 r1 W
                    have Hrp := Lib.hid hrp
                    have Hrr := Lib.hid hrr
                    have Hval := Lib.hid hval
                    generalize D.regs vf = rg at *
                    clear hrp hrr hval hvf Hmod
                    go_quiet (first
                      | (go_at_call 20; refine Calls.quiet_of_same (Hval.out _))
                      | (go_at_call 16; refine Calls.quiet_of_same (Hrp.out _ (Fr.drewN (Fr.refl _ _) _)))
                      | (go_at_call 31; refine Calls.quiet_of_same (Hrr.out _ (Fr.drewN (Fr.refl _ _) _))))
                    go_wp2_with fail
                    go_roundw
                    case rel => exact ⟨k + 1, n + pa % 3, D, by omega, by omega, by go_num, rfl, by omega, by omega, Lib.hid ⟨HokA.out, (HB6.out.frame (Fr.drewN (Fr.refl _ _) _)).bn⟩⟩
                    case measure => simp [intOf]; omega
                · obtain rfl : m = 7 := by omega
                  go_wp2_with fail
                  refine Hmod.out.mono ?_
                  rintro e w4 ⟨rfl, rfl⟩
                  obtain ⟨vf, hvf⟩ : ∃ j : Nat, valF ri = (j : Int) := Int.eq_ofNat_of_zero_le (valF_byte ⟨r0, r1⟩).1
                  have hvf2 : vf < 256 := by have := (valF_byte ⟨r0, r1⟩).2; omega
                  have hvl := Lib.hid (show ∀ W : World, Calls Try.prog 20 #[.int .u8 ri, .bool false] W fun e w' => e = .returned (.int .u8 (vf : Int)) ∧ W = w' from fun W => by rw [← hvf]; exact (valueF_calls ri r0 r1 W).mono (fun e w' h => ⟨h.1, h.2.symm⟩))
                  have hokA := set_ok Hok.out vf ⟨v0, v1⟩
                  have HokA := Lib.hid hokA
                  have HL : Hid (∀ V, Fr [] w4 V → Calls Try.prog 14 #[.pointer (some ⟨p, 0, none⟩), .int .u8 (vf : Int), .int .u8 vi] V fun e w' => e = .returned (.tuple #[]) ∧ Bo w w' p r z #[.int .i64 ki, .int .u8 vi, .int .u8 ri, .int .u64 pa] (setS C vf vi) C) := Lib.hid (fun V hV => (HB.out.frame hV).left (fun O hP => (setRegister_calls p O C vf hvf2 vi _ hP).mono (fun e w' h => ⟨h.1, h.2.1, fr1 h.2.2⟩)))
                  have HR2 : Hid (∀ V, Bo w V p r z #[.int .i64 ki, .int .u8 vi, .int .u8 ri, .int .u64 pa] (setS C vf vi) C → Calls Try.prog 28 #[.pointer (some ⟨r, 0, none⟩), .int .u8 (vf : Int), .int .u8 vi] V fun e w' => e = .returned (.tuple #[]) ∧ Bo w w' p r z #[.int .i64 ki, .int .u8 vi, .int .u8 ri, .int .u64 pa] (setS C vf vi) (setS C vf vi)) := Lib.hid (fun V hV => hV.right (fun Q hQ => ref1 (rsetRegister_calls r Q C vf hvf2 vi _ hQ)))
                  generalize setS C vf vi = D at *
                  have HVF := Lib.hid hvf
                  have HVF2 := Lib.hid hvf2
                  clear hokA z0 z3 hvf hvf2
                  go_upto_region 29 with (fail)
                  go_region_held3 (fun V => V.cell? ⟨z, 1, none⟩ = some (.int .u8 vi) ∧ V.cell? ⟨z, 2, none⟩ = some (.int .u8 ri))
                    (first | (with_reducible exact ⟨HB5.out.k1, HB5.out.k2⟩) | (with_reducible exact ⟨HB5.out.drew.k1, HB5.out.drew.k2⟩) | (with_reducible exact ⟨HB.out.k1, HB.out.k2⟩) | (with_reducible exact ⟨HB.out.drew.k1, HB.out.drew.k2⟩))
                    (first
                      | (go_at_call 20; refine (hvl.out _).mono ?_; rintro e w5 ⟨rfl, rfl⟩)
                      | (go_at_call 14; (with_reducible refine (HL.out _ (by first | exact Fr.refl _ _ | exact (Fr.refl _ _).drew | exact Fr.drewN (Fr.refl _ _) _)).mono ?_); rintro e w5 ⟨rfl, hB5⟩; have HB5 := Lib.hid hB5; clear hB5))
                  all_goals
                    have z1 : w5.cell? ⟨z, 1, none⟩ = some (.int .u8 vi) := cellB HB5.out.2.2.2.1 1
                    have z2 : w5.cell? ⟨z, 2, none⟩ = some (.int .u8 ri) := cellB HB5.out.2.2.2.1 2
                    go_upto_region 30 with (fail)
                    go_region_held3 (fun V => V.cell? ⟨z, 1, none⟩ = some (.int .u8 vi) ∧ V.cell? ⟨z, 2, none⟩ = some (.int .u8 ri))
                      (first | (with_reducible exact ⟨HB6.out.k1, HB6.out.k2⟩) | (with_reducible exact ⟨HB6.out.drew.k1, HB6.out.drew.k2⟩) | (with_reducible exact ⟨HB5.out.k1, HB5.out.k2⟩) | (with_reducible exact ⟨HB5.out.drew.k1, HB5.out.drew.k2⟩))
                      (first
                        | (go_at_call 20; refine (hvl.out _).mono ?_; rintro e w6 ⟨rfl, rfl⟩)
                        | (go_at_call 28; (with_reducible refine (HR2.out _ (HB5.out.frame (by first | exact Fr.refl _ _ | exact (Fr.refl _ _).drew | exact Fr.drewN (Fr.refl _ _) _))).mono ?_); rintro e w6 ⟨rfl, hB6⟩; have HB6 := Lib.hid hB6; clear hB6))
                    all_goals
                      have z2 : w6.cell? ⟨z, 2, none⟩ = some (.int .u8 ri) := cellB HB6.out.2.2.2.1 2
                      clear hvl z1
                      go_upto_region 31 with (fail)
                      have hvf := HVF.out
                      have hvf2 := HVF2.out
                      have hrp : ∀ W : World, Fr [] w6 W → Calls Try.prog 16 #[.pointer (some ⟨p, 0, none⟩), .int .u8 (vf : Int)] W fun e w' => e = .returned (.int .u8 (D.regs vf)) ∧ w' = W := fun W hW => by
                        obtain ⟨_, _, _, _, O, Q, hC, hR, _⟩ := HB6.out.frame hW
                        exact regP_calls p O D vf hvf2 W hC
                      have hrr : ∀ W : World, Fr [] w6 W → Calls Try.prog 31 #[.pointer (some ⟨r, 0, none⟩), .int .u8 (vf : Int)] W fun e w' => e = .returned (.int .u8 (D.regs vf)) ∧ w' = W := fun W hW => by
                        obtain ⟨_, _, _, _, O, Q, hC, hR, _⟩ := HB6.out.frame hW
                        exact regR_calls r Q D vf hvf2 W hR
                      have hval : ∀ W : World, Calls Try.prog 20 #[.int .u8 ri, .bool false] W fun e w' => e = .returned (.int .u8 (vf : Int)) ∧ w' = W := fun W => by rw [← hvf]; exact valueF_calls ri r0 r1 W
                      have Hrp := Lib.hid hrp
                      have Hrr := Lib.hid hrr
                      have Hval := Lib.hid hval
                      generalize D.regs vf = rg at *
                      clear hrp hrr hval hvf Hmod
                      go_quiet (first
                        | (go_at_call 20; refine Calls.quiet_of_same (Hval.out _))
                        | (go_at_call 16; refine Calls.quiet_of_same (Hrp.out _ (Fr.drewN (Fr.refl _ _) _)))
                        | (go_at_call 31; refine Calls.quiet_of_same (Hrr.out _ (Fr.drewN (Fr.refl _ _) _))))
                      go_wp2_with fail
                      go_roundw
                      case rel => exact ⟨k + 1, n + pa % 3, D, by omega, by omega, by go_num, rfl, by omega, by omega, Lib.hid ⟨HokA.out, (HB6.out.frame (Fr.drewN (Fr.refl _ _) _)).bn⟩⟩
                      case measure => simp [intOf]; omega
      · obtain rfl : k = 90 := by omega
        have Hok := Lib.hid HR.out.1
        have HB := Lib.hid HR.out.2
        clear HR
        have hst := Lib.hid (HB.out.left (fun O hP => status_calls p O C Hok.out (n + 10) (by omega) (by omega) _ hP))
        have hokA := adv_ok Hok.out (t := n + 10) (by omega) (by omega)
        have HokA := Lib.hid hokA
        have hbits := status_bits (C.adv (n + 10))
        have Hrs := Lib.hid (fun w5 (hB5 : Bn w w5 p r (C.adv (n + 10)) C) => hB5.right (fun Q hR => ref1 (rstatus_calls r Q C Hok.out (n + 10) (by omega) (by omega) _ hR)))
        have Hrd := Lib.hid (fun w5 (hB5 : Bn w w5 p r (C.adv (n + 10)) (C.adv (n + 10))) => hB5.left (fun O hP => readData_calls p O _ HokA.out (n + 10) (by omega) (by omega) _ hP))
        have Hrr := Lib.hid (fun w5 (hB5 : Bn w w5 p r (readS ((C.adv (n + 10)).adv (n + 10))) (C.adv (n + 10))) => hB5.right (fun Q hR => ref1 (rreadData_calls r Q _ HokA.out (n + 10) (by omega) (by omega) _ hR)))
        generalize statusV (C.adv (n + 10)) = sv at *
        clear hokA
        go_wp2_with fail
        refine hst.out.mono ?_
        rintro e w5 ⟨rfl, hB5⟩
        have hr1 := Lib.hid (Hrs.out _ hB5)
        clear hst hB5
        go_wp2_with fail
        refine hr1.out.mono ?_
        rintro e w6 ⟨rfl, hB6⟩
        have hr2 := Lib.hid (Hrd.out _ hB6)
        clear hr1 hB6
        go_wp2_with fail
        refine hr2.out.mono ?_
        rintro e w7 ⟨rfl, hB7⟩
        have hr3 := Lib.hid (Hrr.out _ hB7)
        clear hr2 hB7
        go_wp2_with fail
        refine hr3.out.mono ?_
        rintro e w8 ⟨rfl, hB8⟩
        have HB8 := Lib.hid hB8
        clear hr3 hB8
        generalize readV ((C.adv (n + 10)).adv (n + 10)) = rv at *
        go_wp2_with fail
        go_ret
        exact ⟨rfl, HB8.out.below⟩
    · obtain rfl : k = len := by omega
      have Hok := Lib.hid HR.out.1
      have HB := Lib.hid HR.out.2
      clear HR
      have hst := Lib.hid (HB.out.left (fun O hP => status_calls p O C Hok.out (n + 10) (by omega) (by omega) _ hP))
      have hokA := adv_ok Hok.out (t := n + 10) (by omega) (by omega)
      have HokA := Lib.hid hokA
      have hbits := status_bits (C.adv (n + 10))
      have Hrs := Lib.hid (fun w5 (hB5 : Bn w w5 p r (C.adv (n + 10)) C) => hB5.right (fun Q hR => ref1 (rstatus_calls r Q C Hok.out (n + 10) (by omega) (by omega) _ hR)))
      have Hrd := Lib.hid (fun w5 (hB5 : Bn w w5 p r (C.adv (n + 10)) (C.adv (n + 10))) => hB5.left (fun O hP => readData_calls p O _ HokA.out (n + 10) (by omega) (by omega) _ hP))
      have Hrr := Lib.hid (fun w5 (hB5 : Bn w w5 p r (readS ((C.adv (n + 10)).adv (n + 10))) (C.adv (n + 10))) => hB5.right (fun Q hR => ref1 (rreadData_calls r Q _ HokA.out (n + 10) (by omega) (by omega) _ hR)))
      generalize statusV (C.adv (n + 10)) = sv at *
      clear hokA
      go_wp2_with fail
      refine hst.out.mono ?_
      rintro e w5 ⟨rfl, hB5⟩
      have hr1 := Lib.hid (Hrs.out _ hB5)
      clear hst hB5
      go_wp2_with fail
      refine hr1.out.mono ?_
      rintro e w6 ⟨rfl, hB6⟩
      have hr2 := Lib.hid (Hrd.out _ hB6)
      clear hr1 hB6
      go_wp2_with fail
      refine hr2.out.mono ?_
      rintro e w7 ⟨rfl, hB7⟩
      have hr3 := Lib.hid (Hrr.out _ hB7)
      clear hr2 hB7
      go_wp2_with fail
      refine hr3.out.mono ?_
      rintro e w8 ⟨rfl, hB8⟩
      have HB8 := Lib.hid hB8
      clear hr3 hB8
      generalize readV ((C.adv (n + 10)).adv (n + 10)) = rv at *
      go_wp2_with fail
      go_ret
      exact ⟨rfl, HB8.out.below⟩
end Go.Proofs.Ytbcgcbogcofbjaa.Ec
