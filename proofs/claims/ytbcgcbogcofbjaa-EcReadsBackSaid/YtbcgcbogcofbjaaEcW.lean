import Derived.Test.YtbcgcbogcofbjaaEcU
namespace Go.Proofs.Ytbcgcbogcofbjaa.Ec
open Go.RowKit Go.Proofs.Ytbcgcbogcofbjaa.G
set_option linter.unusedVariables false
set_option linter.unusedSimpArgs false
attribute [local go_sem ↓] Go.wp_at_zero Go.wp_at_succ

set_option maxHeartbeats 1600000 in
set_option maxRecDepth 100000 in
theorem readsBack_calls (x : Int) (x0 : 0 ≤ x) (x1 : x < 18446744073709551616) (ad : Int) (a0 : 0 ≤ ad) (a1 : ad < 256) (v : Int) (v0 : 0 ≤ v) (v1 : v < 256) (ot : Int) (o0 : 0 ≤ ot) (o1 : ot < 256) (a : Option Addr) (len cap : Nat) (hmax : len ≤ 9223372036854775807) (L : Nat → Int) (w : World) (hL : BytesAt w a len L) :
    Calls Try.prog 5 #[.int .u64 x, .int .u8 ad, .int .u8 v, .int .u8 ot, .slice a len cap] w fun e w' => e = .returned (.bool true) ∧ Below w.heap.size w w' := by
  have ha := Lib.hid (fun w => awake_calls w)
  have hn := Lib.hid (oNew (x % 8) (by omega) w w (Fr.refl _ _))
  have HL := Lib.hid hL
  have hd0 : 0 ≤ x % 8 := by omega
  have hd8 : x % 8 < 8 := by omega
  obtain ⟨an, rfl⟩ := Int.eq_ofNat_of_zero_le a0
  obtain ⟨on, rfl⟩ := Int.eq_ofNat_of_zero_le o0
  clear hL
  go_enter Try.func5, Try.ntmps5
  go_wp2_with fail
  refine hn.out.mono ?_
  rintro e w1 ⟨rfl, hC1⟩
  generalize w.heap.size = p at hC1 ⊢
  clear hn
  have HC1 := Lib.hid hC1
  clear hC1
  generalize x % 8 = d at *
  go_wp2_with fail
  refine (ha.out w1).mono ?_
  rintro e w2 ⟨rfl, hf⟩
  have hset := Lib.hid (oSet (HC1.out.frame hf) on (by omega) 77)
  clear HC1 ha hf
  go_wp2_with fail
  refine hset.out.mono ?_
  rintro e w3 ⟨rfl, hC3⟩
  have hI3 : Idl d (upd (fun _ => 0) on 77) 0 (setS (Ct.new d) on 77) := ⟨rfl, rfl, rfl, rfl, Int.le_refl _⟩
  have hok3 := set_ok (new_ok hd0 (by omega)) on (x := 77) ⟨by omega, by omega⟩
  generalize setS (Ct.new d) on 77 = C3 at *
  have hwr := oWrite hC3 (an : Int) v 0 1000 (by omega) (by omega) (by omega) (by omega)
  rw [after_sum (show (0 : Int) + 1000 < 18446744073709551615 by omega)] at hwr
  have Hwr := Lib.hid hwr
  have HI3 := Lib.hid hI3
  have Hok3 := Lib.hid hok3
  clear hset hC3 hwr hI3 hok3
  go_wp2_with fail
  refine Hwr.out.mono ?_
  rintro e w4 ⟨q, rfl, hP⟩
  have hfin := Lib.hid (finish_calls w q p _ (new_tr_ok 129 an v (0 + 1000) (by omega) ⟨by omega, by omega⟩ ⟨v0, v1⟩ (by omega) (by omega)) Hok3.out 0 (by omega) (by omega) _ _ (owes_W hd0 hd8 (by omega)) (.inl ⟨rfl, _, HI3.out, rfl⟩) a len cap hmax L HL.out w4 hP)
  clear Hwr hP HI3 Hok3
  go_wp2_with fail
  refine hfin.out.mono ?_
  rintro e w5 ⟨S1, t1, rfl, ht0, ht1, hD1, hT1, hC1, hP1, _⟩
  clear hfin
  have hI5 : Idl d (upd (upd (fun _ => 0) on 77) an v) t1 S1.C := hD1
  have hrd := oRead hP1.oc (an : Int) t1 1000 (by omega) (by omega) (by omega) (by omega)
  rw [after_sum (show t1 + 1000 < 18446744073709551615 by omega)] at hrd
  have Hrd := Lib.hid hrd
  have HI5 := Lib.hid hI5
  have HC5 := Lib.hid hC1
  clear hD1 hI5 hrd hC1 hP1 hT1
  generalize resV S1 = rv1 at *
  generalize S1.C = D1 at *
  go_wp2_with fail
  refine Hrd.out.mono ?_
  rintro e w6 ⟨q2, rfl, hP⟩
  have hfin := Lib.hid (finish_calls w q2 p _ (new_tr_ok 128 an 0 (t1 + 1000) (by omega) ⟨by omega, by omega⟩ byte0 (by omega) (by omega)) HC5.out t1 (by omega) (by omega) _ _ (owes_R hd0 hd8 (by omega)) (.inl ⟨rfl, _, HI5.out, rfl⟩) a len cap hmax L HL.out w6 hP)
  clear Hrd hP HI5 HC5
  go_wp2_with fail
  refine hfin.out.mono ?_
  rintro e w7 ⟨S2, t2, rfl, ht2, ht3, hD2, hT2, hC2, hP2, hdn2⟩
  clear hfin
  have e2 : resV S2 = v := by
    rw [resV_done hdn2, hD2.2]
    exact upd_eq _ an v
  rw [e2]
  have hrd := oRead hP2.oc (on : Int) t2 1000 (by omega) (by omega) (by omega) (by omega)
  rw [after_sum (show t2 + 1000 < 18446744073709551615 by omega)] at hrd
  have Hrd := Lib.hid hrd
  have HI7 := Lib.hid hD2.1
  have HC7 := Lib.hid hC2
  clear hD2 hrd hC2 hP2 hT2 e2 hdn2
  generalize S2.C = D2 at *
  go_wp2_with fail
  refine Hrd.out.mono ?_
  rintro e w8 ⟨q3, rfl, hP⟩
  have hfin := Lib.hid (finish_calls w q3 p _ (new_tr_ok 128 on 0 (t2 + 1000) (by omega) ⟨by omega, by omega⟩ byte0 (by omega) (by omega)) HC7.out t2 (by omega) (by omega) _ _ (owes_R hd0 hd8 (by omega)) (.inl ⟨rfl, _, HI7.out, rfl⟩) none 0 0 (by omega) (fun _ => 0) ⟨0, 0, fun h => by omega, fun i h => by omega⟩ w8 hP)
  clear Hrd hP HI7 HC7
  go_wp2_with fail
  refine hfin.out.mono ?_
  rintro e w9 ⟨S3, t3, rfl, ht4, ht5, hD3, hT3, hC3, hP3, hdn3⟩
  clear hfin
  have e3 : resV S3 = upd (upd (fun _ => 0) on 77) an v on := by rw [resV_done hdn3, hD3.2]; rfl
  have hreg := oReg hP3.oc an (by omega)
  have er : S3.C.regs an = v := by rw [hD3.1.r]; exact upd_eq _ an v
  rw [er] at hreg
  have Hreg := Lib.hid hreg
  rw [e3]
  clear hreg er hD3 hC3 hP3 hT3 e3 hdn3
  by_cases hoa : on = an
  · have e4 : upd (upd (fun _ => (0 : Int)) on 77) an v on = v := by rw [hoa]; exact upd_eq _ _ _
    rw [e4]
    clear e4
    subst hoa
    go_wp2_with fail
    refine Hreg.out.mono ?_
    rintro e wa ⟨rfl, hPa⟩
    have hb := Lib.hid hPa.below
    clear hPa Hreg
    go_wp2_with fail
    go_ret
    exact ⟨rfl, hb.out⟩
  · have e4 : upd (upd (fun _ => (0 : Int)) on 77) an v on = 77 := by rw [upd_ne _ _ hoa]; exact upd_eq _ _ _
    rw [e4]
    clear e4
    have hne : ((on : Int) == (an : Int)) = false := by simp; omega
    go_wp2_with fail
    refine Hreg.out.mono ?_
    rintro e wa ⟨rfl, hPa⟩
    have hb := Lib.hid hPa.below
    clear hPa Hreg
    go_wp2_with fail
    go_ret
    exact ⟨rfl, hb.out⟩
end Go.Proofs.Ytbcgcbogcofbjaa.Ec
