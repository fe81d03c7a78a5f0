import Derived.Test.YtbcgcbogcofbjaaEcE
import Derived.BigQuiet
namespace Go.Proofs.Ytbcgcbogcofbjaa.Ec
open Go.RowKit Go.Proofs.Ytbcgcbogcofbjaa.G
set_option linter.unusedVariables false
set_option linter.unusedSimpArgs false
attribute [local go_sem ↓] Go.wp_at_zero Go.wp_at_succ

theorem RCq.ok {w : World} {p : Nat} {O : List Nat} {C : Ct} {qv : Value} (h : RCq w p C qv O) : RC w p O C := ⟨qv, h⟩
set_option maxHeartbeats 3200000 in
set_option maxRecDepth 100000 in
theorem radv_calls (p : Nat) (O : List Nat) (C : Ct) (hok : C.Ok) (t : Int) (t0 : 0 ≤ t) (t1 : t < 18446744073709551616) (w : World) (hC : RC w p O C) :
    Calls Try.prog 42 #[.pointer (some ⟨p, 0, none⟩), .int .u64 t] w fun e w' => e = .returned (.tuple #[]) ∧ RC w' p O (C.adv t) ∧ Fr [p] w w' := by
  obtain ⟨qv, h⟩ := hC
  have c1 : w.cell? ⟨p, 1, none⟩ = some (.int .u64 C.now) := h.blk.cell 1 (by omega)
  have y1 := h.blk.frozen 1
  have H := Lib.hid h
  have n0 := hok.n0
  have n1 := hok.n1
  have td0 := hok.t0
  have td1 := hok.t1
  clear h
  go_enter Try.func42, Try.ntmps42
  go_upto_region 1 with (fail)
  have hmx : (if C.now < t then t else C.now) = max C.now t := by split <;> omega
  rw [hmx]
  have hf1 : Fr [p] w (w.setCell ⟨p, 1, none⟩ (.int .u64 (max C.now t))) := (Fr.refl _ _).setCell (Or.inl (by simp)) _
  have hq1 : RCq (w.setCell ⟨p, 1, none⟩ (.int .u64 (max C.now t))) p (nowS C t) qv O := H.out.putq (C' := nowS C t) (H.out.blk.setNow (max C.now t)) hf1 rfl
  have hok1 := now_ok hok t0 t1
  have hadv : C.adv t = if C.busy = true ∧ C.due ≤ max C.now t then effS { nowS C t with busy := false } else nowS C t := rfl
  have Hadv := Lib.hid hadv
  have hm0 : 0 ≤ max C.now t := by omega
  have hm1 : max C.now t < 18446744073709551616 := by omega
  have hcn : (nowS C t).now = max C.now t := rfl
  have Hcn := Lib.hid hcn
  have HF1 := Lib.hid hf1
  clear hmx c1 y1 hadv hcn H hf1
  generalize w.setCell ⟨p, 1, none⟩ (.int .u64 (max C.now t)) = W at *
  generalize max C.now t = m at *
  have c1 : W.cell? ⟨p, 1, none⟩ = some (.int .u64 m) := by rw [← Hcn.out]; exact hq1.blk.cell 1 (by omega)
  have c8 : W.cell? ⟨p, 258, none⟩ = some (.bool C.busy) := hq1.blk.cell 258 (by omega)
  have ca : W.cell? ⟨p, 261, none⟩ = some (.int .u64 C.due) := hq1.blk.cell 261 (by omega)
  have y8 := hq1.blk.frozen 258
  have H1 := Lib.hid hq1
  clear hq1
  by_cases hbz : C.busy = true
  · rw [hbz] at c8
    by_cases hdu : C.due ≤ m
    · have hd : decide (m < C.due) = false := decide_eq_false (by omega)
      have hA : C.adv t = effS { nowS C t with busy := false } := by rw [Hadv.out, if_pos ⟨hbz, hdu⟩]
      have HA := Lib.hid hA
      clear hA hbz
      go_quiet (fail)
      go_upto_region 3 with (fail)
      have hf2 : Fr [p] W ((W.drewN nq).setCell ⟨p, 258, none⟩ (.bool false)) := (Fr.drewN (Fr.refl _ _) _).setCell (Or.inl (by simp)) _
      have hq2 : RCq ((W.drewN nq).setCell ⟨p, 258, none⟩ (.bool false)) p { nowS C t with busy := false } qv O := H1.out.putq (C' := { nowS C t with busy := false }) ((H1.out.blk.keep (S := []) (Fr.drewN (Fr.refl _ _) _) (by simp)).setHi 258 (by omega) (by omega) (.bool false) rfl) hf2 rfl
      have HF2 : Hid (Fr [p] w ((W.drewN nq).setCell ⟨p, 258, none⟩ (.bool false))) := Lib.hid (HF1.out.trans hf2)
      have hok2 := busy_ok hok1 false
      clear hf2 c1 c8 ca y8 H1 HF1 Hcn Hadv hok1 hok
      generalize (W.drewN nq).setCell ⟨p, 258, none⟩ (.bool false) = V at *
      generalize { nowS C t with busy := false } = D at hq2 hok2 HA
      have c1 : V.cell? ⟨p, 260, none⟩ = some (.bool D.command) := hq2.blk.cell 260 (by omega)
      have c2 : V.cell? ⟨p, 259, none⟩ = some (.int .u8 D.v) := hq2.blk.cell 259 (by omega)
      have c7 : V.cell? ⟨p, 265, none⟩ = some (.int .u8 D.cmd) := hq2.blk.cell 265 (by omega)
      have c8 : V.cell? ⟨p, 266, none⟩ = some (.int .i64 (addrV D.arg)) := hq2.blk.cell 266 (by omega)
      have y7 := hq2.blk.frozen 265
      have y8 := hq2.blk.frozen 266
      have H := Lib.hid hq2
      clear hq2
      obtain ⟨v0, v1⟩ := hok2.v
      by_cases hcm : D.command = true
      · have HE : Hid (C.adv t = cmdS D D.v) := Lib.hid (by rw [HA.out]; unfold effS; rw [if_pos hcm])
        have hcc := Lib.hid (rstart_calls p O D hok2 V H.out.ok)
        rw [hcm] at c1
        clear hcm HA
        go_wp2_with fail
        refine hcc.out.mono ?_
        rintro e w2 ⟨rfl, hC2, hf2⟩
        have HC2 := Lib.hid hC2
        have HFF := Lib.hid (HF2.out.trans hf2)
        clear c1 c2 c7 c8 y7 y8 hC2 hf2 hcc
        go_wp2_with fail
        go_end0
        exact ⟨rfl, by rw [HE.out]; exact HC2.out, HFF.out⟩
      · have hcmf : D.command = false := by simpa using hcm
        rw [hcmf] at c1
        clear hcmf
        rcases hok2.cmd with hcd | hcd | hcd
        · have HE : Hid (C.adv t = D) := Lib.hid (by rw [HA.out]; unfold effS; rw [if_neg hcm, if_neg (by omega), if_neg (by omega)])
          have hag : D.arg = none := hok2.argz (by omega)
          rw [hag] at c8
          rw [hcd] at c7
          clear hcm HA hcd hag
          go_wp2_with fail
          go_end0
          exact ⟨rfl, by rw [HE.out]; exact H.out.ok, HF2.out⟩
        · have HE : Hid (C.adv t = { D with full := true, out := D.regs D.v.toNat, cmd := 0 }) := Lib.hid (by rw [HA.out]; unfold effS; rw [if_neg hcm, if_pos hcd])
          rw [hcd] at c7
          clear HA hcd hcm
          obtain ⟨i, hi⟩ := Int.eq_ofNat_of_zero_le v0
          have hi2 : i < 256 := by omega
          have hreg := H.out.blk.reg i hi2
          rw [hi] at c2
          have Hi : Hid (D.v.toNat = i) := Lib.hid (by rw [hi]; rfl)
          clear hi v0 v1
          have hii : (i : Int) < 256 := by omega
          have hi0 : (0 : Int) ≤ (i : Int) := by omega
          obtain ⟨x, hx⟩ : ∃ x, D.regs i = x := ⟨_, rfl⟩
          rw [hx] at hreg
          have Hx := Lib.hid hx
          clear hx
          go_upto_region 6 with (fail)
          go_still_tail 10, (by kernel_rfl)
          change wpList _ _ _ _ _ V.drew
          go_wp2_with fail
          refine (put_calls p O D x _ (H.out.ok.keep (S := []) ((Fr.refl _ _).drew) (by simp) (by simp))).mono ?_
          rintro e w2 ⟨rfl, hC2, hf2⟩
          have hf2 := hf2.undrew
          obtain ⟨qv2, h2⟩ := hC2
          have c7 : w2.cell? ⟨p, 265, none⟩ = some (.int .u8 D.cmd) := h2.blk.cell 265 (by omega)
          have y7 := h2.blk.frozen 265
          have H2 := Lib.hid h2
          clear h2 c1 c2 c8 y8 hreg
          go_wp2_with fail
          go_end0
          have hf3 : Fr [p] w2 (w2.setCell ⟨p, 265, none⟩ (.int .u8 0)) := (Fr.refl _ _).setCell (Or.inl (by simp)) _
          have hC3 := H2.out.put (C' := { D with full := true, out := D.regs D.v.toNat, cmd := 0 }) (by
            have := H2.out.blk.setHi 265 (by omega) (by omega) (.int .u8 0) rfl
            rw [Hi.out, Hx.out]; exact this) hf3 rfl
          exact ⟨rfl, by rw [HE.out]; exact hC3, (HF2.out.trans hf2).trans hf3⟩
        · have HE : Hid (C.adv t = argS D) := Lib.hid (by rw [HA.out]; unfold effS; rw [if_neg hcm, if_neg (by omega), if_pos hcd])
          rw [hcd] at c7
          clear HA hcm
          obtain ⟨ag, hag⟩ : ∃ a, D.arg = a := ⟨_, rfl⟩
          rw [hag] at c8
          have Hcd := Lib.hid hcd
          clear hcd
          cases ag with
          | none =>
            have HE2 : Hid (C.adv t = { D with arg := some D.v }) := Lib.hid (by rw [HE.out]; unfold argS; rw [hag])
            clear HE hag
            go_wp2_with fail
            go_end0
            have hf3 : Fr [p] V (V.setCell ⟨p, 266, none⟩ (.int .i64 D.v)) := (Fr.refl _ _).setCell (Or.inl (by simp)) _
            have hC3 := H.out.put (C' := { D with arg := some D.v }) (H.out.blk.setHi 266 (by omega) (by omega) (.int .i64 D.v) rfl) hf3 rfl
            exact ⟨rfl, by rw [HE2.out]; exact hC3, HF2.out.trans hf3⟩
          | some y =>
            have HE2 : Hid (C.adv t = { D with regs := upd D.regs y.toNat D.v, cmd := 0, arg := none }) := Lib.hid (by rw [HE.out]; unfold argS; rw [hag])
            obtain ⟨y0, y1⟩ := hok2.arg y hag
            obtain ⟨i, rfl⟩ := Int.eq_ofNat_of_zero_le y0
            have hi2 : i < 256 := by omega
            have hreg := H.out.blk.reg i hi2
            have yreg := H.out.blk.frozen (2 + i)
            replace c8 : V.cell? ⟨p, 266, none⟩ = some (.int .i64 (i : Int)) := c8
            clear HE hag
            have hii : (i : Int) < 256 := by omega
            have hi00 : (0 : Int) ≤ (i : Int) := by omega
            have hdl : decide ((i : Int) < 0) = false := decide_eq_false (by omega)
            go_upto_region 11 with (fail)
            go_still_tail 12, (by kernel_rfl)
            change wpList _ _ _ _ _ V.drew
            have hreg' : V.drew.cell? ⟨p, 2 + i, none⟩ = some (.int .u8 (D.regs i)) := hreg
            have yreg' : V.drew.frozen? ⟨p, 2 + i, none⟩ = false := yreg
            have hne : 2 + i ≠ 265 := by omega
            have hne2 : 2 + i ≠ 266 := by omega
            go_wp2_with fail
            go_end0
            have hf3 : Fr [p] V (((V.setCell ⟨p, 2 + i, none⟩ (.int .u8 D.v)).setCell ⟨p, 265, none⟩ (.int .u8 0)).setCell ⟨p, 266, none⟩ (.int .i64 (-1))).drew := ((((Fr.refl _ _).setCell (Or.inl (by simp)) _).setCell (Or.inl (by simp)) _).setCell (Or.inl (by simp)) _).drew
            have hb := (((H.out.blk.setReg i hi2 D.v).setHi 265 (by omega) (by omega) (.int .u8 0) rfl).setHi 266 (by omega) (by omega) (.int .i64 (-1)) rfl).keep (S := []) ((Fr.refl _ _).drew) (by simp)
            have hC3 := H.out.put (C' := { D with regs := upd D.regs i D.v, cmd := 0, arg := none }) hb hf3 rfl
            exact ⟨rfl, by rw [HE2.out]; exact hC3, HF2.out.trans hf3⟩
    · have hd : decide (m < C.due) = true := decide_eq_true (by omega)
      have hA : C.adv t = nowS C t := by rw [Hadv.out, if_neg (fun h => hdu h.2)]
      have HA := Lib.hid hA
      clear hA hbz
      go_quiet (fail)
      go_wp2_with fail
      refine bodyPost_ret (results_none rfl _ _ _) rfl ?_
      refine ⟨rfl, ?_, HF1.out.trans (Fr.drewN (Fr.refl _ _) _)⟩
      rw [HA.out]
      exact H1.out.ok.keep (S := []) (Fr.drewN (Fr.refl _ _) _) (by simp) (by simp)
  · have hbf : C.busy = false := by simpa using hbz
    rw [hbf] at c8
    have hA : C.adv t = nowS C t := by rw [Hadv.out, if_neg (fun h => hbz h.1)]
    have HA := Lib.hid hA
    clear hA hbz hbf
    go_quiet (fail)
    go_wp2_with fail
    refine bodyPost_ret (results_none rfl _ _ _) rfl ?_
    refine ⟨rfl, ?_, HF1.out.trans (Fr.drewN (Fr.refl _ _) _)⟩
    rw [HA.out]
    exact H1.out.ok.keep (S := []) (Fr.drewN (Fr.refl _ _) _) (by simp) (by simp)
end Go.Proofs.Ytbcgcbogcofbjaa.Ec
