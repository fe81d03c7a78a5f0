import Derived.Test.YtbcgcbogcofbjaaEcJ
import Derived.Deep.LoopGhost
namespace Go.Proofs.Ytbcgcbogcofbjaa.Ec
open Go.RowKit Go.Proofs.Ytbcgcbogcofbjaa.G
set_option linter.unusedVariables false
set_option linter.unusedSimpArgs false
attribute [local go_sem ↓] Go.wp_at_zero Go.wp_at_succ

def runS (t : Int) : Nat → St → St
  | 0, s => s
  | n + 1, s => if s.T.ph = 5 then s else if actB s t = true then runS t n (actS s t) else actS s t
def mu (s : St) : Nat := (5 - s.T.ph.toNat) * 2 + (if s.C.busy = false ∧ s.C.full = false then 0 else 1)
def endS (r : St) (t : Int) : St := if r.T.ph ≠ 5 ∧ r.T.dl ≤ t then ⟨{ r.T with ph := 5, e := 14 }, r.C⟩ else r
def stepS (s : St) (t : Int) : St := endS (runS t 12 s) t
def doneV (s : St) : Bool := decide (s.T.ph = 5)
def resV (s : St) : Int := if s.T.ph = 5 then s.T.res else 0
def errV (s : St) : Int := if s.T.ph = 5 then s.T.e else 0

theorem mu_le (s : St) : mu s ≤ (5 - s.T.ph.toNat) * 2 + 1 := by unfold mu; split <;> omega
theorem le_mu (s : St) : (5 - s.T.ph.toNat) * 2 ≤ mu s := by unfold mu; split <;> omega
theorem mu_lt {s : St} (hT : s.T.Ok) {t : Int} (h : actB s t = true) : mu (actS s t) < mu s := by
  unfold actB at h
  rw [Bool.and_eq_true, decide_eq_true_eq] at h
  obtain ⟨hb, hp⟩ := h
  have hb : (s.C.adv t).busy = false := by simpa using hb
  have hp0 := hT.p0
  unfold actS
  rw [if_neg (by rw [hb]; decide)]
  by_cases h0 : s.T.ph = 0
  · rw [if_pos h0]
    by_cases hf : (s.C.adv t).full = true
    · rw [if_pos hf]
      have hD : ((s.C.adv t).adv t).busy = false := by
        have : (s.C.adv t).adv t = nowS (s.C.adv t) t := by unfold Ct.adv; rw [if_neg (fun h => by have := h.1; unfold Ct.adv at hb; rw [hb] at this; cases this)]
        rw [this]; exact hb
      have hold : ¬ (s.C.busy = false ∧ s.C.full = false) := by
        rintro ⟨h1, h2⟩
        have : s.C.adv t = nowS s.C t := by unfold Ct.adv; rw [if_neg (fun h => by rw [h1] at h; cases h.1)]
        rw [this] at hf
        have hf' : s.C.full = true := hf
        rw [h2] at hf'; cases hf'
      show (5 - s.T.ph.toNat) * 2 + (if ((s.C.adv t).adv t).busy = false ∧ false = false then 0 else 1) < (5 - s.T.ph.toNat) * 2 + (if s.C.busy = false ∧ s.C.full = false then 0 else 1)
      rw [if_pos ⟨hD, rfl⟩, if_neg hold]
      omega
    · rw [if_neg hf]
      refine Nat.lt_of_le_of_lt (mu_le _) (Nat.lt_of_lt_of_le ?_ (le_mu s))
      rw [h0]
      show (5 - (if s.T.cmd = 132 then (4 : Int) else 1).toNat) * 2 + 1 < _
      split <;> decide
  · rw [if_neg h0]
    by_cases h1 : s.T.ph = 1
    · rw [if_pos h1]
      refine Nat.lt_of_le_of_lt (mu_le _) (Nat.lt_of_lt_of_le ?_ (le_mu s))
      rw [h1]
      show (5 - (if s.T.cmd = 128 then (4 : Int) else 2).toNat) * 2 + 1 < _
      split <;> decide
    · have h2 : s.T.ph = 2 := by omega
      rw [if_neg h1, if_pos h2]
      refine Nat.lt_of_le_of_lt (mu_le _) (Nat.lt_of_lt_of_le ?_ (le_mu s))
      rw [h2]
      show (5 - (3 : Int).toNat) * 2 + 1 < _
      decide
theorem runS_5 {t : Int} {s : St} (h : s.T.ph = 5) : ∀ n, runS t n s = s
  | 0 => rfl
  | n + 1 => by unfold runS; rw [if_pos h]
theorem mu_zero {s : St} (hT : s.T.Ok) (h : mu s = 0) : s.T.ph = 5 := by
  have := le_mu s
  have := hT.p5
  have := hT.p0
  omega
theorem runS_stable {t : Int} (t0 : 0 ≤ t) (t1 : t < 18446744073709551616) : ∀ (n m : Nat) (s : St), s.T.Ok → s.C.Ok → mu s ≤ n → mu s ≤ m → runS t n s = runS t m s
  | 0, m, s, hT, hC, h, _ => by
    have h5 := mu_zero hT (by omega)
    rw [runS_5 h5, runS_5 h5]
  | n + 1, 0, s, hT, hC, _, h => by
    have h5 := mu_zero hT (by omega)
    rw [runS_5 h5, runS_5 h5]
  | n + 1, m + 1, s, hT, hC, hn, hm => by
    unfold runS
    by_cases h5 : s.T.ph = 5
    · rw [if_pos h5, if_pos h5]
    · rw [if_neg h5, if_neg h5]
      by_cases hb : actB s t = true
      · rw [if_pos hb, if_pos hb]
        have hlt := mu_lt hT hb
        have hok := act_ok hT hC t0 t1
        exact runS_stable t0 t1 n m _ hok.1 hok.2 (by omega) (by omega)
      · rw [if_neg hb, if_neg hb]
theorem mu_12 (s : St) (hT : s.T.Ok) : mu s ≤ 11 := by
  have := mu_le s
  omega
theorem run_true {t : Int} (t0 : 0 ≤ t) (t1 : t < 18446744073709551616) {s : St} (hT : s.T.Ok) (hC : s.C.Ok) (h5 : s.T.ph ≠ 5) (hb : actB s t = true) : runS t 12 s = runS t 12 (actS s t) := by
  have hok := act_ok hT hC t0 t1
  have hlt := mu_lt hT hb
  have h11 := mu_12 s hT
  rw [runS_stable t0 t1 12 11 (actS s t) hok.1 hok.2 (by omega) (by omega)]
  show (if s.T.ph = 5 then s else if actB s t = true then runS t 11 (actS s t) else actS s t) = _
  rw [if_neg h5, if_pos hb]
theorem run_false {t : Int} {s : St} (h5 : s.T.ph ≠ 5) (hb : actB s t = false) : runS t 12 s = actS s t := by
  show (if s.T.ph = 5 then s else if actB s t = true then runS t 11 (actS s t) else actS s t) = _
  rw [if_neg h5, if_neg (by rw [hb]; decide)]
theorem run_ok {t : Int} (t0 : 0 ≤ t) (t1 : t < 18446744073709551616) : ∀ (n : Nat) (s : St), s.T.Ok → s.C.Ok → (runS t n s).T.Ok ∧ (runS t n s).C.Ok
  | 0, s, hT, hC => ⟨hT, hC⟩
  | n + 1, s, hT, hC => by
    have hok := act_ok hT hC t0 t1
    unfold runS
    split
    · exact ⟨hT, hC⟩
    · split
      · exact run_ok t0 t1 n _ hok.1 hok.2
      · exact hok
theorem step_ok {t : Int} (t0 : 0 ≤ t) (t1 : t < 18446744073709551616) {s : St} (hT : s.T.Ok) (hC : s.C.Ok) : (stepS s t).T.Ok ∧ (stepS s t).C.Ok := by
  have h := run_ok t0 t1 12 s hT hC
  unfold stepS endS
  split
  · exact ⟨⟨by show (0 : Int) ≤ 5; omega, by show (5 : Int) ≤ 5; omega, h.1.cmd, h.1.a, h.1.v, h.1.r, h.1.d0, h.1.d1⟩, h.2⟩
  · exact h

theorem PT.drewN {w : World} {q p : Nat} {O : List Nat} {s : St} (h : PT w q p O s) (n : Nat) : PT (w.drewN n) q p O s :=
  ⟨h.c.keep (S := []) (Fr.drewN (Fr.refl _ _) _) (by simp) (by simp), h.t.keep (S := []) (Fr.drewN (Fr.refl _ _) _) (by simp)⟩
structure Mid (w wr : World) (q p : Nat) (O : List Nat) (t : Int) (s s' : St) : Prop where
  P : ∃ O', PT wr q p O' s' ∧ Sub w O O'
  T : s'.T.Ok
  C : s'.C.Ok
  F : Fr (q :: p :: O) w wr
  R : runS t 12 s = runS t 12 s'

set_option maxHeartbeats 3200000 in
set_option maxRecDepth 100000 in
theorem step_calls (q p : Nat) (O : List Nat) (s : St) (hT : s.T.Ok) (hok : s.C.Ok) (t : Int) (t0 : 0 ≤ t) (t1 : t < 18446744073709551616) (w : World) (h : PT w q p O s) :
    Calls Try.prog 13 #[.pointer (some ⟨q, 0, none⟩), .pointer (some ⟨p, 0, none⟩), .int .u64 t] w fun e w' => e = .returned (.tuple #[.int .u8 (resV (stepS s t)), .bool (doneV (stepS s t)), .int .i64 (errV (stepS s t))]) ∧ (∃ O', PT w' q p O' (stepS s t) ∧ Sub w O O') ∧ Fr (q :: p :: O) w w' := by
  have HM : Hid (Mid w w q p O t s s) := Lib.hid ⟨⟨O, h, Sub.refl _ _⟩, hT, hok, Fr.refl _ _, rfl⟩
  have Hst : Hid (stepS s t = endS (runS t 12 s) t) := Lib.hid rfl
  generalize stepS s t = S at *
  clear h hT hok
  go_enter Try.func13, Try.ntmps13
  go_wp2_with fail
  go_loopg [] (mu s) (fun k wr => ∃ s' : St, mu s' ≤ k ∧ Hid (Mid w wr q p O t s s'))
  case atStart => exact ⟨s, Nat.le_refl _, HM⟩
  case round =>
    obtain ⟨s', hmu, HM'⟩ := hrel
    clear HM
    obtain ⟨O', hP, hS⟩ := HM'.out.P
    have d3 : wr.cell? ⟨q, 3, none⟩ = some (.int .u64 s'.T.dl) := hP.t.cell 3
    have d4 : wr.cell? ⟨q, 4, none⟩ = some (.int .i64 s'.T.ph) := hP.t.cell 4
    have d5 : wr.cell? ⟨q, 5, none⟩ = some (.int .u8 s'.T.res) := hP.t.cell 5
    have d6 : wr.cell? ⟨q, 6, none⟩ = some (.int .i64 s'.T.e) := hP.t.cell 6
    by_cases h5 : s'.T.ph = 5
    · have hr : runS t 12 s = s' := HM'.out.R.trans (runS_5 h5 12)
      have hs : S = s' := by rw [Hst.out, hr]; unfold endS; rw [if_neg (fun h => h.1 h5)]
      have Hs := Lib.hid hs
      have HP := Lib.hid hP
      have HS := Lib.hid hS
      have H5 := Lib.hid h5
      rw [h5] at d4
      clear h5 hr hs hP hS
      go_wp2_with fail
      go_quiet (fail)
      go_wp2_with fail
      go_ret3
      refine ⟨?_, ⟨O', ?_, HS.out⟩, HM'.out.F.trans (Fr.drewN (Fr.refl _ _) _)⟩
      · rw [Hs.out]; unfold resV doneV errV; rw [if_pos H5.out, if_pos H5.out, decide_eq_true H5.out]; rfl
      · rw [Hs.out]; exact HP.out.drewN _
    · have hact := act_calls q p O' s' HM'.out.T HM'.out.C t t0 t1 wr hP
      have HS := Lib.hid hS
      have H5 := Lib.hid h5
      have h5b : (s'.T.ph == 5) = false := by simp [h5]
      obtain ⟨bv, hbv⟩ : ∃ b, actB s' t = b := ⟨_, rfl⟩
      rw [hbv] at hact
      have Hact := Lib.hid hact
      have Hbv := Lib.hid hbv
      clear hact hbv h5 hS hP d3 d5 d6
      cases bv
      · go_wp2_with fail
        refine Hact.out.mono ?_
        rintro e w2 ⟨rfl, ⟨O2, hP2, hS2⟩, hF2⟩
        have hs : S = endS (actS s' t) t := by rw [Hst.out, HM'.out.R, run_false H5.out Hbv.out]
        have HFF : Hid (Fr (q :: p :: O) w w2) := Lib.hid (Fr.step2 HM'.out.F HS.out hF2)
        have HSS : Hid (Sub w O O2) := Lib.hid (Sub.trans HS.out hS2 HM'.out.F.size)
        have HP2 := Lib.hid hP2
        clear hF2 hS2 Hact d4 h5b
        generalize actS s' t = r at *
        have d3 : w2.cell? ⟨q, 3, none⟩ = some (.int .u64 r.T.dl) := hP2.t.cell 3
        have d4 : w2.cell? ⟨q, 4, none⟩ = some (.int .i64 r.T.ph) := hP2.t.cell 4
        have d5 : w2.cell? ⟨q, 5, none⟩ = some (.int .u8 r.T.res) := hP2.t.cell 5
        have d6 : w2.cell? ⟨q, 6, none⟩ = some (.int .i64 r.T.e) := hP2.t.cell 6
        have z4 := hP2.t.frozen 4
        have z6 := hP2.t.frozen 6
        clear hP2
        by_cases h5 : r.T.ph = 5
        · have Hs : Hid (S = r) := Lib.hid (by rw [hs]; unfold endS; rw [if_neg (fun h => h.1 h5)])
          have H5 := Lib.hid h5
          rw [h5] at d4
          clear h5 hs
          go_wp2_with fail
          go_quiet (fail)
          go_wp2_with fail
          go_ret3
          refine ⟨?_, ⟨O2, ?_, HSS.out⟩, HFF.out.trans (Fr.drewN (Fr.refl _ _) _)⟩
          · rw [Hs.out]; unfold resV doneV errV; rw [if_pos H5.out, if_pos H5.out, decide_eq_true H5.out]; rfl
          · rw [Hs.out]; exact HP2.out.drewN _
        · have h5b : (r.T.ph == 5) = false := by simp [h5]
          by_cases hdl : r.T.dl ≤ t
          · have Hs : Hid (S = ⟨{ r.T with ph := 5, e := 14 }, r.C⟩) := Lib.hid (by rw [hs]; unfold endS; rw [if_pos ⟨h5, hdl⟩])
            have hd : decide (r.T.dl ≤ t) = true := decide_eq_true hdl
            have h5c : (r.T.ph != 5) = true := by simp [h5]
            clear hs
            go_wp2_with fail
            go_quiet (fail)
            go_wp2_with fail
            go_ret3
            have hfx : Fr (q :: p :: O) w ((w2.setCell ⟨q, 4, none⟩ (.int .i64 5)).setCell ⟨q, 6, none⟩ (.int .i64 14)) := (HFF.out.setCell (Or.inl (by simp)) _).setCell (Or.inl (by simp)) _
            refine ⟨?_, ⟨O2, ?_, HSS.out⟩, hfx.drewN _⟩
            · rw [Hs.out]; rfl
            · rw [Hs.out]; exact ((HP2.out.set 4 (.int .i64 5) (T' := { r.T with ph := 5 }) rfl).set 6 (.int .i64 14) (T' := { r.T with ph := 5, e := 14 }) rfl).drewN _
          · have Hs : Hid (S = r) := Lib.hid (by rw [hs]; unfold endS; rw [if_neg (fun h => hdl h.2)])
            have H5 := Lib.hid h5
            have hd : decide (r.T.dl ≤ t) = false := decide_eq_false hdl
            have h5c : (r.T.ph != 5) = true := by simp [h5]
            clear hs
            go_wp2_with fail
            go_ret3
            refine ⟨?_, ⟨O2, ?_, HSS.out⟩, HFF.out⟩
            · rw [Hs.out]; unfold resV doneV errV; rw [if_neg H5.out, if_neg H5.out, decide_eq_false H5.out]; rfl
            · rw [Hs.out]; exact HP2.out
      · go_wp2_with fail
        refine Hact.out.mono ?_
        rintro e w2 ⟨rfl, ⟨O2, hP2, hS2⟩, hF2⟩
        have HMn : Hid (Mid w w2 q p O t s (actS s' t)) := Lib.hid ⟨⟨O2, hP2, Sub.trans HS.out hS2 HM'.out.F.size⟩, (act_ok HM'.out.T HM'.out.C t0 t1).1, (act_ok HM'.out.T HM'.out.C t0 t1).2, Fr.step2 HM'.out.F HS.out hF2, HM'.out.R.trans (run_true t0 t1 HM'.out.T HM'.out.C H5.out Hbv.out)⟩
        have hlt := mu_lt HM'.out.T Hbv.out
        clear hP2 hS2 hF2 Hact d4
        go_wp2_with fail
        go_roundg (mu (actS s' t))
        case measure => omega
        case rel => exact ⟨actS s' t, Nat.le_refl _, HMn⟩
end Go.Proofs.Ytbcgcbogcofbjaa.Ec
