import Derived.Test.YtbcgcbogcofbjaaEcBA
import Derived.Deep.LoopGhost
import Derived.Deep.QuietTactic
import Derived.BigQuiet
namespace Go.Proofs.Ytbcgcbogcofbjaa.Ec
open Go.RowKit Go.Proofs.Ytbcgcbogcofbjaa.G
set_option linter.unusedVariables false
set_option linter.unusedSimpArgs false
attribute [local go_sem ↓] Go.wp_at_zero Go.wp_at_succ

/-! ### Step of the reference's transaction -/
structure Iv (T : Tr) (a b : Int) : Prop where
  c1 : T.cmd = 132 → T.ph ≠ 1
  z : T.ph ≠ 5 → T.res = 0 ∧ T.e = 0
  e : T.e = 0 ∨ (T.e = 14 ∧ T.ph = 5 ∧ T.res = 0)
  d : T.dl = after a b
  a0 : 0 ≤ a
  a1 : a < 18446744073709551616
  b0 : 0 ≤ b
  b1 : b < 18446744073709551616
theorem act_e (s : St) (t : Int) : (actS s t).T.e = s.T.e := by
  unfold actS
  split
  · rfl
  · split
    · split <;> rfl
    · split
      · rfl
      · split
        · rfl
        · split
          · rfl
          · split
            · split <;> rfl
            · rfl
theorem act_iv {s : St} {a b : Int} (h : Iv s.T a b) (h5 : s.T.ph ≠ 5) (t : Int) : Iv (actS s t).T a b := by
  have hz := h.z h5
  unfold actS
  split
  · exact h
  · split
    · rename_i h1 h2
      split
      · exact h
      · refine ⟨fun hc => ?_, fun _ => hz, .inl hz.2, h.d, h.a0, h.a1, h.b0, h.b1⟩
        show (if s.T.cmd = 132 then (4 : Int) else 1) ≠ 1
        rw [if_pos hc]; decide
    · split
      · rename_i h1 h2 h3
        refine ⟨fun hc => absurd h3 (h.c1 hc), fun _ => hz, .inl hz.2, h.d, h.a0, h.a1, h.b0, h.b1⟩
      · split
        · exact ⟨fun _ => by show (3 : Int) ≠ 1; decide, fun _ => hz, .inl hz.2, h.d, h.a0, h.a1, h.b0, h.b1⟩
        · split
          · exact ⟨fun _ => by show (5 : Int) ≠ 1; decide, fun _ => hz, .inl hz.2, h.d, h.a0, h.a1, h.b0, h.b1⟩
          · split
            · split
              · exact ⟨fun _ => by show (5 : Int) ≠ 1; decide, fun g => absurd rfl g, .inl hz.2, h.d, h.a0, h.a1, h.b0, h.b1⟩
              · exact h
            · exact h
theorem run_iv {a b t : Int} : ∀ (n : Nat) (s : St), Iv s.T a b → Iv (runS t n s).T a b
  | 0, s, h => h
  | n + 1, s, h => by
    unfold runS
    split
    · exact h
    · rename_i h5
      split
      · exact run_iv n _ (act_iv h h5 t)
      · exact act_iv h h5 t
theorem step_iv {a b t : Int} {s : St} (h : Iv s.T a b) : Iv (stepS s t).T a b := by
  have h1 := run_iv (t := t) 12 s h
  unfold stepS endS
  split
  · rename_i h2
    have hz := h1.z h2.1
    exact ⟨fun _ => by show (5 : Int) ≠ 1; decide, fun g => absurd rfl g, .inr ⟨rfl, rfl, hz.1⟩, h1.d, h1.a0, h1.a1, h1.b0, h1.b1⟩
  · exact h1
def etv (T : Tr) (s n f r : Int) : List Value := [.int .u8 T.cmd, .int .u8 T.addr, .int .u8 T.v, .int .u64 s, .int .u64 n, .int .i64 f, .int .u8 r, .int .i64 14]
/-- The reference's transaction in memory. -/
def XT (w : World) (q : Nat) (T : Tr) (a b : Int) : Prop := (T.e = 0 ∧ XB w q (rtv T a b)) ∨ (T.e = 14 ∧ ∃ f r, XB w q (etv T a b f r))
theorem XT.block {w : World} {q : Nat} {T : Tr} {a b : Int} (h : XT w q T a b) : ∃ c, w.heap[q]? = some (.cells c 77 (0, 0)) := by
  rcases h with ⟨_, c, h1, _⟩ | ⟨_, f, r, c, h1, _⟩
  · exact ⟨c, h1⟩
  · exact ⟨c, h1⟩
theorem XT.keep {S : List Nat} {w w' : World} {q : Nat} {T : Tr} {a b : Int} (h : XT w q T a b) (hf : Fr S w w') (hS : q ∉ S) : XT w' q T a b := by
  rcases h with ⟨h1, h2⟩ | ⟨h1, f, r, h2⟩
  · exact .inl ⟨h1, h2.keep hf hS⟩
  · exact .inr ⟨h1, f, r, h2.keep hf hS⟩
structure RMid (w wr : World) (q p : Nat) (O : List Nat) (t a b : Int) (s s' : St) : Prop where
  P : RX wr q p O s'.C (rtv s'.T a b)
  T : s'.T.Ok
  C : s'.C.Ok
  I : Iv s'.T a b
  e0 : s'.T.e = 0
  F : Fr [q, p] w wr
  R : runS t 12 s = runS t 12 s'
theorem phR_5 : phR 5 = 5 := rfl
theorem phR_ne {x : Int} (h : x ≠ 5) : phR x ≠ 5 := by unfold phR; split <;> (try split) <;> omega
theorem RX.drewN {w : World} {q p : Nat} {O : List Nat} {C : Ct} {cs : List Value} (h : RX w q p O C cs) (n : Nat) : RX (w.drewN n) q p O C cs :=
  h.keep (S := []) (Fr.drewN (Fr.refl _ _) _) (by simp) (by simp) (by simp)

set_option maxHeartbeats 3200000 in
set_option maxRecDepth 100000 in
theorem rstep_calls (q p : Nat) (O : List Nat) (s : St) (a b : Int) (hT : s.T.Ok) (hI : Iv s.T a b) (hok : s.C.Ok) (t : Int) (t0 : 0 ≤ t) (t1 : t < 18446744073709551616) (w : World) (hC : RC w p O s.C) (hX : XT w q s.T a b) :
    Calls Try.prog 36 #[.pointer (some ⟨q, 0, none⟩), .pointer (some ⟨p, 0, none⟩), .int .u64 t] w fun e w' => e = .returned (.tuple #[.int .u8 (resV (stepS s t)), .bool (doneV (stepS s t)), .int .i64 (errV (stepS s t))]) ∧ RC w' p O (stepS s t).C ∧ XT w' q (stepS s t).T a b ∧ Fr [q, p] w w' := by
  rcases hX with ⟨he, hX⟩ | ⟨he, f, r, hX⟩
  · have HM : Hid (RMid w w q p O t a b s s) := Lib.hid ⟨⟨hC, hX⟩, hT, hok, hI, he, Fr.refl _ _, rfl⟩
    have Hst : Hid (stepS s t = endS (runS t 12 s) t) := Lib.hid rfl
    have e7 : w.cell? ⟨q, 7, none⟩ = some (.int .i64 s.T.e) := hX.cell 7
    rw [he] at e7
    generalize stepS s t = S at *
    clear hC hX hT hok hI he
    go_enter Try.func36, Try.ntmps36
    go_wp2_with fail
    go_loopg [] (mu s) (fun k wr => ∃ s' : St, mu s' ≤ k ∧ Hid (RMid w wr q p O t a b s s'))
    case atStart => exact ⟨s, Nat.le_refl _, HM⟩
    case round =>
      obtain ⟨s', hmu, HM'⟩ := hrel
      clear HM e7
      have hP := HM'.out.P
      have d3 : wr.cell? ⟨q, 3, none⟩ = some (.int .u64 a) := hP.t.cell 3
      have d4 : wr.cell? ⟨q, 4, none⟩ = some (.int .u64 b) := hP.t.cell 4
      have d5 : wr.cell? ⟨q, 5, none⟩ = some (.int .i64 (phR s'.T.ph)) := hP.t.cell 5
      have d6 : wr.cell? ⟨q, 6, none⟩ = some (.int .u8 s'.T.res) := hP.t.cell 6
      have HP := Lib.hid hP
      clear hP
      by_cases h5 : s'.T.ph = 5
      · have hr : runS t 12 s = s' := HM'.out.R.trans (runS_5 h5 12)
        have hs : S = s' := by rw [Hst.out, hr]; unfold endS; rw [if_neg (fun h => h.1 h5)]
        have Hs := Lib.hid hs
        have H5 := Lib.hid h5
        rw [h5, phR_5] at d5
        clear h5 hr hs
        go_wp2_with fail
        go_ret3
        refine ⟨?_, ?_, ?_, HM'.out.F⟩
        · rw [Hs.out]; unfold resV doneV errV; rw [if_pos H5.out, if_pos H5.out, decide_eq_true H5.out, HM'.out.e0]; rfl
        · rw [Hs.out]; exact HP.out.c
        · rw [Hs.out]; exact .inl ⟨HM'.out.e0, HP.out.t⟩
      · have hact := ract_calls q p O s' HM'.out.T HM'.out.I.c1 h5 HM'.out.C t t0 t1 a b wr HP.out
        have H5 := Lib.hid h5
        have h5b : (phR s'.T.ph != 5) = true := by have := phR_ne h5; simp [this]
        have h5c : (phR s'.T.ph == 5) = false := by have := phR_ne h5; simp [this]
        obtain ⟨bv, hbv⟩ : ∃ b, actB s' t = b := ⟨_, rfl⟩
        rw [hbv] at hact
        have Hact := Lib.hid hact
        have Hbv := Lib.hid hbv
        clear hact hbv h5 d3 d4 d6
        generalize phR s'.T.ph = fv at *
        cases bv
        · go_wp2_with fail
          refine Hact.out.mono ?_
          rintro e w2 ⟨rfl, hP2, hF2⟩
          have hs : S = endS (actS s' t) t := by rw [Hst.out, HM'.out.R, run_false H5.out Hbv.out]
          have HFF : Hid (Fr [q, p] w w2) := Lib.hid (HM'.out.F.trans hF2)
          have HP2 := Lib.hid hP2
          have HI := Lib.hid (act_iv HM'.out.I H5.out t)
          have He : Hid ((actS s' t).T.e = 0) := Lib.hid ((act_e s' t).trans HM'.out.e0)
          clear hF2 Hact d5 h5b h5c
          generalize actS s' t = r at *
          have d3 : w2.cell? ⟨q, 3, none⟩ = some (.int .u64 a) := hP2.t.cell 3
          have d4 : w2.cell? ⟨q, 4, none⟩ = some (.int .u64 b) := hP2.t.cell 4
          have d5 : w2.cell? ⟨q, 5, none⟩ = some (.int .i64 (phR r.T.ph)) := hP2.t.cell 5
          have d6 : w2.cell? ⟨q, 6, none⟩ = some (.int .u8 r.T.res) := hP2.t.cell 6
          have d7 : w2.cell? ⟨q, 7, none⟩ = some (.int .i64 r.T.e) := hP2.t.cell 7
          have z7 := hP2.t.frozen 7
          clear hP2
          by_cases h5 : r.T.ph = 5
          · have Hs : Hid (S = r) := Lib.hid (by rw [hs]; unfold endS; rw [if_neg (fun h => h.1 h5)])
            have H5 := Lib.hid h5
            rw [h5, phR_5] at d5
            clear h5 hs
            go_wp2_with fail
            go_ret3
            refine ⟨?_, ?_, ?_, HFF.out⟩
            · rw [Hs.out]; unfold resV doneV errV; rw [if_pos H5.out, if_pos H5.out, decide_eq_true H5.out, He.out]; rfl
            · rw [Hs.out]; exact HP2.out.c
            · rw [Hs.out]; exact .inl ⟨He.out, HP2.out.t⟩
          · have h5b : (phR r.T.ph == 5) = false := by have := phR_ne h5; simp [this]
            have a0 := HI.out.a0
            have a1 := HI.out.a1
            have b0 := HI.out.b0
            have b1 := HI.out.b1
            have hdl := HI.out.d
            have hz := HI.out.z h5
            have Hz := Lib.hid hz
            have Hsum := Lib.hid (fun w => (by rw [after_comm]; exact sum_calls a b a0 a1 b0 b1 w : Calls Try.prog 44 #[.int .u64 a, .int .u64 b] w fun e w' => e = .returned (.int .u64 (after a b)) ∧ w' = w))
            obtain ⟨dl, hdle⟩ : ∃ dl, after a b = dl := ⟨_, rfl⟩
            rw [hdle] at hdl Hsum
            clear hz hdle a0 a1 b0 b1
            generalize phR r.T.ph = fv2 at *
            by_cases hd : dl ≤ t
            · have Hs : Hid (S = ⟨{ r.T with ph := 5, e := 14 }, r.C⟩) := Lib.hid (by rw [hs]; unfold endS; rw [if_pos ⟨h5, by rw [hdl]; exact hd⟩])
              have hdb : decide (dl ≤ t) = true := decide_eq_true hd
              have Hd := Lib.hid hdl
              clear hs hdl
              go_wp2_with fail
              go_quiet ((go_at_call 44; exact Calls.quiet_of_same (Hsum.out _)))
              go_wp2_with fail
              go_quiet (fail)
              go_wp2_with fail
              go_ret3
              refine ⟨?_, ?_, ?_, ?_⟩
              · rw [Hs.out]; unfold resV doneV errV; rw [if_pos rfl, if_pos rfl, decide_eq_true rfl]; show _ = Ending.returned (.tuple #[.int .u8 r.T.res, _, _]); rw [Hz.out.1]; rfl
              · rw [Hs.out]; exact (((HP2.out.drewN _).set 7 (.int .i64 14) rfl).drewN _).c
              · rw [Hs.out]; exact .inr ⟨rfl, _, _, (((HP2.out.drewN _).set 7 (.int .i64 14) rfl).drewN _).t⟩
              · exact Fr.drewN (fq2 (HFF.out.drewN _) _ _) _
            · have Hs : Hid (S = r) := Lib.hid (by rw [hs]; unfold endS; rw [if_neg (fun h => hd (by rw [← hdl]; exact h.2))])
              have H5 := Lib.hid h5
              have hdb : decide (dl ≤ t) = false := decide_eq_false hd
              have Hd := Lib.hid hdl
              clear hs hdl
              go_wp2_with fail
              go_quiet ((go_at_call 44; exact Calls.quiet_of_same (Hsum.out _)))
              go_wp2_with fail
              go_ret3
              refine ⟨?_, ?_, ?_, HFF.out.drewN _⟩
              · rw [Hs.out]; unfold resV doneV errV; rw [if_neg H5.out, if_neg H5.out, decide_eq_false H5.out]; rfl
              · rw [Hs.out]; exact (HP2.out.drewN _).c
              · rw [Hs.out]; exact .inl ⟨He.out, (HP2.out.drewN _).t⟩
        · go_wp2_with fail
          refine Hact.out.mono ?_
          rintro e w2 ⟨rfl, hP2, hF2⟩
          have HMn : Hid (RMid w w2 q p O t a b s (actS s' t)) := Lib.hid ⟨hP2, (act_ok HM'.out.T HM'.out.C t0 t1).1, (act_ok HM'.out.T HM'.out.C t0 t1).2, act_iv HM'.out.I H5.out t, (act_e s' t).trans HM'.out.e0, HM'.out.F.trans hF2, HM'.out.R.trans (run_true t0 t1 HM'.out.T HM'.out.C H5.out Hbv.out)⟩
          have hlt := mu_lt HM'.out.T Hbv.out
          clear hP2 hF2 Hact d5 h5b h5c
          go_wp2_with fail
          go_roundg (mu (actS s' t))
          case measure => omega
          case rel => exact ⟨actS s' t, Nat.le_refl _, HMn⟩
  · have e7 : w.cell? ⟨q, 7, none⟩ = some (.int .i64 14) := hX.cell 7
    have hph : s.T.ph = 5 ∧ s.T.res = 0 := by
      rcases hI.e with h | h
      · rw [he] at h; cases h
      · exact h.2
    have hs : stepS s t = s := by
      unfold stepS endS
      rw [runS_5 hph.1, if_neg (fun h => h.1 hph.1)]
    rw [hs]
    have Hf : Hid (resV s = 0 ∧ doneV s = true ∧ errV s = 14) := Lib.hid (by unfold resV doneV errV; rw [if_pos hph.1, if_pos hph.1, hph.2, he, decide_eq_true hph.1]; exact ⟨rfl, rfl, rfl⟩)
    have HC := Lib.hid hC
    have HX : Hid (XT w q s.T a b) := Lib.hid (.inr ⟨he, f, r, hX⟩)
    clear hX hC hs hph hT hI hok he
    rw [Hf.out.1, Hf.out.2.1, Hf.out.2.2]
    go_enter Try.func36, Try.ntmps36
    go_wp2_with fail
    go_quiet (fail)
    go_wp2_with fail
    go_ret3
    exact ⟨rfl, HC.out.keep (S := []) (Fr.drewN (Fr.refl _ _) _) (by simp) (by simp), HX.out.keep (S := []) (Fr.drewN (Fr.refl _ _) _) (by simp), Fr.drewN (Fr.refl _ _) _⟩
end Go.Proofs.Ytbcgcbogcofbjaa.Ec
