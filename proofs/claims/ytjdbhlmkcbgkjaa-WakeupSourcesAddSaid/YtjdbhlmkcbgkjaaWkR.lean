import Derived.Test.YtjdbhlmkcbgkjaaWkQ
namespace Go.Proofs.Ytjdbhlmkcbgkjaa.Wk
open Go.RowKit Go.Proofs.YtjdbhlmkcbgkjaaW.PrintWords
set_option linter.unusedVariables false
set_option linter.unusedSimpArgs false

/-! ### What every call keeps -/
theorem act_ok {B : St} (h : B.Ok) (k : Nat) : (actS B k).Ok := put_ok h k 0 (by omega) (by omega) rfl
theorem deact_ok {B : St} (h : B.Ok) (k : Nat) (he : B.events ≤ 9000000000000000000) : (deactS B k).Ok := by
  unfold deactS
  split
  · refine ⟨h.n, h.now0, h.now1, by show 0 ≤ B.events + 1; have := h.ev0; omega, h.al0, h.al1, h.alz, fun i => ?_, fun i => ?_, fun i => ?_, h.rem0, h.rem1⟩
    · show 0 ≤ upd B.hold k 0 i
      unfold upd; split
      · omega
      · exact h.hd0 i
    · show upd B.hold k 0 i ≤ _
      unfold upd; split
      · omega
      · exact h.hd1 i
    · show upd B.on k false i = false → upd B.hold k 0 i = 0
      unfold upd; split
      · intro _; rfl
      · exact h.hdz i
  · exact h
theorem pul_ok {B : St} (hB : B.Ok) (k : Nat) (t h : Int) (t0 : 0 ≤ t) (t1 : t ≤ 1152921504606846976) (h0 : 0 ≤ h) (h1 : h ≤ 1152921504606846976) : (pulS B k t h).Ok := by
  rcases pulS_cases2 B k t h (hB.hd0 k) with ⟨_, e⟩ | ⟨_, _, e⟩ | ⟨_, _, _, e⟩ | ⟨_, _, _, e⟩
  · exact put_ok hB k _ (by omega) (by omega) e
  · rw [e]; exact hB
  · rw [e]; exact hB
  · exact put_ok hB k _ (by omega) (by omega) e
theorem al_ok {B : St} (h : B.Ok) (a : Int) (a0 : 0 ≤ a) (a1 : a ≤ 1152921504606846976) : (alS B a).Ok :=
  ⟨h.n, h.now0, h.now1, h.ev0, a0, a1, (fun e => by cases e), h.hd0, h.hd1, h.hdz, h.rem0, h.rem1⟩
theorem arm_ok {B : St} (h : B.Ok) (ev : Int) (e0 : -9223372036854775808 ≤ ev) (e1 : ev < 9223372036854775808) : St.Ok { B with armed := true, rem := ev } :=
  ⟨h.n, h.now0, h.now1, h.ev0, h.al0, h.al1, h.alz, h.hd0, h.hd1, h.hdz, e0, e1⟩
theorem disarm_ok {B : St} (h : B.Ok) : B.Disarm.Ok := ⟨h.n, h.now0, h.now1, h.ev0, h.al0, h.al1, h.alz, h.hd0, h.hd1, h.hdz, h.rem0, h.rem1⟩

theorem pul_due (B : St) (k : Nat) (t h : Int) (u : Int) (i : Nat) (hi : i ≠ k) : (pulS B k t h).due u i = B.due u i := by
  unfold pulS
  split
  · split
    · simp [St.due, upd, hi]
    · rfl
  · simp [St.due, upd, hi]
theorem pul_rest (B : St) (k : Nat) (t h : Int) : (pulS B k t h).n = B.n ∧ (pulS B k t h).events = B.events ∧ (pulS B k t h).set = B.set ∧ (pulS B k t h).alarm = B.alarm ∧ (pulS B k t h).now = B.now ∧ (pulS B k t h).armed = B.armed ∧ (pulS B k t h).rem = B.rem := by
  unfold pulS
  split
  · split
    · exact ⟨rfl, rfl, rfl, rfl, rfl, rfl, rfl⟩
    · exact ⟨rfl, rfl, rfl, rfl, rfl, rfl, rfl⟩
  · exact ⟨rfl, rfl, rfl, rfl, rfl, rfl, rfl⟩
theorem pul_ring (B : St) (k : Nat) (t h u : Int) : (pulS B k t h).ring u = B.ring u := by
  obtain ⟨_, _, h3, h4, _⟩ := pul_rest B k t h
  unfold St.ring; rw [h3, h4]
/-- The events of a pulse: those of the step to its time, and one more where the hold is over at once. -/
theorem pul_events (A : St) (k : Nat) (hk : k < A.n) (t h : Int) : ((pulS (A.adv t) k t h).adv t).events = (A.adv t).events + if (pulS (A.adv t) k t h).due t k = true then 1 else 0 := by
  rw [adv_events, pul_ring, adv_ring]
  obtain ⟨hn, he, _⟩ := pul_rest (A.adv t) k t h
  rw [he, hn, dueN_one _ t k _ (fun i hi hne => by rw [pul_due _ _ _ _ _ _ hne, adv_due A t i (by rw [← adv_n A t]; exact hi)])]
  have : k < (A.adv t).n := by rw [adv_n]; exact hk
  simp [this]
theorem al_events (A : St) (t a : Int) : ((alS (A.adv t) a).adv t).events = (A.adv t).events + if a ≤ t then 1 else 0 := by
  rw [adv_events]
  have e : (alS (A.adv t) a).n = (A.adv t).n := rfl
  have hz : dueN (alS (A.adv t) a) t (alS (A.adv t) a).n = 0 := dueN_zero _ _ _ (fun i hi => by
    have := adv_due A t i (by rw [e, adv_n] at hi; exact hi)
    exact this)
  rw [hz]
  show (A.adv t).events + 0 + (if (alS (A.adv t) a).ring t = true then 1 else 0) = _
  have hr : (alS (A.adv t) a).ring t = decide (a ≤ t) := by unfold St.ring alS; simp
  rw [hr]
  by_cases hx : a ≤ t
  · simp [hx]
  · simp [hx]

theorem step_err (A : St) (k : Int) (a : Ar) : (A.step k a).1 = 0 ∨ ((A.step k a).1 = 1 ∨ (A.step k a).1 = 17) ∧ (A.step k a).2 = A := by
  rcases umod9 k with h | h | h | h | h | h | h | h | h
  · rw [step0 h]; unfold St.Activate; split <;> simp
  · rw [step1 h]; unfold St.Activate; split <;> simp
  · rw [step2 h]; unfold St.Deactivate; split <;> simp
  · rw [step3 h]; unfold St.Pulse; split <;> simp
  · rw [step4 h]; unfold St.Pulse; split <;> simp
  · rw [step5 h]; unfold St.SetAlarm; split <;> simp
  · rw [step6 h]; unfold St.Advance; split <;> simp
  · rw [step7 h]; unfold St.Arm; split
    · simp
    · split <;> simp
  · rw [step8 h]; simp

/-- Every call that succeeds, in its form. -/
theorem step_form {A : St} {k : Int} {a : Ar} (hA : A.Ok) (ha : a.Ok) (h : (A.step k a).1 = 0) :
    (umod k 9 = 8 ∧ A.step k a = (0, A.Disarm)) ∨ (A.now ≤ a.now ∧ a.now ≤ 1152921504606846976 ∧ umod k 9 < 8 ∧
      (((umod k 9 = 0 ∨ umod k 9 = 1) ∧ ∃ j : Nat, a.source = j ∧ j < A.n ∧ A.step k a = (0, actS (A.adv a.now) j)) ∨ (umod k 9 = 2 ∧ ∃ j : Nat, a.source = j ∧ j < A.n ∧ A.step k a = (0, deactS (A.adv a.now) j)) ∨
       ((umod k 9 = 3 ∨ umod k 9 = 4) ∧ a.other ≤ 1152921504606846976 ∧ ∃ j : Nat, a.source = j ∧ j < A.n ∧ A.step k a = (0, (pulS (A.adv a.now) j a.now a.other).adv a.now)) ∨
       (umod k 9 = 5 ∧ a.other ≤ 1152921504606846976 ∧ A.step k a = (0, (alS (A.adv a.now) a.other).adv a.now)) ∨ (umod k 9 = 6 ∧ A.step k a = (0, A.adv a.now)) ∨
       (umod k 9 = 7 ∧ (A.adv a.now).events = a.events ∧ (A.adv a.now).cnt = 0 ∧ A.step k a = (0, { A.adv a.now with armed := true, rem := a.events })))) := by
  rcases umod9 k with hk | hk | hk | hk | hk | hk | hk | hk | hk
  · rw [step0 hk] at h ⊢
    unfold St.Activate at h ⊢
    by_cases hb : A.bad a.source a.now = true
    · rw [if_pos hb] at h; cases h
    · rw [if_neg hb]
      obtain ⟨j, hj, hjn, _, h1, h2⟩ := bad_no (by simpa using hb)
      exact Or.inr ⟨h1, h2, by omega, Or.inl ⟨Or.inl hk, j, hj, hjn, by rw [hj]; rfl⟩⟩
  · rw [step1 hk] at h ⊢
    unfold St.Activate at h ⊢
    by_cases hb : A.bad a.source a.now = true
    · rw [if_pos hb] at h; cases h
    · rw [if_neg hb]
      obtain ⟨j, hj, hjn, _, h1, h2⟩ := bad_no (by simpa using hb)
      exact Or.inr ⟨h1, h2, by omega, Or.inl ⟨Or.inr hk, j, hj, hjn, by rw [hj]; rfl⟩⟩
  · rw [step2 hk] at h ⊢
    unfold St.Deactivate at h ⊢
    by_cases hb : A.bad a.source a.now = true
    · rw [if_pos hb] at h; cases h
    · rw [if_neg hb]
      obtain ⟨j, hj, hjn, _, h1, h2⟩ := bad_no (by simpa using hb)
      exact Or.inr ⟨h1, h2, by omega, Or.inr (Or.inl ⟨hk, j, hj, hjn, by rw [hj]; rfl⟩)⟩
  · rw [step3 hk] at h ⊢
    unfold St.Pulse at h ⊢
    by_cases hb : 1152921504606846976 < a.other ∨ A.bad a.source a.now = true
    · rw [if_pos hb] at h; cases h
    · rw [if_neg hb]
      obtain ⟨j, hj, hjn, _, h1, h2⟩ := bad_no (A := A) (k := a.source) (t := a.now) (by
        cases hx : A.bad a.source a.now with
        | false => rfl
        | true => exact absurd (Or.inr hx) hb)
      exact Or.inr ⟨h1, h2, by omega, Or.inr (Or.inr (Or.inl ⟨Or.inl hk, by omega, j, hj, hjn, by rw [hj]; rfl⟩))⟩
  · rw [step4 hk] at h ⊢
    unfold St.Pulse at h ⊢
    by_cases hb : 1152921504606846976 < a.other ∨ A.bad a.source a.now = true
    · rw [if_pos hb] at h; cases h
    · rw [if_neg hb]
      obtain ⟨j, hj, hjn, _, h1, h2⟩ := bad_no (A := A) (k := a.source) (t := a.now) (by
        cases hx : A.bad a.source a.now with
        | false => rfl
        | true => exact absurd (Or.inr hx) hb)
      exact Or.inr ⟨h1, h2, by omega, Or.inr (Or.inr (Or.inl ⟨Or.inr hk, by omega, j, hj, hjn, by rw [hj]; rfl⟩))⟩
  · rw [step5 hk] at h ⊢
    unfold St.SetAlarm at h ⊢
    by_cases hb : 1152921504606846976 < a.other ∨ A.late a.now = true
    · rw [if_pos hb] at h; cases h
    · rw [if_neg hb]
      obtain ⟨h1, h2⟩ := late_no (A := A) (t := a.now) (by
        cases hx : A.late a.now with
        | false => rfl
        | true => exact absurd (Or.inr hx) hb)
      exact Or.inr ⟨h1, h2, by omega, Or.inr (Or.inr (Or.inr (Or.inl ⟨hk, by omega, rfl⟩)))⟩
  · rw [step6 hk] at h ⊢
    unfold St.Advance at h ⊢
    by_cases hb : A.late a.now = true
    · rw [if_pos hb] at h; cases h
    · rw [if_neg hb]
      obtain ⟨h1, h2⟩ := late_no (A := A) (t := a.now) (by simpa using hb)
      exact Or.inr ⟨h1, h2, by omega, Or.inr (Or.inr (Or.inr (Or.inr (Or.inl ⟨hk, rfl⟩))))⟩
  · rw [step7 hk] at h ⊢
    unfold St.Arm at h ⊢
    by_cases hb : A.late a.now = true
    · rw [if_pos hb] at h; cases h
    · rw [if_neg hb] at h ⊢
      obtain ⟨h1, h2⟩ := late_no (A := A) (t := a.now) (by simpa using hb)
      by_cases hc : (A.adv a.now).events ≠ a.events ∨ 0 < (A.adv a.now).cnt
      · rw [if_pos hc] at h; cases h
      · rw [if_neg hc]
        refine Or.inr ⟨h1, h2, by omega, Or.inr (Or.inr (Or.inr (Or.inr (Or.inr ⟨hk, ?_, ?_, rfl⟩))))⟩
        · exact Classical.byContradiction fun hne => hc (Or.inl hne)
        · exact Nat.eq_zero_of_not_pos fun hp => hc (Or.inr hp)
  · exact Or.inl ⟨hk, step8 hk⟩

theorem deact_rest (B : St) (k : Nat) : (deactS B k).n = B.n ∧ (deactS B k).now = B.now ∧ B.events ≤ (deactS B k).events ∧ (deactS B k).events ≤ B.events + 1 ∧ (deactS B k).set = B.set ∧ (deactS B k).alarm = B.alarm ∧ (deactS B k).armed = B.armed ∧ (deactS B k).rem = B.rem := by
  unfold deactS
  split
  · exact ⟨rfl, rfl, by show B.events ≤ B.events + 1; omega, by show B.events + 1 ≤ _; omega, rfl, rfl, rfl, rfl⟩
  · exact ⟨rfl, rfl, by omega, by omega, rfl, rfl, rfl, rfl⟩

structure Kept (A B : St) : Prop where
  ok : B.Ok
  n : B.n = A.n
  ev0 : A.events ≤ B.events
  ev1 : B.events ≤ A.events + A.n + 2
theorem step_kept {A : St} {k : Int} {a : Ar} (hA : A.Ok) (ha : a.Ok) (he : A.events ≤ 1000000000) : Kept A (A.step k a).2 := by
  rcases step_err A k a with h0 | ⟨_, h⟩
  · rcases step_form hA ha h0 with ⟨_, h⟩ | ⟨h1, h2, _, h⟩
    · rw [h]; exact ⟨disarm_ok hA, rfl, Int.le_refl _, by show A.events ≤ _; omega⟩
    · have hB := hA.adv ha.n0 h2
      have hb := adv_bounds A a.now
      have hn := adv_n A a.now
      rcases h with ⟨_, j, _, hj, h⟩ | ⟨_, j, _, hj, h⟩ | ⟨_, ho, j, _, hj, h⟩ | ⟨_, ho, h⟩ | ⟨_, h⟩ | ⟨_, _, _, h⟩
      · rw [h]; exact ⟨act_ok hB j, hn, hb.1, by show (A.adv a.now).events ≤ _; omega⟩
      · rw [h]
        have hd := deact_rest (A.adv a.now) j
        exact ⟨deact_ok hB j (by have := hA.n; omega), hd.1.trans hn, by show _ ≤ (deactS (A.adv a.now) j).events; omega, by show (deactS (A.adv a.now) j).events ≤ _; omega⟩
      · rw [h]
        have hp := pul_events A j hj a.now a.other
        refine ⟨(pul_ok hB j _ _ ha.n0 h2 ha.o0 ho).adv ha.n0 h2, by show ((pulS (A.adv a.now) j a.now a.other).adv a.now).n = _; rw [adv_n, (pul_rest _ _ _ _).1, hn], ?_, ?_⟩
        · show _ ≤ ((pulS (A.adv a.now) j a.now a.other).adv a.now).events
          rw [hp]; split <;> omega
        · show ((pulS (A.adv a.now) j a.now a.other).adv a.now).events ≤ _
          rw [hp]; split <;> omega
      · rw [h]
        have hp := al_events A a.now a.other
        refine ⟨(al_ok hB _ ha.o0 ho).adv ha.n0 h2, by show ((alS (A.adv a.now) a.other).adv a.now).n = _; rw [adv_n]; exact hn, ?_, ?_⟩
        · show _ ≤ ((alS (A.adv a.now) a.other).adv a.now).events
          rw [hp]; split <;> omega
        · show ((alS (A.adv a.now) a.other).adv a.now).events ≤ _
          rw [hp]; split <;> omega
      · rw [h]; exact ⟨hB, hn, hb.1, by show (A.adv a.now).events ≤ _; omega⟩
      · rw [h]; exact ⟨arm_ok hB _ ha.e0 ha.e1, hn, hb.1, by show (A.adv a.now).events ≤ _; omega⟩
  · rw [h]; exact ⟨hA, rfl, Int.le_refl _, by omega⟩
theorem step_now {A : St} {k : Int} {a : Ar} (hA : A.Ok) (ha : a.Ok) : (A.step k a).2.now = if (A.step k a).1 = 0 ∧ umod k 9 < 8 then a.now else A.now := by
  rcases step_err A k a with h0 | ⟨h1, h⟩
  · rcases step_form hA ha h0 with ⟨hk, h⟩ | ⟨h1, h2, hk, h⟩
    · rw [if_neg (by omega), h]; rfl
    · rw [if_pos ⟨h0, hk⟩]
      rcases h with ⟨_, j, _, hj, h⟩ | ⟨_, j, _, hj, h⟩ | ⟨_, ho, j, _, hj, h⟩ | ⟨_, ho, h⟩ | ⟨_, h⟩ | ⟨_, _, _, h⟩
      · rw [h]; exact adv_now A _
      · rw [h]; exact (deact_rest _ _).2.1.trans (adv_now A _)
      · rw [h]; exact adv_now _ _
      · rw [h]; exact adv_now _ _
      · rw [h]; exact adv_now _ _
      · rw [h]; exact adv_now _ _
  · rw [if_neg (by omega), h]
end Go.Proofs.Ytjdbhlmkcbgkjaa.Wk
