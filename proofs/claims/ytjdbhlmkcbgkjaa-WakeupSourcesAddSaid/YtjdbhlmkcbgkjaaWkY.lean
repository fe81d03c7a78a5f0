import Derived.Test.YtjdbhlmkcbgkjaaWkV
namespace Go.Proofs.Ytjdbhlmkcbgkjaa.Wk
open Go.RowKit Go.Proofs.YtjdbhlmkcbgkjaaW.PrintWords
set_option linter.unusedVariables false
set_option linter.unusedSimpArgs false

/-! ### The methods over both memories -/
section
variable {w0 w : World} {p lb q ob hb : Nat} {A B C : St}
theorem bAdvance (h : Both w0 w p lb q ob hb A B) (hA : A.Ok) (he : A.events ≤ 900000000) {t r : Int} (hE : A.Advance t = (r, C)) (t0 : 0 ≤ t) (t1 : t < 18446744073709551616) :
    Calls Try.prog 30 #[.pointer (some ⟨p, 0, none⟩), .int .u64 t] w fun e w' => e = .returned (.int .i64 r) ∧ Both w0 w' p lb q ob hb C B := by
  refine (advanceM_calls p lb A t t0 t1 w hA (by omega) h.pm).mono ?_
  rintro e w' ⟨rfl, hm, hf⟩
  rw [hE] at hm ⊢
  exact ⟨rfl, h.did (Or.inl rfl) hm hf⟩
theorem bDeactivate (h : Both w0 w p lb q ob hb A B) (hA : A.Ok) (he : A.events ≤ 900000000) {k t r : Int} (hE : A.Deactivate k t = (r, C)) (k0 : -9223372036854775808 ≤ k) (k1 : k < 9223372036854775808) (t0 : 0 ≤ t) (t1 : t < 18446744073709551616) :
    Calls Try.prog 26 #[.pointer (some ⟨p, 0, none⟩), .int .i64 k, .int .u64 t] w fun e w' => e = .returned (.int .i64 r) ∧ Both w0 w' p lb q ob hb C B := by
  refine (deactivate_calls p lb A k t k0 k1 t0 t1 w hA he h.pm).mono ?_
  rintro e w' ⟨rfl, hm, hf⟩
  rw [hE] at hm ⊢
  exact ⟨rfl, h.did (Or.inl rfl) hm hf⟩
theorem bActivate (h : Both w0 w p lb q ob hb A B) (hA : A.Ok) (he : A.events ≤ 900000000) {k t r : Int} (hE : A.Activate k t = (r, C)) (k0 : -9223372036854775808 ≤ k) (k1 : k < 9223372036854775808) (t0 : 0 ≤ t) (t1 : t < 18446744073709551616) :
    Calls Try.prog 22 #[.pointer (some ⟨p, 0, none⟩), .int .i64 k, .int .u64 t] w fun e w' => e = .returned (.int .i64 r) ∧ Both w0 w' p lb q ob hb C B := by
  refine (activate_calls p lb A k t k0 k1 t0 t1 w hA he h.pm).mono ?_
  rintro e w' ⟨rfl, hm, hf⟩
  rw [hE] at hm ⊢
  exact ⟨rfl, h.did (Or.inl rfl) hm hf⟩
theorem bPulse (h : Both w0 w p lb q ob hb A B) (hA : A.Ok) (he : A.events ≤ 900000000) {k t x r : Int} (hE : A.Pulse k t x = (r, C)) (k0 : -9223372036854775808 ≤ k) (k1 : k < 9223372036854775808) (t0 : 0 ≤ t) (t1 : t < 18446744073709551616) (x0 : 0 ≤ x) (x1 : x < 18446744073709551616) :
    Calls Try.prog 23 #[.pointer (some ⟨p, 0, none⟩), .int .i64 k, .int .u64 t, .int .u64 x] w fun e w' => e = .returned (.int .i64 r) ∧ Both w0 w' p lb q ob hb C B := by
  refine (pulse_calls p lb A k t x k0 k1 t0 t1 x0 x1 w hA he h.pm).mono ?_
  rintro e w' ⟨rfl, hm, hf⟩
  rw [hE] at hm ⊢
  exact ⟨rfl, h.did (Or.inl rfl) hm hf⟩
theorem bSetAlarm (h : Both w0 w p lb q ob hb A B) (hA : A.Ok) (he : A.events ≤ 900000000) {t x r : Int} (hE : A.SetAlarm t x = (r, C)) (t0 : 0 ≤ t) (t1 : t < 18446744073709551616) (x0 : 0 ≤ x) (x1 : x < 18446744073709551616) :
    Calls Try.prog 24 #[.pointer (some ⟨p, 0, none⟩), .int .u64 t, .int .u64 x] w fun e w' => e = .returned (.int .i64 r) ∧ Both w0 w' p lb q ob hb C B := by
  refine (setAlarm_calls p lb A t x t0 t1 x0 x1 w hA he h.pm).mono ?_
  rintro e w' ⟨rfl, hm, hf⟩
  rw [hE] at hm ⊢
  exact ⟨rfl, h.did (Or.inl rfl) hm hf⟩
theorem bArm (h : Both w0 w p lb q ob hb A B) (hA : A.Ok) (he : A.events ≤ 900000000) {ev t r : Int} (hE : A.Arm ev t = (r, C)) (e0 : -9223372036854775808 ≤ ev) (e1 : ev < 9223372036854775808) (t0 : 0 ≤ t) (t1 : t < 18446744073709551616) :
    Calls Try.prog 25 #[.pointer (some ⟨p, 0, none⟩), .int .i64 ev, .int .u64 t] w fun e w' => e = .returned (.int .i64 r) ∧ ∃ lb', Both w0 w' p lb' q ob hb C B := by
  refine (arm_calls p lb A ev t e0 e1 t0 t1 w hA he h.pm).mono ?_
  rintro e w' ⟨lb', hl, rfl, hm, hf⟩
  rw [hE] at hm ⊢
  exact ⟨rfl, lb', h.did hl hm (hf.mono (by simp))⟩
theorem bDisarm (h : Both w0 w p lb q ob hb A B) : Calls Try.prog 29 #[.pointer (some ⟨p, 0, none⟩)] w fun e w' => e = .returned (.tuple #[]) ∧ Both w0 w' p lb q ob hb A.Disarm B := by
  refine (disarm_calls p lb A w h.pm).mono ?_
  rintro e w' ⟨rfl, hm, hf⟩
  exact ⟨rfl, h.did (Or.inl rfl) hm hf⟩
theorem bCounts (h : Both w0 w p lb q ob hb A B) (hn : A.n ≤ 32) {ev : Int} {c : Nat} (h1 : A.events = ev) (h2 : A.cnt = c) : Calls Try.prog 17 #[.pointer (some ⟨p, 0, none⟩)] w fun e w' => e = .returned (.tuple #[.int .i64 ev, .int .i64 c]) ∧ Both w0 w' p lb q ob hb A B := by
  refine (counts_calls p lb A w hn h.pm).mono ?_
  rintro e w' ⟨rfl, hf⟩
  rw [h1, h2]
  exact ⟨rfl, h.keep hf⟩
theorem bMust (h : Both w0 w p lb q ob hb A B) (hn : A.n ≤ 32) {b : Bool} (h1 : A.must = b) : Calls Try.prog 19 #[.pointer (some ⟨p, 0, none⟩)] w fun e w' => e = .returned (.bool b) ∧ Both w0 w' p lb q ob hb A B := by
  refine (must_calls p lb A w hn h.pm).mono ?_
  rintro e w' ⟨rfl, hf⟩
  rw [h1]
  exact ⟨rfl, h.keep hf⟩
theorem Both.clock (h : Both w0 w p lb q ob hb A B) : w.cell? ⟨q, 7, none⟩ = some (.int .u64 B.now) := by
  obtain ⟨oc, hc, al, _, _, _, hR⟩ := h.rm.obj
  exact cellB hR 7
theorem Both.drew (h : Both w0 w p lb q ob hb A B) : Both w0 w.drew p lb q ob hb A B := h.keep ((Fr.refl _ _).drew)
end

/-! ### Events and active sources together never go down -/
def St.M (A : St) : Int := A.events + A.cnt
theorem cnt_due (A : St) (t : Int) : ∀ k : Nat, k ≤ A.n → (cntK (A.adv t).on k : Int) + dueN A t k = cntK A.on k
  | 0, _ => rfl
  | k + 1, hk => by
    have ih := cnt_due A t k (by omega)
    unfold cntK dueN
    rw [adv_on A t k (by omega)]
    cases ho : A.on k with
    | false =>
      have hd : A.due t k = false := by
        cases hd : A.due t k with
        | false => rfl
        | true => have := due_on hd; rw [ho] at this; cases this
      simp [hd]; omega
    | true =>
      cases hd : A.due t k
      · simp; omega
      · simp; omega
theorem adv_M (A : St) (t : Int) : (A.adv t).M = A.M + (if A.ring t = true then 1 else 0) := by
  have h := cnt_due A t A.n (Nat.le_refl _)
  unfold St.M St.cnt
  rw [adv_n, adv_events]
  omega
theorem adv_Mle (A : St) (t : Int) : A.M ≤ (A.adv t).M := by rw [adv_M]; split <;> omega
theorem cntK_upd (f : Nat → Bool) (j : Nat) (b : Bool) : ∀ k : Nat, j < k → (cntK (upd f j b) k : Int) = cntK f k - (if f j = true then 1 else 0) + (if b = true then 1 else 0)
  | 0, h => absurd h (by omega)
  | k + 1, h => by
    unfold cntK
    by_cases e : j = k
    · subst e
      rw [cntK_ext (upd f j b) f j (fun i hi => by unfold upd; rw [if_neg (by omega)])]
      have : upd f j b j = b := by unfold upd; rw [if_pos rfl]
      rw [this]
      cases f j <;> cases b <;> simp <;> omega
    · have ih := cntK_upd f j b k (by omega)
      have : upd f j b k = f k := by unfold upd; rw [if_neg (by omega)]
      rw [this]
      omega
theorem act_M (B : St) (j : Nat) (hj : j < B.n) : (actS B j).M = B.M + (if B.on j = true then 0 else 1) := by
  have h := cntK_upd B.on j true B.n hj
  unfold St.M St.cnt
  show B.events + (cntK (upd B.on j true) B.n : Int) = _
  rw [h]
  split <;> simp <;> omega
theorem deact_M (B : St) (j : Nat) (hj : j < B.n) : (deactS B j).M = B.M := by
  unfold deactS
  split
  · rename_i ho
    have h := cntK_upd B.on j false B.n hj
    unfold St.M St.cnt
    show B.events + 1 + (cntK (upd B.on j false) B.n : Int) = _
    rw [h, if_pos ho]
    simp; omega
  · rfl
theorem pul_M (B : St) (j : Nat) (hj : j < B.n) (t x : Int) : (pulS B j t x).M = B.M + (if B.on j = true then 0 else 1) := by
  unfold pulS
  by_cases ho : B.on j = true
  · rw [if_pos ho, if_pos ho]
    split
    · show B.M = _; omega
    · omega
  · rw [if_neg ho, if_neg ho]
    have h := cntK_upd B.on j true B.n hj
    rw [if_neg ho] at h
    unfold St.M St.cnt
    show B.events + (cntK (upd B.on j true) B.n : Int) = _
    rw [h]
    simp; omega
theorem al_M (B : St) (a : Int) : (alS B a).M = B.M := rfl
theorem step_M {A : St} {k : Int} {a : Ar} (hA : A.Ok) (ha : a.Ok) : A.M ≤ (A.step k a).2.M := by
  rcases step_err A k a with h0 | ⟨_, h⟩
  · rcases step_form hA ha h0 with ⟨_, h⟩ | ⟨h1, h2, _, h⟩
    · rw [h]; exact Int.le_refl _
    · have hB := adv_Mle A a.now
      have hn := adv_n A a.now
      rcases h with ⟨_, j, _, hj, h⟩ | ⟨_, j, _, hj, h⟩ | ⟨_, ho, j, _, hj, h⟩ | ⟨_, ho, h⟩ | ⟨_, h⟩ | ⟨_, _, _, h⟩
      · rw [h]; show _ ≤ (actS _ _).M; rw [act_M _ _ (by omega)]; split <;> omega
      · rw [h]; show _ ≤ (deactS _ _).M; rw [deact_M _ _ (by omega)]; omega
      · rw [h]
        have h3 := adv_Mle (pulS (A.adv a.now) j a.now a.other) a.now
        have h4 := pul_M (A.adv a.now) j (by omega) a.now a.other
        show _ ≤ ((pulS (A.adv a.now) j a.now a.other).adv a.now).M
        split at h4 <;> omega
      · rw [h]
        have h3 := adv_Mle (alS (A.adv a.now) a.other) a.now
        have h4 := al_M (A.adv a.now) a.other
        show _ ≤ ((alS (A.adv a.now) a.other).adv a.now).M
        omega
      · rw [h]; exact hB
      · rw [h]; exact hB
  · rw [h]; exact Int.le_refl _
theorem arm_busy {A : St} {ev t : Int} (hE : ev ≤ A.events) (hM : ev < A.M) : A.Arm ev t = if A.late t = true then (1, A) else (17, A) := by
  unfold St.Arm
  split
  · rfl
  · rw [if_pos]
    have h1 := (adv_bounds A t).1
    have h2 := adv_Mle A t
    unfold St.M at h2 hM
    by_cases h : 0 < (A.adv t).cnt
    · exact Or.inr h
    · left; omega
theorem late_now {A : St} (hA : A.Ok) : A.late A.now = false := by
  have := hA.now1
  simp [St.late]; omega
/-- armed and remembered change by Arm and Disarm alone. -/
theorem step_armed {A : St} {k : Int} {a : Ar} (hA : A.Ok) (ha : a.Ok) (hk : umod k 9 ≠ 7) : (A.step k a).2.rem = A.rem ∧ (A.step k a).2.armed = (A.armed && !decide (umod k 9 = 8)) := by
  rcases step_err A k a with h0 | ⟨h1, h⟩
  · rcases step_form hA ha h0 with ⟨h8, h⟩ | ⟨h1, h2, h8, h⟩
    · rw [h]; exact ⟨rfl, by simp [h8, St.Disarm]⟩
    · have e8 : decide (umod k 9 = 8) = false := by simp; omega
      rw [e8]
      simp only [Bool.not_false, Bool.and_true]
      have hb := adv_armed A a.now
      rcases h with ⟨_, j, _, hj, h⟩ | ⟨_, j, _, hj, h⟩ | ⟨_, ho, j, _, hj, h⟩ | ⟨_, ho, h⟩ | ⟨_, h⟩ | ⟨h7, _, _, h⟩
      · rw [h]; exact ⟨hb.2, hb.1⟩
      · rw [h]
        obtain ⟨_, _, _, _, _, _, d1, d2⟩ := deact_rest (A.adv a.now) j
        exact ⟨d2.trans hb.2, d1.trans hb.1⟩
      · rw [h]
        obtain ⟨_, _, _, _, _, d1, d2⟩ := pul_rest (A.adv a.now) j a.now a.other
        have hc := adv_armed (pulS (A.adv a.now) j a.now a.other) a.now
        exact ⟨(hc.2.trans d2).trans hb.2, (hc.1.trans d1).trans hb.1⟩
      · rw [h]
        have hc := adv_armed (alS (A.adv a.now) a.other) a.now
        exact ⟨hc.2.trans hb.2, hc.1.trans hb.1⟩
      · rw [h]; exact ⟨hb.2, hb.1⟩
      · exact absurd h7 hk
  · have e8 : umod k 9 ≠ 8 := fun h8 => by
      rw [step8 h8] at h1
      simp at h1
    rw [h]
    simp [e8]
end Go.Proofs.Ytjdbhlmkcbgkjaa.Wk
