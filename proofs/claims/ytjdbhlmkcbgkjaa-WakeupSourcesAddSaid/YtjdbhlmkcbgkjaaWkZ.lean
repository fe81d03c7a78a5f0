import Derived.Test.YtjdbhlmkcbgkjaaWkY
namespace Go.Proofs.Ytjdbhlmkcbgkjaa.Wk
open Go.RowKit Go.Proofs.YtjdbhlmkcbgkjaaW.PrintWords
set_option linter.unusedVariables false
set_option linter.unusedSimpArgs false

/-! ### Calls that are not raw: the clock stays small, an alarm lies near -/
structure Calm (A : St) (c : Int) : Prop where
  now : A.now ≤ c
  al : A.set = true → A.alarm ≤ A.now + 11
theorem adv_al (A : St) (t : Int) (h : (A.adv t).set = true) : A.set = true ∧ (A.adv t).alarm = A.alarm := by
  rw [adv_set] at h
  have hr : A.ring t = false := by cases hr : A.ring t <;> simp_all
  refine ⟨by simp_all, ?_⟩
  rw [adv_form]; simp [hr]
theorem at_noraw (c : Cl) (n now ev : Int) : (c.noraw.at n now ev).now = now + c.wait % 10 ∧ (umod c.kind 9 = 5 → (c.noraw.at n now ev).other = now + c.wait % 10 + c.hold % 12) := by
  unfold Cl.at Cl.noraw
  simp only
  refine ⟨rfl, fun h => ?_⟩
  simp [h]
theorem call_calm {A : St} (hA : A.Ok) {c : Cl} (hc : c.Ok) (n : Int) (n1 : n < 9223372036854775808) (he : A.events ≤ 1000000000) {t : Int} (h : Calm A t) : Calm (A.call c.noraw n).2 (t + 9) := by
  have hX := Cl.at_ok hc.noraw n A.now A.events n1 hA.now0 hA.now1 (by have := hA.ev0; omega) (by omega)
  obtain ⟨hnow, hoth⟩ := at_noraw c n A.now A.events
  unfold St.call
  generalize c.noraw.at n A.now A.events = a at hX hnow hoth
  have hw0 : 0 ≤ c.wait % 10 := by omega
  have hw1 : c.wait % 10 < 10 := by omega
  have hk : c.noraw.kind = c.kind := rfl
  rw [hk]
  have ht := h.now
  rcases step_err A c.kind a with h0 | ⟨_, e⟩
  · rcases step_form hA hX h0 with ⟨_, e⟩ | ⟨h1, h2, _, e⟩
    · rw [e]; exact ⟨by show A.now ≤ _; omega, h.al⟩
    · have hadv : Calm (A.adv a.now) (t + 9) := ⟨by rw [adv_now]; omega, fun hs => by
        obtain ⟨s1, s2⟩ := adv_al A a.now hs
        have := h.al s1
        rw [s2, adv_now]; omega⟩
      rcases e with ⟨_, j, _, hj, e⟩ | ⟨_, j, _, hj, e⟩ | ⟨_, ho, j, _, hj, e⟩ | ⟨h5, ho, e⟩ | ⟨_, e⟩ | ⟨_, _, _, e⟩
      · rw [e]; exact ⟨hadv.now, hadv.al⟩
      · rw [e]
        obtain ⟨_, d2, _, _, d5, d6, _⟩ := deact_rest (A.adv a.now) j
        exact ⟨by show (deactS _ _).now ≤ _; rw [d2]; exact hadv.now, fun hs => by
          show (deactS _ _).alarm ≤ (deactS _ _).now + 11
          rw [d6, d2]; exact hadv.al (d5 ▸ hs)⟩
      · rw [e]
        obtain ⟨_, _, d3, d4, d5, _⟩ := pul_rest (A.adv a.now) j a.now a.other
        refine ⟨by show ((pulS _ _ _ _).adv _).now ≤ _; rw [adv_now]; omega, fun hs => ?_⟩
        obtain ⟨s1, s2⟩ := adv_al _ _ hs
        show ((pulS _ _ _ _).adv _).alarm ≤ ((pulS _ _ _ _).adv _).now + 11
        have := hadv.al (d3 ▸ s1)
        rw [s2, d4, adv_now]
        rw [adv_now] at this
        exact this
      · rw [e]
        refine ⟨by show ((alS _ _).adv _).now ≤ _; rw [adv_now]; omega, fun hs => ?_⟩
        obtain ⟨s1, s2⟩ := adv_al _ _ hs
        show ((alS _ _).adv _).alarm ≤ ((alS _ _).adv _).now + 11
        rw [s2, adv_now]
        show a.other ≤ _
        rw [hoth h5, hnow]; omega
      · rw [e]; exact hadv
      · rw [e]; exact ⟨hadv.now, hadv.al⟩
  · rw [e]; exact ⟨by omega, h.al⟩
theorem start_calm (n : Nat) (hn : n ≤ 32) (L : Nat → Cl) (len : Nat) (hlen : len ≤ 1000) (hL : ∀ i, i < len → (L i).Ok) : ∀ i, i ≤ len → Calm (startS n L i) (i * 9)
  | 0, _ => ⟨by show (0 : Int) ≤ _; omega, fun h => by cases h⟩
  | i + 1, hi => by
    obtain ⟨h1, h2, h3⟩ := start_kept n hn L len hlen hL i (by omega)
    have h := call_calm h1 (hL i (by omega)) n (by omega) (by omega) (start_calm n hn L len hlen hL i (by omega))
    refine ⟨?_, h.al⟩
    have := h.now
    show ((startS n L i).call (L i).noraw n).2.now ≤ _
    omega

/-! ### All sources are ended -/
theorem deact_on (B : St) (j : Nat) : (deactS B j).on j = false ∧ ∀ i, B.on i = false → (deactS B j).on i = false := by
  unfold deactS
  split
  · refine ⟨by simp [upd], fun i hi => ?_⟩
    show upd B.on j false i = false
    unfold upd; split
    · rfl
    · exact hi
  · rename_i h
    exact ⟨by simpa using h, fun i hi => hi⟩
def deactK (A : St) : Nat → St
  | 0 => A
  | s + 1 => deactS ((deactK A s).adv A.now) s
structure Deact (A D : St) (s : Nat) : Prop where
  ok : D.Ok
  n : D.n = A.n
  now : D.now = A.now
  ev0 : A.events ≤ D.events
  ev : D.events ≤ A.events + s * 34
  off : ∀ i, i < s → D.on i = false
  al : D.set = true → A.set = true ∧ D.alarm = A.alarm
theorem deactK_spec {A : St} (hA : A.Ok) (he : A.events ≤ 1000000) : ∀ s : Nat, s ≤ A.n → Deact A (deactK A s) s
  | 0, _ => ⟨hA, rfl, rfl, Int.le_refl _, by show A.events ≤ _; omega, fun i hi => absurd hi (by omega), fun h => ⟨h, rfl⟩⟩
  | s + 1, hs => by
    have ih := deactK_spec hA he s (by omega)
    have hn := hA.n
    have e1 := ih.ev
    have hb := adv_bounds (deactK A s) A.now
    have hd := deact_rest ((deactK A s).adv A.now) s
    have ho := deact_on ((deactK A s).adv A.now) s
    have i0 := ih.ev0
    have in_ := ih.n
    refine ⟨deact_ok (ih.ok.adv hA.now0 hA.now1) s (by omega), (hd.1.trans (adv_n _ _)).trans ih.n, hd.2.1.trans (adv_now _ _), ?_, ?_, fun i hi => ?_, fun h => ?_⟩
    · show _ ≤ (deactS _ _).events; omega
    · show (deactS _ _).events ≤ _; omega
    · show (deactS _ _).on i = false
      by_cases e : i = s
      · subst e; exact ho.1
      · refine ho.2 i ?_
        rw [adv_on _ _ _ (by omega), ih.off i (by omega)]
        rfl
    · have h2 : ((deactK A s).adv A.now).set = true := by rw [← hd.2.2.2.2.1]; exact h
      obtain ⟨s1, s2⟩ := adv_al _ _ h2
      obtain ⟨r1, r2⟩ := ih.al s1
      exact ⟨r1, (hd.2.2.2.2.2.1.trans s2).trans r2⟩
theorem late_same {A : St} {t : Int} (h : A.now ≤ t) (h1 : t ≤ 1152921504606846976) : A.late t = false := by
  simp [St.late]; omega
theorem bad_same {A : St} {j : Nat} (hj : j < A.n) {t : Int} (h : A.now ≤ t) (h1 : t ≤ 1152921504606846976) : A.bad j t = false := by
  simp [St.bad, late_same h h1]; omega
theorem deactK_step {A : St} (hA : A.Ok) (he : A.events ≤ 1000000) (s : Nat) (hs : s < A.n) : (deactK A s).Deactivate s A.now = (0, deactK A (s + 1)) := by
  have ih := deactK_spec hA he s (by omega)
  unfold St.Deactivate
  rw [bad_same (by rw [ih.n]; exact hs) (by rw [ih.now]; exact Int.le_refl _) hA.now1]
  rfl

/-! ### Where all sources are off -/
theorem off_due {A : St} (h : ∀ i, i < A.n → A.on i = false) (t : Int) (i : Nat) (hi : i < A.n) : A.due t i = false := by simp [St.due, h i hi]
theorem off_adv {A : St} (h : ∀ i, i < A.n → A.on i = false) (t : Int) (hr : A.ring t = false) : A.adv t = { A with now := t } := adv_idle A t (off_due h t) hr
theorem off_cnt {A : St} (h : ∀ i, i < A.n → A.on i = false) : A.cnt = 0 := cntK_zero _ _ h
theorem off_of_cnt {A : St} (h : A.cnt = 0) : ∀ i, i < A.n → A.on i = false := cntK_zero_iff _ _ h
theorem one_due {P : St} {j : Nat} (ho : ∀ i, i < P.n → i ≠ j → P.on i = false) (hj : P.on j = true) {u : Int} (hu : P.hold j = u + 1) (u0 : 0 ≤ u) (t : Int) (i : Nat) (hi : i < P.n) : P.due t i = (decide (i = j) && decide (u ≤ t)) := by
  by_cases e : i = j
  · subst e
    unfold St.due
    rw [hj, hu]
    have h1 : decide (0 < u + 1) = true := decide_eq_true (by omega)
    have h2 : u + 1 - 1 = u := by omega
    simp [h1, h2]
  · simp [St.due, ho i hi e, e]

theorem al_ring (B : St) (x t : Int) : (alS B x).ring t = decide (x ≤ t) := by unfold St.ring alS; simp
theorem pulse_chain {A : St} (hA : A.Ok) (he : A.events ≤ 2000000) (hoff : ∀ i, i < A.n → A.on i = false) {t : Int} (hset : A.set = true → A.alarm ≤ t) (hnow : A.now ≤ t) (ht : t ≤ 1000000) {j : Nat} (hj : j < A.n) {h : Int} (h0 : 1 ≤ h) (h1 : h ≤ 50) :
    ∃ (A1 A2 A3 A4 : St) (e : Int), A.Advance t = (0, A1) ∧ A1.Ok ∧ A1.n ≤ 32 ∧ 0 ≤ e ∧ e ≤ 2000100 ∧ A1.events = e ∧ A1.Pulse j t h = (0, A2) ∧ A2.Ok ∧ A2.n ≤ 32 ∧ A2.events = e ∧ A2.cnt = 1 ∧
      A2.Advance (t + h - 1) = (0, A3) ∧ A3.Ok ∧ A3.n ≤ 32 ∧ A3.events = e ∧ A3.cnt = 1 ∧ A3.Advance (t + h) = (0, A4) ∧ A4.n ≤ 32 ∧ A4.events = e + 1 ∧ A4.cnt = 0 := by
  have n0 := hA.now0
  have nn := hA.n
  have k1 : (A.adv t).Ok := hA.adv (by omega) (by omega)
  have hoff1 : ∀ i, i < A.n → (A.adv t).on i = false := fun i hi => by rw [adv_on A t i hi, hoff i hi]; rfl
  have hs1 : (A.adv t).set = false := by
    rw [adv_set]
    cases hs : A.set with
    | false => rfl
    | true =>
      have : A.ring t = true := by simp [St.ring, hs, hset hs]
      rw [this]; rfl
  have hb := adv_bounds A t
  have hn1 := adv_n A t
  have hw1 := adv_now A t
  have e0 := k1.ev0
  have hE1 : A.Advance t = (0, A.adv t) := by unfold St.Advance; rw [late_same hnow (by omega)]; rfl
  generalize A.adv t = A1 at *
  have hP : pulS A1 j t h = { A1 with on := upd A1.on j true, hold := upd A1.hold j (t + h + 1) } := by unfold pulS; rw [hoff1 j hj]; rfl
  have kP : (pulS A1 j t h).Ok := pul_ok k1 j t h (by omega) (by omega) (by omega) (by omega)
  obtain ⟨r1, r2, r3, r4, r5, _⟩ := pul_rest A1 j t h
  have ho2 : ∀ i, i < (pulS A1 j t h).n → i ≠ j → (pulS A1 j t h).on i = false := fun i hi hne => by
    rw [hP]; show upd A1.on j true i = false
    unfold upd; rw [if_neg hne]; exact hoff1 i (by rw [r1, hn1] at hi; exact hi)
  have hj2 : (pulS A1 j t h).on j = true := by rw [hP]; show upd A1.on j true j = true; unfold upd; rw [if_pos rfl]
  have hh2 : (pulS A1 j t h).hold j = (t + h) + 1 := by rw [hP]; show upd A1.hold j _ j = _; unfold upd; rw [if_pos rfl]
  have hAdv1 : A1.adv t = A1 := by
    rw [off_adv (by rw [hn1]; exact hoff1) t (by simp [St.ring, hs1])]
    rw [← hw1]
  have hEP : A1.Pulse j t h = (0, (pulS A1 j t h).adv t) := by
    unfold St.Pulse
    rw [if_neg, hAdv1]
    · rfl
    · rintro (h' | h')
      · omega
      · rw [bad_same (by omega) (by omega) (by omega)] at h'; cases h'
  generalize pulS A1 j t h = P at *
  have hset2 : P.set = false := r3.trans hs1
  have rg : ∀ u, P.ring u = false := fun u => by simp [St.ring, hset2]
  have hd : ∀ u, u < t + h → ∀ i, i < P.n → P.due u i = false := fun u hu i hi => by
    rw [one_due ho2 hj2 hh2 (by omega) u i hi]
    have : decide (t + h ≤ u) = false := decide_eq_false (by omega)
    simp [this]
  have hA2 : P.adv t = { P with now := t } := adv_idle P t (hd t (by omega)) (rg t)
  have cP : P.cnt = 1 := by
    unfold St.cnt
    rw [cntK_one P.on j hj2 P.n ho2, if_pos (by omega)]
  have k2 : (P.adv t).Ok := kP.adv (by omega) (by omega)
  have nP : P.n ≤ 32 := by omega
  have hE3 : (P.adv t).Advance (t + h - 1) = (0, (P.adv t).adv (t + h - 1)) := by
    unfold St.Advance; rw [late_same (by rw [adv_now]; omega) (by omega)]; rfl
  have hA3 : (P.adv t).adv (t + h - 1) = { P with now := t + h - 1 } := by
    rw [hA2]
    exact adv_idle _ _ (fun i hi => by
      have := hd (t + h - 1) (by omega) i hi
      exact this) (rg _)
  have k3 : ((P.adv t).adv (t + h - 1)).Ok := k2.adv (by omega) (by omega)
  have hE4 : ((P.adv t).adv (t + h - 1)).Advance (t + h) = (0, ((P.adv t).adv (t + h - 1)).adv (t + h)) := by
    unfold St.Advance; rw [late_same (by rw [adv_now]; omega) (by omega)]; rfl
  refine ⟨A1, P.adv t, (P.adv t).adv (t + h - 1), ((P.adv t).adv (t + h - 1)).adv (t + h), A1.events, hE1, k1, by omega, e0, by omega, rfl, hEP, k2, by rw [adv_n]; exact nP, by rw [hA2]; exact r2, by rw [hA2]; exact cP, hE3, k3, by rw [adv_n, adv_n]; exact nP, by rw [hA3]; exact r2, by rw [hA3]; exact cP, hE4, by rw [adv_n, adv_n, adv_n]; exact nP, ?_, ?_⟩
  · rw [adv_events, hA3]
    have h1 : dueN { P with now := t + h - 1 } (t + h) P.n = 1 := by
      rw [dueN_one _ _ j P.n (fun i hi hne => by
        have := one_due ho2 hj2 hh2 (by omega) (t + h) i hi
        have e : decide (i = j) = false := decide_eq_false hne
        rw [e] at this
        exact this), if_pos]
      refine ⟨by omega, ?_⟩
      have := one_due ho2 hj2 hh2 (by omega) (t + h) j (by omega)
      have e : decide (t + h ≤ t + h) = true := decide_eq_true (by omega)
      rw [e] at this
      simp at this
      exact this
    have h2 : St.ring { P with now := t + h - 1 } (t + h) = false := rg _
    rw [h2]
    show P.events + dueN _ _ P.n + _ = _
    rw [h1, r2]
    simp
  · refine off_cnt fun i hi => ?_
    rw [adv_n, adv_n, adv_n] at hi
    rw [adv_on _ _ _ (by rw [adv_n, adv_n]; exact hi), hA3]
    show (P.on i && !St.due P (t + h) i) = false
    rw [one_due ho2 hj2 hh2 (by omega) (t + h) i hi]
    have e : decide (t + h ≤ t + h) = true := decide_eq_true (by omega)
    rw [e]
    by_cases hne : i = j
    · simp [hne]
    · rw [ho2 i hi hne]; rfl

theorem alarm_chain {A : St} (hA : A.Ok) (he : A.events ≤ 2000000) (hoff : ∀ i, i < A.n → A.on i = false) {t : Int} (hset : A.set = true → A.alarm ≤ t) (hnow : A.now ≤ t) (ht : t ≤ 1000000) {d : Int} (d0 : 1 ≤ d) (d1 : d ≤ 40) {x : Int} (x0 : t + 1 ≤ x) (x1 : x ≤ t + 80) :
    ∃ (A1 A2 A3 A4 A5 A6 : St) (e : Int), A.Advance t = (0, A1) ∧ A1.Ok ∧ A1.events ≤ 2000100 ∧ A1.SetAlarm t x = (0, A2) ∧ A2.Ok ∧ A2.events ≤ 2000100 ∧ A2.SetAlarm t (t + d) = (0, A3) ∧ A3.Ok ∧ A3.events = e ∧ 0 ≤ e ∧ e ≤ 2000100 ∧
      A3.Advance (t + d - 1) = (0, A4) ∧ A4.Ok ∧ A4.events = e ∧ A4.Advance (t + d) = (0, A5) ∧ A5.Ok ∧ A5.events = e + 1 ∧ A5.Advance (t + 200) = (0, A6) ∧ A6.Ok ∧ A6.events = e + 1 := by
  have n0 := hA.now0
  have nn := hA.n
  have k1 : (A.adv t).Ok := hA.adv (by omega) (by omega)
  have hoff1 : ∀ i, i < A.n → (A.adv t).on i = false := fun i hi => by rw [adv_on A t i hi, hoff i hi]; rfl
  have hs1 : (A.adv t).set = false := by
    rw [adv_set]
    cases hs : A.set with
    | false => rfl
    | true =>
      have : A.ring t = true := by simp [St.ring, hs, hset hs]
      rw [this]; rfl
  have hb := adv_bounds A t
  have hn1 := adv_n A t
  have hw1 := adv_now A t
  have e0 := k1.ev0
  have hE1 : A.Advance t = (0, A.adv t) := by unfold St.Advance; rw [late_same hnow (by omega)]; rfl
  generalize A.adv t = A1 at *
  have key : ∀ (B : St), B.n = A1.n → B.on = A1.on → ∀ u, B.ring u = false → B.adv u = { B with now := u } := fun B hn ho u hr => off_adv (fun i hi => by rw [ho]; exact hoff1 i (by omega)) u hr
  have hAdv1 : A1.adv t = A1 := by
    rw [key A1 rfl rfl t (by simp [St.ring, hs1])]
    rw [← hw1]
  have hA2 : (alS A1 x).adv t = alS A1 x := by
    rw [key (alS A1 x) rfl rfl t ((al_ring _ _ _).trans (decide_eq_false (by omega)))]
    show { alS A1 x with now := t } = _
    rw [← hw1]; rfl
  have hE2 : A1.SetAlarm t x = (0, alS A1 x) := by
    unfold St.SetAlarm
    rw [if_neg, hAdv1, hA2]
    rintro (h' | h')
    · omega
    · rw [late_same (by omega) (by omega)] at h'; cases h'
  have k2 : (alS A1 x).Ok := al_ok k1 x (by omega) (by omega)
  have w2 : (alS A1 x).now = t := hw1
  have hA3 : (alS (alS A1 x) (t + d)).adv t = alS (alS A1 x) (t + d) := by
    rw [key (alS (alS A1 x) (t + d)) rfl rfl t ((al_ring _ _ _).trans (decide_eq_false (by omega)))]
    show { alS (alS A1 x) (t + d) with now := t } = _
    rw [← hw1]; rfl
  have hE3 : (alS A1 x).SetAlarm t (t + d) = (0, alS (alS A1 x) (t + d)) := by
    unfold St.SetAlarm
    rw [if_neg, hA2, hA3]
    rintro (h' | h')
    · omega
    · rw [late_same (by omega) (by omega)] at h'; cases h'
  have k3 : (alS (alS A1 x) (t + d)).Ok := al_ok k2 _ (by omega) (by omega)
  have w3 : (alS (alS A1 x) (t + d)).now = t := hw1
  have n3 : (alS (alS A1 x) (t + d)).n = A1.n := rfl
  have o3 : (alS (alS A1 x) (t + d)).on = A1.on := rfl
  have v3 : (alS (alS A1 x) (t + d)).events = A1.events := rfl
  have s3 : (alS (alS A1 x) (t + d)).set = true := rfl
  have a3 : (alS (alS A1 x) (t + d)).alarm = t + d := rfl
  generalize alS (alS A1 x) (t + d) = A3 at *
  have hE4 : A3.Advance (t + d - 1) = (0, A3.adv (t + d - 1)) := by unfold St.Advance; rw [late_same (by omega) (by omega)]; rfl
  have hA4 : A3.adv (t + d - 1) = { A3 with now := t + d - 1 } := key A3 n3 o3 _ (by simp [St.ring, a3]; omega)
  have k4 : (A3.adv (t + d - 1)).Ok := k3.adv (by omega) (by omega)
  have w4 : (A3.adv (t + d - 1)).now = t + d - 1 := adv_now _ _
  have n4 : (A3.adv (t + d - 1)).n = A1.n := by rw [adv_n]; exact n3
  have o4 : (A3.adv (t + d - 1)).on = A1.on := by rw [hA4]; exact o3
  have v4 : (A3.adv (t + d - 1)).events = A1.events := by rw [hA4]; exact v3
  have s4 : (A3.adv (t + d - 1)).set = true := by rw [hA4]; exact s3
  have a4 : (A3.adv (t + d - 1)).alarm = t + d := by rw [hA4]; exact a3
  generalize A3.adv (t + d - 1) = A4 at *
  have hoff4 : ∀ i, i < A4.n → A4.on i = false := fun i hi => by rw [o4]; exact hoff1 i (by omega)
  have hE5 : A4.Advance (t + d) = (0, A4.adv (t + d)) := by unfold St.Advance; rw [late_same (by omega) (by omega)]; rfl
  have r4 : A4.ring (t + d) = true := by simp [St.ring, s4, a4]
  have v5 : (A4.adv (t + d)).events = A1.events + 1 := by
    rw [adv_events, dueN_zero _ _ _ (off_due hoff4 _), r4, v4]; simp
  have k5 : (A4.adv (t + d)).Ok := k4.adv (by omega) (by omega)
  have s5 : (A4.adv (t + d)).set = false := by rw [adv_set, r4]; simp
  have w5 : (A4.adv (t + d)).now = t + d := adv_now _ _
  have hoff5 : ∀ i, i < (A4.adv (t + d)).n → (A4.adv (t + d)).on i = false := fun i hi => by
    rw [adv_n] at hi
    rw [adv_on _ _ _ hi, hoff4 i hi]; rfl
  generalize A4.adv (t + d) = A5 at *
  have hE6 : A5.Advance (t + 200) = (0, A5.adv (t + 200)) := by unfold St.Advance; rw [late_same (by omega) (by omega)]; rfl
  have v6 : (A5.adv (t + 200)).events = A1.events + 1 := by
    rw [off_adv hoff5 _ (by simp [St.ring, s5])]; exact v5
  exact ⟨A1, alS A1 x, A3, A4, A5, A5.adv (t + 200), A1.events, hE1, k1, by omega, hE2, k2, by show A1.events ≤ _; omega, hE3, k3, v3, e0, by omega, hE4, k4, v4, hE5, k5, v5, hE6, k5.adv (by omega) (by omega), v6⟩
end Go.Proofs.Ytjdbhlmkcbgkjaa.Wk
