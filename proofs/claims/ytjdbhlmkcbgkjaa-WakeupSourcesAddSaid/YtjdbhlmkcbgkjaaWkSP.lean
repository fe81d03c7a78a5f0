import Derived.Test.YtjdbhlmkcbgkjaaWkCG
namespace Go.Proofs.Ytjdbhlmkcbgkjaa.Wk
open Go.RowKit Go.Proofs.YtjdbhlmkcbgkjaaW.PrintWords
set_option linter.unusedVariables false
set_option linter.unusedSimpArgs false

/-! ### One object with k sources beside k objects with one source -/
def sumN (f : Nat → Int) : Nat → Int
  | 0 => 0
  | k + 1 => sumN f k + f k
theorem sumN_ext (f g : Nat → Int) : ∀ k : Nat, (∀ i, i < k → f i = g i) → sumN f k = sumN g k
  | 0, _ => rfl
  | k + 1, h => by
    unfold sumN
    rw [sumN_ext f g k (fun i hi => h i (by omega)), h k (by omega)]
theorem sumN_add (f g : Nat → Int) : ∀ k : Nat, sumN (fun i => f i + g i) k = sumN f k + sumN g k
  | 0 => rfl
  | k + 1 => by
    unfold sumN
    rw [sumN_add f g k]; omega
theorem sumN_upd (f : Nat → Int) (j : Nat) (x : Int) : ∀ k : Nat, sumN (upd f j x) k = sumN f k + if j < k then x - f j else 0
  | 0 => rfl
  | k + 1 => by
    unfold sumN
    rw [sumN_upd f j x k]
    unfold upd
    by_cases e : k = j
    · subst e; simp; omega
    · rw [if_neg e]
      by_cases hj : j < k
      · rw [if_pos hj, if_pos (by omega)]; omega
      · rw [if_neg hj, if_neg (by omega)]; omega
theorem dueN_sum (A : St) (t : Int) : ∀ k : Nat, dueN A t k = sumN (fun s => if A.due t s = true then 1 else 0) k
  | 0 => rfl
  | k + 1 => by
    unfold dueN sumN
    rw [dueN_sum A t k]
theorem cnt_sum (f : Nat → Bool) : ∀ k : Nat, (cntK f k : Int) = sumN (fun s => if f s = true then 1 else 0) k
  | 0 => rfl
  | k + 1 => by
    unfold cntK sumN
    rw [← cnt_sum f k]
    split <;> omega
structure One (A : St) (B : St) (s : Nat) : Prop where
  n : B.n = 1
  on : B.on 0 = A.on s
  hold : B.hold 0 = A.hold s
  now : B.now = A.now
  set : B.set = false
  ok : B.Ok
structure Rel (A : St) (M : Nat → St) (k : Nat) : Prop where
  n : A.n = k
  one : ∀ s, s < k → One A (M s) s
  set : A.set = false
  ev : A.events = sumN (fun s => (M s).events) k
  ok : A.Ok
theorem Rel.cnt {A : St} {M : Nat → St} {k : Nat} (h : Rel A M k) : (A.cnt : Int) = sumN (fun s => ((M s).cnt : Int)) k := by
  unfold St.cnt
  rw [h.n, cnt_sum]
  refine sumN_ext _ _ k (fun i hi => ?_)
  rw [(h.one i hi).n]
  unfold cntK cntK
  rw [(h.one i hi).on]
  split <;> rfl
theorem One.due {A B : St} {s : Nat} (h : One A B s) (t : Int) : B.due t 0 = A.due t s := by unfold St.due; rw [h.on, h.hold]
theorem ring_off {A : St} (h : A.set = false) (t : Int) : A.ring t = false := by simp [St.ring, h]
theorem One.adv {A B : St} {s : Nat} (h : One A B s) (t : Int) (hs : s < A.n) (t0 : 0 ≤ t) (t1 : t ≤ 1152921504606846976) : One (A.adv t) (B.adv t) s := by
  have hd := h.due t
  refine ⟨by rw [adv_n, h.n], ?_, ?_, by rw [adv_now, adv_now], ?_, h.ok.adv t0 t1⟩
  · rw [adv_on B t 0 (by rw [h.n]; omega), adv_on A t s hs, h.on, hd]
  · rw [adv_form B, adv_form A]
    show (if 0 < B.n ∧ B.due t 0 = true then 0 else B.hold 0) = (if s < A.n ∧ A.due t s = true then 0 else A.hold s)
    rw [h.n, hd, h.hold]
    simp [hs]
  · rw [adv_set, h.set]; rfl
theorem Rel.adv {A : St} {M : Nat → St} {k : Nat} (h : Rel A M k) (t : Int) (t0 : 0 ≤ t) (t1 : t ≤ 1152921504606846976) : Rel (A.adv t) (fun s => (M s).adv t) k := by
  refine ⟨by rw [adv_n]; exact h.n, fun s hs => (h.one s hs).adv t (by rw [h.n]; exact hs) t0 t1, by rw [adv_set, h.set]; rfl, ?_, h.ok.adv t0 t1⟩
  rw [adv_events, ring_off h.set, h.n, dueN_sum, h.ev]
  simp only [Bool.false_eq_true, if_false, Int.add_zero]
  rw [← sumN_add]
  refine sumN_ext _ _ k (fun i hi => ?_)
  rw [adv_events, ring_off (h.one i hi).set, (h.one i hi).n]
  unfold dueN dueN
  rw [(h.one i hi).due t]
  simp
theorem adv_adv (A : St) (t : Int) : (A.adv t).adv t = A.adv t := by
  rw [adv_idle (A.adv t) t (fun i hi => adv_due A t i (by rw [adv_n] at hi; exact hi)) (adv_ring A t)]
  have := adv_now A t
  rw [show ({ A.adv t with now := t } : St) = { A.adv t with now := (A.adv t).now } by rw [this]]
/-- A change of one source, on both sides. -/
theorem Rel.change {A A' B' : St} {M : Nat → St} {k j : Nat} (h : Rel A M k) (hj : j < k) (hn : A'.n = A.n) (hw : A'.now = A.now) (hs : A'.set = false) (hok : A'.Ok) (hon : ∀ s, s ≠ j → A'.on s = A.on s) (hho : ∀ s, s ≠ j → A'.hold s = A.hold s) (hB : One A' B' j) (he : A'.events - A.events = B'.events - (M j).events) : Rel A' (upd M j B') k := by
  refine ⟨hn.trans h.n, fun s hs => ?_, hs, ?_, hok⟩
  · unfold upd
    by_cases e : s = j
    · subst e; rw [if_pos rfl]; exact hB
    · rw [if_neg e]
      have g := h.one s hs
      exact ⟨g.n, g.on.trans (hon s e).symm, g.hold.trans (hho s e).symm, g.now.trans hw.symm, g.set, g.ok⟩
  · have h1 : (fun s => (upd M j B' s).events) = upd (fun s => (M s).events) j B'.events := by
      funext s; unfold upd; split <;> rfl
    rw [h1, sumN_upd, if_pos hj]
    have := h.ev
    omega
theorem Rel.act {A : St} {M : Nat → St} {k j : Nat} (h : Rel A M k) (hj : j < k) : Rel (actS A j) (upd M j (actS (M j) 0)) k := by
  have g := h.one j hj
  refine h.change hj rfl rfl h.set (act_ok h.ok j) (fun s hs => by show upd A.on j true s = _; unfold upd; rw [if_neg hs]) (fun s hs => by show upd A.hold j 0 s = _; unfold upd; rw [if_neg hs]) ⟨g.n, ?_, ?_, g.now, g.set, act_ok g.ok 0⟩ (by show A.events - A.events = (M j).events - (M j).events; omega)
  · show upd (M j).on 0 true 0 = upd A.on j true j; unfold upd; rw [if_pos rfl, if_pos rfl]
  · show upd (M j).hold 0 0 0 = upd A.hold j 0 j; unfold upd; rw [if_pos rfl, if_pos rfl]
theorem Rel.deact {A : St} {M : Nat → St} {k j : Nat} (h : Rel A M k) (hj : j < k) (e0 : A.events ≤ 9000000000000000000) (e1 : (M j).events ≤ 9000000000000000000) : Rel (deactS A j) (upd M j (deactS (M j) 0)) k := by
  have g := h.one j hj
  have kA := deact_ok h.ok j e0
  have kB := deact_ok g.ok 0 e1
  cases ho : A.on j with
  | false =>
    have e : deactS A j = A := by unfold deactS; rw [ho]; rfl
    have e' : deactS (M j) 0 = M j := by unfold deactS; rw [g.on, ho]; rfl
    rw [e, e']
    have : upd M j (M j) = M := upd_same M j _ rfl
    rw [this]; exact h
  | true =>
    have e : deactS A j = { A with on := upd A.on j false, hold := upd A.hold j 0, events := A.events + 1 } := by unfold deactS; rw [if_pos ho]
    have e' : deactS (M j) 0 = { M j with on := upd (M j).on 0 false, hold := upd (M j).hold 0 0, events := (M j).events + 1 } := by unfold deactS; rw [if_pos (g.on.trans ho)]
    rw [e] at kA ⊢
    rw [e'] at kB ⊢
    refine h.change hj rfl rfl h.set kA (fun s hs => by show upd A.on j false s = _; unfold upd; rw [if_neg hs]) (fun s hs => by show upd A.hold j 0 s = _; unfold upd; rw [if_neg hs]) ⟨g.n, ?_, ?_, g.now, g.set, kB⟩ (by show A.events + 1 - A.events = (M j).events + 1 - (M j).events; omega)
    · show upd (M j).on 0 false 0 = upd A.on j false j; unfold upd; rw [if_pos rfl, if_pos rfl]
    · show upd (M j).hold 0 0 0 = upd A.hold j 0 j; unfold upd; rw [if_pos rfl, if_pos rfl]
theorem pul_on (B : St) (j : Nat) (t x : Int) : (pulS B j t x).on j = true ∧ ∀ s, s ≠ j → (pulS B j t x).on s = B.on s ∧ (pulS B j t x).hold s = B.hold s := by
  unfold pulS
  by_cases ho : B.on j = true
  · rw [if_pos ho]
    split
    · exact ⟨ho, fun s hs => ⟨rfl, by show upd B.hold j _ s = _; unfold upd; rw [if_neg hs]⟩⟩
    · exact ⟨ho, fun s hs => ⟨rfl, rfl⟩⟩
  · rw [if_neg ho]
    exact ⟨by show upd B.on j true j = true; unfold upd; rw [if_pos rfl], fun s hs => ⟨by show upd B.on j true s = _; unfold upd; rw [if_neg hs], by show upd B.hold j _ s = _; unfold upd; rw [if_neg hs]⟩⟩
theorem pul_hold (B : St) (j : Nat) (t x : Int) : (pulS B j t x).hold j = if B.on j = true then (if 0 < B.hold j then max (B.hold j) (t + x + 1) else B.hold j) else t + x + 1 := by
  unfold pulS
  by_cases ho : B.on j = true
  · rw [if_pos ho, if_pos ho]
    split
    · show upd B.hold j _ j = _; unfold upd; rw [if_pos rfl]
    · rfl
  · rw [if_neg ho, if_neg ho]
    show upd B.hold j _ j = _; unfold upd; rw [if_pos rfl]
theorem Rel.pul {A : St} {M : Nat → St} {k j : Nat} (h : Rel A M k) (hj : j < k) {t x : Int} (t0 : 0 ≤ t) (t1 : t ≤ 1152921504606846976) (x0 : 0 ≤ x) (x1 : x ≤ 1152921504606846976) : Rel (pulS A j t x) (upd M j (pulS (M j) 0 t x)) k := by
  have g := h.one j hj
  obtain ⟨r1, r2, r3, r4, r5, _⟩ := pul_rest A j t x
  obtain ⟨q1, q2, q3, q4, q5, _⟩ := pul_rest (M j) 0 t x
  obtain ⟨p1, p2⟩ := pul_on A j t x
  obtain ⟨p3, _⟩ := pul_on (M j) 0 t x
  refine h.change hj r1 r5 (r3.trans h.set) (pul_ok h.ok j t x t0 t1 x0 x1) (fun s hs => (p2 s hs).1) (fun s hs => (p2 s hs).2) ⟨q1.trans g.n, p3.trans p1.symm, ?_, (q5.trans g.now).trans r5.symm, q3.trans g.set, pul_ok g.ok 0 t x t0 t1 x0 x1⟩ (by rw [r2, q2]; omega)
  rw [pul_hold, pul_hold, g.on, g.hold]

/-- What one call does on both sides. -/
def oneS (B : St) (u : Int) (x : Ar) (s : Nat) : St := if u < 5 ∧ (s : Int) = x.source then ((B.adv x.now).step u { x with source := 0 }).2 else B.adv x.now
theorem upd_eq {α : Type} (f : Nat → α) (j : Nat) (x : α) : (upd f j x) j = x := by unfold upd; rw [if_pos rfl]
theorem Rel.ext {A : St} {M N : Nat → St} {k : Nat} (h : Rel A M k) (he : ∀ s, s < k → N s = M s) : Rel A N k :=
  ⟨h.n, fun s hs => by rw [he s hs]; exact h.one s hs, h.set, h.ev.trans (sumN_ext _ _ k fun i hi => by rw [he i hi]), h.ok⟩
structure StepRel (A : St) (M : Nat → St) (k : Nat) (u : Int) (x : Ar) : Prop where
  a : (A.step u x).1 = 0
  rel : Rel (A.step u x).2 (fun s => oneS (M s) u x s) k
  b : ∀ s, s < k → u < 5 → (s : Int) = x.source → (((M s).adv x.now).step u { x with source := 0 }).1 = 0
  now : (A.step u x).2.now = x.now
theorem oneS_ne {B : St} {u : Int} {x : Ar} {s : Nat} (h : (s : Int) ≠ x.source) : oneS B u x s = B.adv x.now := by
  unfold oneS; rw [if_neg (fun g => h g.2)]
theorem oneS_eq {B : St} {u : Int} {x : Ar} {s : Nat} (h5 : u < 5) (h : (s : Int) = x.source) : oneS B u x s = ((B.adv x.now).step u { x with source := 0 }).2 := by
  unfold oneS; rw [if_pos ⟨h5, h⟩]
theorem umod_small {u : Int} (h0 : 0 ≤ u) (h1 : u < 9) : umod u 9 = u := by unfold umod; omega
theorem step_rel {A : St} {M : Nat → St} {k : Nat} (h : Rel A M k) {u : Int} (hu : u = 0 ∨ u = 1 ∨ u = 2 ∨ u = 3 ∨ u = 4 ∨ u = 6) {x : Ar} {j : Nat} (hxj : x.source = j) (hj : j < k) (hnow : A.now ≤ x.now) (t1 : x.now ≤ 1152921504606846976) (o0 : 0 ≤ x.other) (o1 : x.other ≤ 1152921504606846976) (e0 : A.events ≤ 1000000) (e1 : ∀ s, s < k → (M s).events ≤ 1000000) :
    StepRel A M k u x := by
  have t0 : 0 ≤ x.now := by have := h.ok.now0; omega
  have hA := h.adv x.now t0 t1
  have g := h.one j hj
  have gj := hA.one j hj
  have hbA : A.bad x.source x.now = false := by rw [hxj]; exact bad_same (by rw [h.n]; exact hj) hnow t1
  have hbB : St.bad ((M j).adv x.now) 0 x.now = false := by
    have := bad_same (A := (M j).adv x.now) (j := 0) (by rw [adv_n, g.n]; omega) (t := x.now) (by rw [adv_now]; omega) t1
    exact this
  have hj0 : ∀ s, s < k → (s : Int) ≠ x.source → s ≠ j := fun s hs hne e => hne (by rw [hxj, e])
  have hb1 := adv_bounds A x.now
  have hn := h.ok.n
  have hbj := adv_bounds (M j) x.now
  have hgn := g.n
  have hej := e1 j hj
  rcases hu with rfl | rfl | rfl | rfl | rfl | rfl
  · have sA : A.step 0 x = (0, actS (A.adv x.now) j) := by rw [step0 rfl]; unfold St.Activate; rw [hbA, hxj]; rfl
    have sB : ((M j).adv x.now).step 0 { x with source := 0 } = (0, actS ((M j).adv x.now) 0) := by
      rw [step0 rfl]; unfold St.Activate
      show (if St.bad ((M j).adv x.now) 0 x.now = true then _ else _) = _
      rw [hbB, adv_adv]; rfl
    refine ⟨by rw [sA], ?_, fun s hs _ he => ?_, by rw [sA]; exact adv_now _ _⟩
    · rw [sA]
      refine (hA.act hj).ext fun s hs => ?_
      by_cases e : s = j
      · subst e; rw [oneS_eq (by decide) hxj.symm, sB, upd_eq]
      · rw [oneS_ne (by rw [hxj]; omega)]; unfold upd; rw [if_neg e]
    · obtain rfl : s = j := by omega
      rw [sB]
  · have sA : A.step 1 x = (0, actS (A.adv x.now) j) := by rw [step1 rfl]; unfold St.Activate; rw [hbA, hxj]; rfl
    have sB : ((M j).adv x.now).step 1 { x with source := 0 } = (0, actS ((M j).adv x.now) 0) := by
      rw [step1 rfl]; unfold St.Activate
      show (if St.bad ((M j).adv x.now) 0 x.now = true then _ else _) = _
      rw [hbB, adv_adv]; rfl
    refine ⟨by rw [sA], ?_, fun s hs _ he => ?_, by rw [sA]; exact adv_now _ _⟩
    · rw [sA]
      refine (hA.act hj).ext fun s hs => ?_
      by_cases e : s = j
      · subst e; rw [oneS_eq (by decide) hxj.symm, sB, upd_eq]
      · rw [oneS_ne (by rw [hxj]; omega)]; unfold upd; rw [if_neg e]
    · obtain rfl : s = j := by omega
      rw [sB]
  · have sA : A.step 2 x = (0, deactS (A.adv x.now) j) := by rw [step2 rfl]; unfold St.Deactivate; rw [hbA, hxj]; rfl
    have sB : ((M j).adv x.now).step 2 { x with source := 0 } = (0, deactS ((M j).adv x.now) 0) := by
      rw [step2 rfl]; unfold St.Deactivate
      show (if St.bad ((M j).adv x.now) 0 x.now = true then _ else _) = _
      rw [hbB, adv_adv]; rfl
    refine ⟨by rw [sA], ?_, fun s hs _ he => ?_, by rw [sA]; exact (deact_rest _ _).2.1.trans (adv_now _ _)⟩
    · rw [sA]
      refine (hA.deact hj (by omega) (by show ((M j).adv x.now).events ≤ _; omega)).ext fun s hs => ?_
      by_cases e : s = j
      · subst e; rw [oneS_eq (by decide) hxj.symm, sB, upd_eq]
      · rw [oneS_ne (by rw [hxj]; omega)]; unfold upd; rw [if_neg e]
    · obtain rfl : s = j := by omega
      rw [sB]
  · have sA : A.step 3 x = (0, (pulS (A.adv x.now) j x.now x.other).adv x.now) := by
      rw [step3 rfl]; unfold St.Pulse; rw [if_neg (by rw [hbA]; simp; omega), hxj]; rfl
    have sB : ((M j).adv x.now).step 3 { x with source := 0 } = (0, (pulS ((M j).adv x.now) 0 x.now x.other).adv x.now) := by
      rw [step3 rfl]; unfold St.Pulse
      show (if 1152921504606846976 < x.other ∨ St.bad ((M j).adv x.now) 0 x.now = true then _ else _) = _
      rw [if_neg (by rw [hbB]; simp; omega), adv_adv]; rfl
    refine ⟨by rw [sA], ?_, fun s hs _ he => ?_, by rw [sA]; exact adv_now _ _⟩
    · rw [sA]
      refine ((hA.pul hj t0 t1 o0 o1).adv x.now t0 t1).ext fun s hs => ?_
      by_cases e : s = j
      · subst e; rw [oneS_eq (by decide) hxj.symm, sB, upd_eq]
      · rw [oneS_ne (by rw [hxj]; omega)]
        have : (upd (fun s => (M s).adv x.now) j (pulS ((M j).adv x.now) 0 x.now x.other)) s = (M s).adv x.now := by unfold upd; rw [if_neg e]
        rw [this, adv_adv]
    · obtain rfl : s = j := by omega
      rw [sB]
  · have sA : A.step 4 x = (0, (pulS (A.adv x.now) j x.now x.other).adv x.now) := by
      rw [step4 rfl]; unfold St.Pulse; rw [if_neg (by rw [hbA]; simp; omega), hxj]; rfl
    have sB : ((M j).adv x.now).step 4 { x with source := 0 } = (0, (pulS ((M j).adv x.now) 0 x.now x.other).adv x.now) := by
      rw [step4 rfl]; unfold St.Pulse
      show (if 1152921504606846976 < x.other ∨ St.bad ((M j).adv x.now) 0 x.now = true then _ else _) = _
      rw [if_neg (by rw [hbB]; simp; omega), adv_adv]; rfl
    refine ⟨by rw [sA], ?_, fun s hs _ he => ?_, by rw [sA]; exact adv_now _ _⟩
    · rw [sA]
      refine ((hA.pul hj t0 t1 o0 o1).adv x.now t0 t1).ext fun s hs => ?_
      by_cases e : s = j
      · subst e; rw [oneS_eq (by decide) hxj.symm, sB, upd_eq]
      · rw [oneS_ne (by rw [hxj]; omega)]
        have : (upd (fun s => (M s).adv x.now) j (pulS ((M j).adv x.now) 0 x.now x.other)) s = (M s).adv x.now := by unfold upd; rw [if_neg e]
        rw [this, adv_adv]
    · obtain rfl : s = j := by omega
      rw [sB]
  · have sA : A.step 6 x = (0, A.adv x.now) := by rw [step6 rfl]; unfold St.Advance; rw [late_same hnow t1]; rfl
    refine ⟨by rw [sA], ?_, fun s hs h5 he => absurd h5 (by decide), by rw [sA]; exact adv_now _ _⟩
    rw [sA]
    refine hA.ext fun s hs => ?_
    unfold oneS
    rw [if_neg (fun g => absurd g.1 (by decide))]
end Go.Proofs.Ytjdbhlmkcbgkjaa.Wk
