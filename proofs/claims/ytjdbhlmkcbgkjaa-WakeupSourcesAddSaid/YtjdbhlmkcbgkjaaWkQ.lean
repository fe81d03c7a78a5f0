import Derived.Test.YtjdbhlmkcbgkjaaWkP
namespace Go.Proofs.Ytjdbhlmkcbgkjaa.Wk
open Go.RowKit Go.Proofs.YtjdbhlmkcbgkjaaW.PrintWords
set_option linter.unusedVariables false
set_option linter.unusedSimpArgs false

/-! ### The step to a time in one formula -/
def dueN (A : St) (t : Int) : Nat → Int
  | 0 => 0
  | k + 1 => dueN A t k + (if A.due t k = true then 1 else 0)
theorem dueN_bd (A : St) (t : Int) : ∀ k : Nat, 0 ≤ dueN A t k ∧ dueN A t k ≤ k
  | 0 => ⟨Int.le_refl _, Int.le_refl _⟩
  | k + 1 => by
    have := dueN_bd A t k
    unfold dueN
    split <;> omega
theorem dueN_zero (A : St) (t : Int) : ∀ k : Nat, (∀ i, i < k → A.due t i = false) → dueN A t k = 0
  | 0, _ => rfl
  | k + 1, h => by
    unfold dueN
    rw [dueN_zero A t k (fun i hi => h i (by omega)), h k (by omega)]
    rfl
theorem dueN_one (A : St) (t : Int) (j : Nat) : ∀ k : Nat, (∀ i, i < k → i ≠ j → A.due t i = false) → dueN A t k = if j < k ∧ A.due t j = true then 1 else 0
  | 0, _ => by rw [if_neg (by omega)]; rfl
  | k + 1, h => by
    unfold dueN
    rw [dueN_one A t j k (fun i hi hn => h i (by omega) hn)]
    by_cases e : k = j
    · subst e
      rw [if_neg (by omega)]
      cases hd : A.due t k <;> simp
    · rw [h k (by omega) e]
      by_cases hj : j < k
      · simp [hj, show j < k + 1 by omega]
      · simp [hj, show ¬ j < k + 1 by omega]
theorem advK_form (A : St) (t : Int) : ∀ k : Nat, advK A t k =
    { A with now := t, on := fun i => if i < k ∧ A.due t i = true then false else A.on i, hold := fun i => if i < k ∧ A.due t i = true then 0 else A.hold i, events := A.events + dueN A t k }
  | 0 => by
    show ({ A with now := t } : St) = _
    simp [dueN]
  | k + 1 => by
    show adv1 (advK A t k) t k = _
    rw [advK_form A t k]
    unfold adv1
    have hd : St.due { A with now := t, on := fun i => if i < k ∧ A.due t i = true then false else A.on i, hold := fun i => if i < k ∧ A.due t i = true then 0 else A.hold i, events := A.events + dueN A t k } t k = A.due t k := by
      unfold St.due
      simp
    rw [hd]
    cases hk : A.due t k with
    | true =>
      rw [if_pos rfl]
      simp only [St.mk.injEq, true_and, and_true]
      refine ⟨?_, ?_, ?_⟩
      · funext i
        unfold upd
        by_cases e : i = k
        · subst e; simp [hk]
        · rw [if_neg e]
          by_cases hi : i < k
          · simp [hi, show i < k + 1 by omega]
          · simp [hi, show ¬ i < k + 1 by omega]
      · funext i
        unfold upd
        by_cases e : i = k
        · subst e; simp [hk]
        · rw [if_neg e]
          by_cases hi : i < k
          · simp [hi, show i < k + 1 by omega]
          · simp [hi, show ¬ i < k + 1 by omega]
      · simp [dueN, hk]; omega
    | false =>
      rw [if_neg (by simp)]
      simp only [St.mk.injEq, true_and, and_true]
      refine ⟨?_, ?_, ?_⟩
      · funext i
        by_cases e : i = k
        · subst e; simp [hk]
        · by_cases hi : i < k
          · simp [hi, show i < k + 1 by omega]
          · simp [hi, show ¬ i < k + 1 by omega]
      · funext i
        by_cases e : i = k
        · subst e; simp [hk]
        · by_cases hi : i < k
          · simp [hi, show i < k + 1 by omega]
          · simp [hi, show ¬ i < k + 1 by omega]
      · simp [dueN, hk]

def St.ring (A : St) (t : Int) : Bool := A.set && decide (A.alarm ≤ t)
theorem adv_form (A : St) (t : Int) : A.adv t =
    { A with now := t, on := fun i => if i < A.n ∧ A.due t i = true then false else A.on i, hold := fun i => if i < A.n ∧ A.due t i = true then 0 else A.hold i, events := A.events + dueN A t A.n + (if A.ring t = true then 1 else 0), set := if A.ring t = true then false else A.set, alarm := if A.ring t = true then 0 else A.alarm } := by
  unfold St.adv advL
  rw [advK_form]
  unfold St.ring
  by_cases hs : A.set = true ∧ A.alarm ≤ t
  · rw [if_pos hs]
    have : (A.set && decide (A.alarm ≤ t)) = true := by simp [hs]
    simp [this, hs]
  · rw [if_neg hs]
    have : (A.set && decide (A.alarm ≤ t)) = false := by
      rw [Bool.and_eq_false_iff]
      by_cases h1 : A.set = true
      · right; simp; exact Int.not_le.1 (fun h => hs ⟨h1, h⟩)
      · left; simpa using h1
    simp [this]
theorem adv_on (A : St) (t : Int) (i : Nat) (hi : i < A.n) : (A.adv t).on i = (A.on i && !A.due t i) := by
  rw [adv_form]
  simp only [hi, true_and]
  cases hd : A.due t i <;> simp
theorem adv_hold (A : St) (t : Int) (i : Nat) (hi : i < A.n) (h : A.due t i = false) : (A.adv t).hold i = A.hold i := by
  rw [adv_form]
  simp [h]
theorem adv_now (A : St) (t : Int) : (A.adv t).now = t := by rw [adv_form]
theorem adv_events (A : St) (t : Int) : (A.adv t).events = A.events + dueN A t A.n + (if A.ring t = true then 1 else 0) := by rw [adv_form]
theorem adv_set (A : St) (t : Int) : (A.adv t).set = (A.set && !A.ring t) := by
  rw [adv_form]
  dsimp only
  cases hr : A.ring t <;> simp
theorem adv_armed (A : St) (t : Int) : (A.adv t).armed = A.armed ∧ (A.adv t).rem = A.rem := by rw [adv_form]; exact ⟨rfl, rfl⟩
theorem due_on {A : St} {t : Int} {i : Nat} (h : A.due t i = true) : A.on i = true := by
  unfold St.due at h
  simp at h
  exact h.1
theorem adv_due (A : St) (t : Int) (i : Nat) (hi : i < A.n) : (A.adv t).due t i = false := by
  cases hd : A.due t i with
  | true =>
    have : (A.adv t).on i = false := by rw [adv_on A t i hi, hd]; simp
    simp [St.due, this]
  | false =>
    have h1 := adv_on A t i hi
    have h2 := adv_hold A t i hi hd
    unfold St.due
    rw [h1, h2, hd]
    simpa [St.due] using hd
theorem adv_ring (A : St) (t : Int) : (A.adv t).ring t = false := by
  unfold St.ring
  rw [adv_set]
  cases hr : A.ring t with
  | true => simp
  | false =>
    simp only [Bool.not_false, Bool.and_true]
    have ha : (A.adv t).alarm = A.alarm := by rw [adv_form]; simp [hr]
    rw [ha]; exact hr
theorem adv_idle (A : St) (t : Int) (h : ∀ i, i < A.n → A.due t i = false) (hr : A.ring t = false) : A.adv t = { A with now := t } := by
  rw [adv_form, dueN_zero A t A.n h]
  simp only [hr, St.mk.injEq, true_and, and_true]
  refine ⟨?_, ?_, ?_, ?_⟩
  · funext i
    by_cases hi : i < A.n
    · simp [h i hi]
    · simp [hi]
  · funext i
    by_cases hi : i < A.n
    · simp [h i hi]
    · simp [hi]
  · simp
  · simp

/-! ### Counts -/
theorem cntK_ext (f g : Nat → Bool) : ∀ k : Nat, (∀ i, i < k → f i = g i) → cntK f k = cntK g k
  | 0, _ => rfl
  | k + 1, h => by
    unfold cntK
    rw [cntK_ext f g k (fun i hi => h i (by omega)), h k (by omega)]
theorem cntK_zero (f : Nat → Bool) : ∀ k : Nat, (∀ i, i < k → f i = false) → cntK f k = 0
  | 0, _ => rfl
  | k + 1, h => by
    unfold cntK
    rw [cntK_zero f k (fun i hi => h i (by omega)), h k (by omega)]
    rfl
theorem cntK_zero_iff (f : Nat → Bool) : ∀ k : Nat, cntK f k = 0 → ∀ i, i < k → f i = false
  | 0, _, i, hi => absurd hi (by omega)
  | k + 1, h, i, hi => by
    unfold cntK at h
    by_cases e : i = k
    · subst e
      cases hf : f i with
      | false => rfl
      | true => rw [hf] at h; simp at h
    · exact cntK_zero_iff f k (by omega) i (by omega)
theorem cntK_one (f : Nat → Bool) (j : Nat) (hj : f j = true) : ∀ k : Nat, (∀ i, i < k → i ≠ j → f i = false) → cntK f k = if j < k then 1 else 0
  | 0, _ => rfl
  | k + 1, h => by
    unfold cntK
    rw [cntK_one f j hj k (fun i hi hn => h i (by omega) hn)]
    by_cases e : k = j
    · subst e; simp [hj]
    · rw [h k (by omega) e]
      by_cases hl : j < k
      · simp [hl, show j < k + 1 by omega]
      · simp [hl, show ¬ j < k + 1 by omega]
theorem cntK_pos (f : Nat → Bool) (j : Nat) (hj : f j = true) (k : Nat) (h : j < k) : 0 < cntK f k := by
  rcases Nat.eq_zero_or_pos (cntK f k) with h0 | h0
  · have := cntK_zero_iff f k h0 j h
    rw [hj] at this; cases this
  · exact h0
end Go.Proofs.Ytjdbhlmkcbgkjaa.Wk
