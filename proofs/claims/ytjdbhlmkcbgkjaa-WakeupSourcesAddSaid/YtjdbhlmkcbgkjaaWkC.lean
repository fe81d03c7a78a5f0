import Derived.Test.YtjdbhlmkcbgkjaaWkB
namespace Go.Proofs.Ytjdbhlmkcbgkjaa.Wk
open Go.RowKit Go.Proofs.YtjdbhlmkcbgkjaaW.PrintWords
set_option linter.unusedVariables false
set_option linter.unusedSimpArgs false

/-! ### What the calls do, plainly -/
def St.bad (A : St) (k t : Int) : Bool := decide (k < 0) || (decide ((A.n : Int) ≤ k) || A.late t)
def actS (B : St) (k : Nat) : St := { B with on := upd B.on k true, hold := upd B.hold k 0 }
def St.Activate (A : St) (k t : Int) : Int × St := if A.bad k t = true then (1, A) else (0, actS (A.adv t) k.toNat)
def deactS (B : St) (k : Nat) : St := if B.on k = true then { B with on := upd B.on k false, hold := upd B.hold k 0, events := B.events + 1 } else B
def St.Deactivate (A : St) (k t : Int) : Int × St := if A.bad k t = true then (1, A) else (0, deactS (A.adv t) k.toNat)
def pulS (B : St) (k : Nat) (t h : Int) : St :=
  if B.on k = true then (if 0 < B.hold k then { B with hold := upd B.hold k (max (B.hold k) (t + h + 1)) } else B) else { B with on := upd B.on k true, hold := upd B.hold k (t + h + 1) }
def St.Pulse (A : St) (k t h : Int) : Int × St := if 1152921504606846976 < h ∨ A.bad k t = true then (1, A) else (0, (pulS (A.adv t) k.toNat t h).adv t)
def alS (B : St) (a : Int) : St := { B with set := true, alarm := a }
def St.SetAlarm (A : St) (t a : Int) : Int × St := if 1152921504606846976 < a ∨ A.late t = true then (1, A) else (0, (alS (A.adv t) a).adv t)
def St.Advance (A : St) (t : Int) : Int × St := if A.late t = true then (1, A) else (0, A.adv t)
def cntK (on : Nat → Bool) : Nat → Nat
  | 0 => 0
  | k + 1 => cntK on k + (if on k = true then 1 else 0)
def St.cnt (A : St) : Nat := cntK A.on A.n
def St.Arm (A : St) (ev t : Int) : Int × St :=
  if A.late t = true then (1, A) else if (A.adv t).events ≠ ev ∨ 0 < (A.adv t).cnt then (17, A) else (0, { A.adv t with armed := true, rem := ev })
def St.Disarm (A : St) : St := { A with armed := false }
def St.must (A : St) : Bool := A.armed && (decide (A.events ≠ A.rem) || decide (0 < A.cnt))
theorem cntK_le (on : Nat → Bool) : ∀ k, cntK on k ≤ k
  | 0 => Nat.le_refl _
  | k + 1 => by
    have := cntK_le on k
    unfold cntK
    split <;> omega

/-! ### The program's methods -/
set_option maxHeartbeats 1600000 in
theorem startAll_calls (p lb : Nat) (A : St) (t : Int) (t0 : 0 ≤ t) (t1 : t < 18446744073709551616) (w : World) (hA : A.Ok) (he : A.events ≤ 1000000000) (hm : PMem w p lb A) :
    Calls Try.prog 38 #[.pointer (some ⟨p, 0, none⟩), .int .u64 t] w fun e w' => e = .returned (.bool (!A.late t)) ∧ PMem w' p lb (if A.late t = true then A else A.adv t) ∧ Fr [p, lb] w w' := by
  have HM := Lib.hid hm
  have c1 : w.cell? ⟨p, 1, none⟩ = some (.int .u64 A.now) := by obtain ⟨⟨cap, h1⟩, _⟩ := hm; exact cellB h1 1
  have n0 := hA.now0
  have n1 := hA.now1
  by_cases hl : t < A.now
  · have e : A.late t = true := by simp [St.late, hl]
    rw [e, if_pos rfl]
    clear e
    go_enter Try.func38, Try.ntmps38
    go_wp2_with fail
    go_ret
    exact ⟨rfl, hm, Fr.refl _ _⟩
  · by_cases hg : 1152921504606846976 < t
    · have e : A.late t = true := by simp [St.late, hg]
      rw [e, if_pos rfl]
      clear e
      go_enter Try.func38, Try.ntmps38
      go_wp2_with fail
      go_ret
      exact ⟨rfl, hm, Fr.refl _ _⟩
    · have e : A.late t = false := by simp [St.late]; omega
      rw [e, if_neg (by simp)]
      clear e
      go_enter Try.func38, Try.ntmps38
      go_wp2_with fail
      refine (advance_calls p lb A t t0 (by omega) _ hA he HM.out).mono ?_
      rintro e w' ⟨rfl, hm', hf'⟩
      clear c1 hm
      go_wp2_with fail
      go_ret
      exact ⟨rfl, hm', hf'⟩

set_option maxHeartbeats 1600000 in
theorem start_calls (p lb : Nat) (A : St) (k t : Int) (k0 : -9223372036854775808 ≤ k) (k1 : k < 9223372036854775808) (t0 : 0 ≤ t) (t1 : t < 18446744073709551616) (w : World) (hA : A.Ok) (he : A.events ≤ 1000000000) (hm : PMem w p lb A) :
    Calls Try.prog 36 #[.pointer (some ⟨p, 0, none⟩), .int .i64 k, .int .u64 t] w fun e w' => e = .returned (.bool (!A.bad k t)) ∧ PMem w' p lb (if A.bad k t = true then A else A.adv t) ∧ Fr [p, lb] w w' := by
  have HM := Lib.hid hm
  obtain ⟨cap, c0⟩ : ∃ cap, w.cell? ⟨p, 0, none⟩ = some (.slice (some ⟨lb, 0, none⟩) A.n cap) := by obtain ⟨⟨cap, h1⟩, _⟩ := hm; exact ⟨cap, cellB h1 0⟩
  have hn := hA.n
  by_cases hl : k < 0
  · have e : A.bad k t = true := by simp [St.bad, hl]
    rw [e, if_pos rfl]
    clear e
    go_enter Try.func36, Try.ntmps36
    go_wp2_with fail
    go_ret
    exact ⟨rfl, hm, Fr.refl _ _⟩
  · by_cases hg : (A.n : Int) ≤ k
    · have e : A.bad k t = true := by simp [St.bad, hg]
      rw [e, if_pos rfl]
      clear e
      go_enter Try.func36, Try.ntmps36
      go_wp2_with fail
      go_ret
      exact ⟨rfl, hm, Fr.refl _ _⟩
    · have e : A.bad k t = A.late t := by simp [St.bad, hl, hg]
      rw [e]
      clear e
      have hS := fun w (hm : PMem w p lb A) => startAll_calls p lb A t t0 t1 w hA he hm
      generalize (if A.late t = true then A else A.adv t) = S at hS ⊢
      generalize (!A.late t) = b at hS ⊢
      go_enter Try.func36, Try.ntmps36
      go_wp2_with fail
      refine (hS _ HM.out).mono ?_
      clear hS
      --_calls p lb A t t0 t1 _ hA he HM.out).mono ?_
      rintro e w' ⟨rfl, hm', hf'⟩
      clear c0 hm
      go_wp2_with fail
      go_ret
      exact ⟨rfl, hm', hf'⟩

set_option maxHeartbeats 1600000 in
theorem advanceM_calls (p lb : Nat) (A : St) (t : Int) (t0 : 0 ≤ t) (t1 : t < 18446744073709551616) (w : World) (hA : A.Ok) (he : A.events ≤ 1000000000) (hm : PMem w p lb A) :
    Calls Try.prog 30 #[.pointer (some ⟨p, 0, none⟩), .int .u64 t] w fun e w' => e = .returned (.int .i64 (A.Advance t).1) ∧ PMem w' p lb (A.Advance t).2 ∧ Fr [p, lb] w w' := by
  unfold St.Advance
  have hS := startAll_calls p lb A t t0 t1 w hA he hm
  cases hl : A.late t with
  | true =>
    rw [hl] at hS
    rw [if_pos rfl] at hS
    rw [if_pos rfl]
    go_enter Try.func30, Try.ntmps30
    go_wp2_with fail
    refine hS.mono ?_
    clear hS hm
    rintro e w' ⟨rfl, hm', hf'⟩
    go_wp2_with fail
    go_ret
    exact ⟨rfl, hm', hf'⟩
  | false =>
    rw [hl] at hS
    rw [if_neg (by simp)] at hS
    rw [if_neg (by simp)]
    go_enter Try.func30, Try.ntmps30
    go_wp2_with fail
    refine hS.mono ?_
    clear hS hm
    rintro e w' ⟨rfl, hm', hf'⟩
    go_wp2_with fail
    go_ret
    exact ⟨rfl, hm', hf'⟩

set_option maxHeartbeats 1600000 in
theorem disarm_calls (p lb : Nat) (A : St) (w : World) (hm : PMem w p lb A) :
    Calls Try.prog 29 #[.pointer (some ⟨p, 0, none⟩)] w fun e w' => e = .returned (.tuple #[]) ∧ PMem w' p lb A.Disarm ∧ Fr [p, lb] w w' := by
  obtain ⟨⟨cap, h1⟩, cs, h2, h3⟩ := hm
  have hpl : p ≠ lb := ne_of_type h1 h2 (by decide)
  have c5 : w.cell? ⟨p, 5, none⟩ = some (.bool A.armed) := cellB h1 5
  have y5 := frozenB h1 5
  go_enter Try.func29, Try.ntmps29
  go_wp2_with fail
  go_end0
  refine ⟨rfl, ⟨⟨cap, ?_⟩, cs, setB_ne h2 _ _ hpl, h3.same rfl rfl rfl⟩, (Fr.refl _ _).setCell (Or.inl (by simp)) _⟩
  rw [setB h1]
  rfl
end Go.Proofs.Ytjdbhlmkcbgkjaa.Wk
