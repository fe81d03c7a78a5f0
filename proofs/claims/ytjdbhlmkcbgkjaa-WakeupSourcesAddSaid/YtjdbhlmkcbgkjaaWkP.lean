import Derived.Test.YtjdbhlmkcbgkjaaWkO
namespace Go.Proofs.Ytjdbhlmkcbgkjaa.Wk
open Go.RowKit Go.Proofs.YtjdbhlmkcbgkjaaW.PrintWords
set_option linter.unusedVariables false
set_option linter.unusedSimpArgs false

theorem umod9 (k : Int) : umod k 9 = 0 ∨ umod k 9 = 1 ∨ umod k 9 = 2 ∨ umod k 9 = 3 ∨ umod k 9 = 4 ∨ umod k 9 = 5 ∨ umod k 9 = 6 ∨ umod k 9 = 7 ∨ umod k 9 = 8 := by
  have := umod_nn k 9 (by omega)
  have := umod_lt k 9 (by omega)
  omega
theorem step0 {A : St} {k : Int} {a : Ar} (h : umod k 9 = 0) : A.step k a = A.Activate a.source a.now := by unfold St.step; rw [h]; rfl
theorem step1 {A : St} {k : Int} {a : Ar} (h : umod k 9 = 1) : A.step k a = A.Activate a.source a.now := by unfold St.step; rw [h]; rfl
theorem step2 {A : St} {k : Int} {a : Ar} (h : umod k 9 = 2) : A.step k a = A.Deactivate a.source a.now := by unfold St.step; rw [h]; rfl
theorem step3 {A : St} {k : Int} {a : Ar} (h : umod k 9 = 3) : A.step k a = A.Pulse a.source a.now a.other := by unfold St.step; rw [h]; rfl
theorem step4 {A : St} {k : Int} {a : Ar} (h : umod k 9 = 4) : A.step k a = A.Pulse a.source a.now a.other := by unfold St.step; rw [h]; rfl
theorem step5 {A : St} {k : Int} {a : Ar} (h : umod k 9 = 5) : A.step k a = A.SetAlarm a.now a.other := by unfold St.step; rw [h]; rfl
theorem step6 {A : St} {k : Int} {a : Ar} (h : umod k 9 = 6) : A.step k a = A.Advance a.now := by unfold St.step; rw [h]; rfl
theorem step7 {A : St} {k : Int} {a : Ar} (h : umod k 9 = 7) : A.step k a = A.Arm a.events a.now := by unfold St.step; rw [h]; rfl
theorem step8 {A : St} {k : Int} {a : Ar} (h : umod k 9 = 8) : A.step k a = (0, A.Disarm) := by unfold St.step; rw [h]; rfl

set_option maxHeartbeats 3200000 in
set_option maxRecDepth 100000 in
theorem do_calls (p lb : Nat) (A : St) (kind : Int) (k0 : -9223372036854775808 ≤ kind) (k1 : kind < 9223372036854775808) (a : Ar) (ha : a.Ok) (w : World) (hA : A.Ok) (he : A.events ≤ 900000000) (hm : PMem w p lb A) :
    Calls Try.prog 15 #[.pointer (some ⟨p, 0, none⟩), .int .i64 kind, a.val] w fun e w' => ∃ lb', (lb' = lb ∨ w.heap.size ≤ lb') ∧ e = .returned (.int .i64 (A.step kind a).1) ∧ PMem w' p lb' (A.step kind a).2 ∧ Fr [p, lb] w w' := by
  have hM := fun W => mod_calls kind 9 k0 k1 (by omega) (by omega) W
  obtain ⟨s0, s1, n0, n1, o0, o1, e0, e1⟩ := ha
  have HM := Lib.hid hm
  clear hm
  have hw1 : Hid (∀ o, Fr [] w (w.alloc o)) := fun o => (Fr.refl [] w).alloc o
  rcases umod9 kind with h | h | h | h | h | h | h | h | h
  · rw [step0 h]
    rw [h] at hM
    clear h
    unfold Ar.val
    go_enter Try.func15, Try.ntmps15
    go_wp2_with fail
    refine (hM _).mono ?_
    rintro e w' ⟨rfl, rfl⟩
    go_wp2_with fail
    refine (activate_calls p lb A _ _ s0 s1 n0 n1 _ hA he (HM.out.keep (hw1.out _) (by simp) (by simp))).mono ?_
    rintro e w' ⟨rfl, hm', hf'⟩
    clear hM
    go_wp2_with fail
    go_ret
    exact ⟨lb, Or.inl rfl, rfl, hm', ((hw1.out _).mono (by simp)).trans hf'⟩
  · rw [step1 h]
    rw [h] at hM
    clear h
    unfold Ar.val
    go_enter Try.func15, Try.ntmps15
    go_wp2_with fail
    refine (hM _).mono ?_
    rintro e w' ⟨rfl, rfl⟩
    go_wp2_with fail
    refine (activate_calls p lb A _ _ s0 s1 n0 n1 _ hA he (HM.out.keep (hw1.out _) (by simp) (by simp))).mono ?_
    rintro e w' ⟨rfl, hm', hf'⟩
    clear hM
    go_wp2_with fail
    go_ret
    exact ⟨lb, Or.inl rfl, rfl, hm', ((hw1.out _).mono (by simp)).trans hf'⟩
  · rw [step2 h]
    rw [h] at hM
    clear h
    unfold Ar.val
    go_enter Try.func15, Try.ntmps15
    go_wp2_with fail
    refine (hM _).mono ?_
    rintro e w' ⟨rfl, rfl⟩
    go_wp2_with fail
    refine (deactivate_calls p lb A _ _ s0 s1 n0 n1 _ hA he (HM.out.keep (hw1.out _) (by simp) (by simp))).mono ?_
    rintro e w' ⟨rfl, hm', hf'⟩
    clear hM
    go_wp2_with fail
    go_ret
    exact ⟨lb, Or.inl rfl, rfl, hm', ((hw1.out _).mono (by simp)).trans hf'⟩
  · rw [step3 h]
    rw [h] at hM
    clear h
    unfold Ar.val
    go_enter Try.func15, Try.ntmps15
    go_wp2_with fail
    refine (hM _).mono ?_
    rintro e w' ⟨rfl, rfl⟩
    go_wp2_with fail
    refine (pulse_calls p lb A _ _ _ s0 s1 n0 n1 o0 o1 _ hA he (HM.out.keep (hw1.out _) (by simp) (by simp))).mono ?_
    rintro e w' ⟨rfl, hm', hf'⟩
    clear hM
    go_wp2_with fail
    go_ret
    exact ⟨lb, Or.inl rfl, rfl, hm', ((hw1.out _).mono (by simp)).trans hf'⟩
  · rw [step4 h]
    rw [h] at hM
    clear h
    unfold Ar.val
    go_enter Try.func15, Try.ntmps15
    go_wp2_with fail
    refine (hM _).mono ?_
    rintro e w' ⟨rfl, rfl⟩
    go_wp2_with fail
    refine (pulse_calls p lb A _ _ _ s0 s1 n0 n1 o0 o1 _ hA he (HM.out.keep (hw1.out _) (by simp) (by simp))).mono ?_
    rintro e w' ⟨rfl, hm', hf'⟩
    clear hM
    go_wp2_with fail
    go_ret
    exact ⟨lb, Or.inl rfl, rfl, hm', ((hw1.out _).mono (by simp)).trans hf'⟩
  · rw [step5 h]
    rw [h] at hM
    clear h
    unfold Ar.val
    go_enter Try.func15, Try.ntmps15
    go_wp2_with fail
    refine (hM _).mono ?_
    rintro e w' ⟨rfl, rfl⟩
    go_wp2_with fail
    refine (setAlarm_calls p lb A _ _ n0 n1 o0 o1 _ hA he (HM.out.keep (hw1.out _) (by simp) (by simp))).mono ?_
    rintro e w' ⟨rfl, hm', hf'⟩
    clear hM
    go_wp2_with fail
    go_ret
    exact ⟨lb, Or.inl rfl, rfl, hm', ((hw1.out _).mono (by simp)).trans hf'⟩
  · rw [step6 h]
    rw [h] at hM
    clear h
    unfold Ar.val
    go_enter Try.func15, Try.ntmps15
    go_wp2_with fail
    refine (hM _).mono ?_
    rintro e w' ⟨rfl, rfl⟩
    go_wp2_with fail
    refine (advanceM_calls p lb A _ n0 n1 _ hA (by omega) (HM.out.keep (hw1.out _) (by simp) (by simp))).mono ?_
    rintro e w' ⟨rfl, hm', hf'⟩
    clear hM
    go_wp2_with fail
    go_ret
    exact ⟨lb, Or.inl rfl, rfl, hm', ((hw1.out _).mono (by simp)).trans hf'⟩
  · rw [step7 h]
    rw [h] at hM
    clear h
    unfold Ar.val
    go_enter Try.func15, Try.ntmps15
    go_wp2_with fail
    refine (hM _).mono ?_
    rintro e w' ⟨rfl, rfl⟩
    go_wp2_with fail
    refine (arm_calls p lb A _ _ e0 e1 n0 n1 _ hA he (HM.out.keep (hw1.out _) (by simp) (by simp))).mono ?_
    rintro e w' ⟨lb', hl, rfl, hm', hf'⟩
    clear hM
    go_wp2_with fail
    go_ret
    exact ⟨lb', by simp at hl; omega, rfl, hm', ((hw1.out _).mono (by simp)).trans (hf'.mono (by simp))⟩
  · rw [step8 h]
    rw [h] at hM
    clear h
    unfold Ar.val
    go_enter Try.func15, Try.ntmps15
    go_wp2_with fail
    refine (hM _).mono ?_
    rintro e w' ⟨rfl, rfl⟩
    go_wp2_with fail
    refine (disarm_calls p lb A _ (HM.out.keep (hw1.out _) (by simp) (by simp))).mono ?_
    rintro e w' ⟨rfl, hm', hf'⟩
    clear hM
    go_wp2_with fail
    go_ret
    exact ⟨lb, Or.inl rfl, rfl, hm', ((hw1.out _).mono (by simp)).trans hf'⟩

set_option maxHeartbeats 3200000 in
set_option maxRecDepth 100000 in
theorem want_calls (q ob hb : Nat) (A : St) (kind : Int) (k0 : -9223372036854775808 ≤ kind) (k1 : kind < 9223372036854775808) (a : Ar) (ha : a.Ok) (w : World) (hA : A.Ok) (he : A.events ≤ 900000000) (hm : RMem w q ob hb A) :
    Calls Try.prog 16 #[.pointer (some ⟨q, 0, none⟩), .int .i64 kind, a.val] w fun e w' => e = .returned (.int .i64 (A.step kind a).1) ∧ RMem w' q ob hb (A.step kind a).2 ∧ Fr [q, ob, hb] w w' := by
  have hM := fun W => mod_calls kind 9 k0 k1 (by omega) (by omega) W
  obtain ⟨s0, s1, n0, n1, o0, o1, e0, e1⟩ := ha
  have HM := Lib.hid hm
  clear hm
  have hw1 : Hid (∀ o, Fr [] w (w.alloc o)) := fun o => (Fr.refl [] w).alloc o
  rcases umod9 kind with h | h | h | h | h | h | h | h | h
  · rw [step0 h]
    rw [h] at hM
    clear h
    unfold Ar.val
    go_enter Try.func16, Try.ntmps16
    go_wp2_with fail
    refine (hM _).mono ?_
    rintro e w' ⟨rfl, rfl⟩
    go_wp2_with fail
    refine (ractivate_calls q ob hb A _ _ s0 s1 n0 n1 _ hA he (HM.out.keep (hw1.out _) (by simp) (by simp) (by simp))).mono ?_
    rintro e w' ⟨rfl, hm', hf'⟩
    clear hM
    go_wp2_with fail
    go_ret
    exact ⟨rfl, hm', ((hw1.out _).mono (by simp)).trans hf'⟩
  · rw [step1 h]
    rw [h] at hM
    clear h
    unfold Ar.val
    go_enter Try.func16, Try.ntmps16
    go_wp2_with fail
    refine (hM _).mono ?_
    rintro e w' ⟨rfl, rfl⟩
    go_wp2_with fail
    refine (ractivate_calls q ob hb A _ _ s0 s1 n0 n1 _ hA he (HM.out.keep (hw1.out _) (by simp) (by simp) (by simp))).mono ?_
    rintro e w' ⟨rfl, hm', hf'⟩
    clear hM
    go_wp2_with fail
    go_ret
    exact ⟨rfl, hm', ((hw1.out _).mono (by simp)).trans hf'⟩
  · rw [step2 h]
    rw [h] at hM
    clear h
    unfold Ar.val
    go_enter Try.func16, Try.ntmps16
    go_wp2_with fail
    refine (hM _).mono ?_
    rintro e w' ⟨rfl, rfl⟩
    go_wp2_with fail
    refine (rdeactivate_calls q ob hb A _ _ s0 s1 n0 n1 _ hA he (HM.out.keep (hw1.out _) (by simp) (by simp) (by simp))).mono ?_
    rintro e w' ⟨rfl, hm', hf'⟩
    clear hM
    go_wp2_with fail
    go_ret
    exact ⟨rfl, hm', ((hw1.out _).mono (by simp)).trans hf'⟩
  · rw [step3 h]
    rw [h] at hM
    clear h
    unfold Ar.val
    go_enter Try.func16, Try.ntmps16
    go_wp2_with fail
    refine (hM _).mono ?_
    rintro e w' ⟨rfl, rfl⟩
    go_wp2_with fail
    refine (rpulse_calls q ob hb A _ _ _ s0 s1 n0 n1 o0 o1 _ hA he (HM.out.keep (hw1.out _) (by simp) (by simp) (by simp))).mono ?_
    rintro e w' ⟨rfl, hm', hf'⟩
    clear hM
    go_wp2_with fail
    go_ret
    exact ⟨rfl, hm', ((hw1.out _).mono (by simp)).trans hf'⟩
  · rw [step4 h]
    rw [h] at hM
    clear h
    unfold Ar.val
    go_enter Try.func16, Try.ntmps16
    go_wp2_with fail
    refine (hM _).mono ?_
    rintro e w' ⟨rfl, rfl⟩
    go_wp2_with fail
    refine (rpulse_calls q ob hb A _ _ _ s0 s1 n0 n1 o0 o1 _ hA he (HM.out.keep (hw1.out _) (by simp) (by simp) (by simp))).mono ?_
    rintro e w' ⟨rfl, hm', hf'⟩
    clear hM
    go_wp2_with fail
    go_ret
    exact ⟨rfl, hm', ((hw1.out _).mono (by simp)).trans hf'⟩
  · rw [step5 h]
    rw [h] at hM
    clear h
    unfold Ar.val
    go_enter Try.func16, Try.ntmps16
    go_wp2_with fail
    refine (hM _).mono ?_
    rintro e w' ⟨rfl, rfl⟩
    go_wp2_with fail
    refine (rsetAlarm_calls q ob hb A _ _ n0 n1 o0 o1 _ hA he (HM.out.keep (hw1.out _) (by simp) (by simp) (by simp))).mono ?_
    rintro e w' ⟨rfl, hm', hf'⟩
    clear hM
    go_wp2_with fail
    go_ret
    exact ⟨rfl, hm', ((hw1.out _).mono (by simp)).trans hf'⟩
  · rw [step6 h]
    rw [h] at hM
    clear h
    unfold Ar.val
    go_enter Try.func16, Try.ntmps16
    go_wp2_with fail
    refine (hM _).mono ?_
    rintro e w' ⟨rfl, rfl⟩
    go_wp2_with fail
    refine (radvanceM_calls q ob hb A _ n0 n1 _ hA he (HM.out.keep (hw1.out _) (by simp) (by simp) (by simp))).mono ?_
    rintro e w' ⟨rfl, hm', hf'⟩
    clear hM
    go_wp2_with fail
    go_ret
    exact ⟨rfl, hm', ((hw1.out _).mono (by simp)).trans hf'⟩
  · rw [step7 h]
    rw [h] at hM
    clear h
    unfold Ar.val
    go_enter Try.func16, Try.ntmps16
    go_wp2_with fail
    refine (hM _).mono ?_
    rintro e w' ⟨rfl, rfl⟩
    go_wp2_with fail
    refine (rarm_calls q ob hb A _ _ e0 e1 n0 n1 _ hA he (HM.out.keep (hw1.out _) (by simp) (by simp) (by simp))).mono ?_
    rintro e w' ⟨rfl, hm', hf'⟩
    clear hM
    go_wp2_with fail
    go_ret
    exact ⟨rfl, hm', ((hw1.out _).mono (by simp)).trans hf'⟩
  · rw [step8 h]
    rw [h] at hM
    clear h
    unfold Ar.val
    go_enter Try.func16, Try.ntmps16
    go_wp2_with fail
    refine (hM _).mono ?_
    rintro e w' ⟨rfl, rfl⟩
    go_wp2_with fail
    refine (rdisarm_calls q ob hb A _ (HM.out.keep (hw1.out _) (by simp) (by simp) (by simp))).mono ?_
    rintro e w' ⟨rfl, hm', hf'⟩
    clear hM
    go_wp2_with fail
    go_ret
    exact ⟨rfl, hm', ((hw1.out _).mono (by simp)).trans hf'⟩
end Go.Proofs.Ytjdbhlmkcbgkjaa.Wk
