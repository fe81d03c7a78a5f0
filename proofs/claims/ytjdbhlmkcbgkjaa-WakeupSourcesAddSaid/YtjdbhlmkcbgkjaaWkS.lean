import Derived.Test.YtjdbhlmkcbgkjaaWkR
namespace Go.Proofs.Ytjdbhlmkcbgkjaa.Wk
open Go.RowKit Go.Proofs.YtjdbhlmkcbgkjaaW.PrintWords
set_option linter.unusedVariables false
set_option linter.unusedSimpArgs false

theorem Kept.facts {A B : St} (h : Kept A B) : B.Ok := h.ok
theorem awake_plain : ∃ A1 A2 A3 A4 : St, (St.new 2).Pulse 0 10 5 = (0, A1) ∧ A1.Ok ∧ A1.n ≤ 32 ∧ A1.events = 0 ∧ A1.cnt = 1 ∧ A1.Arm 0 12 = (17, A1) ∧ A1.Advance 15 = (0, A2) ∧ A2.Ok ∧ A2.n ≤ 32 ∧ A2.events = 1 ∧ A2.cnt = 0 ∧
    A2.Arm 1 16 = (0, A3) ∧ A3.Ok ∧ A3.events = 1 ∧ A3.Activate 1 17 = (0, A4) ∧ A4.n ≤ 32 ∧ A4.must = true := by
  have k0 := St.new_ok 2 (by omega)
  have h1 := step_kept (k := 3) (a := ⟨0, 10, 5, 0⟩) k0 ⟨by decide, by decide, by decide, by decide, by decide, by decide, by decide, by decide⟩ (by decide)
  rw [step3 (by decide)] at h1
  have h2 := step_kept (k := 6) (a := ⟨0, 15, 5, 0⟩) h1.ok ⟨by decide, by decide, by decide, by decide, by decide, by decide, by decide, by decide⟩ (of_decide_eq_true (by kernel_rfl))
  rw [step6 (by decide)] at h2
  have h3 := step_kept (k := 7) (a := ⟨0, 16, 5, 1⟩) h2.ok ⟨by decide, by decide, by decide, by decide, by decide, by decide, by decide, by decide⟩ (of_decide_eq_true (by kernel_rfl))
  rw [step7 (by decide)] at h3
  have h4 := step_kept (k := 0) (a := ⟨1, 17, 5, 1⟩) h3.ok ⟨by decide, by decide, by decide, by decide, by decide, by decide, by decide, by decide⟩ (of_decide_eq_true (by kernel_rfl))
  rw [step0 (by decide)] at h4
  exact ⟨_, _, _, _, by kernel_rfl, h1.ok, h1.ok.n, by kernel_rfl, by kernel_rfl, by kernel_rfl, by kernel_rfl, h2.ok, h2.ok.n, by kernel_rfl, by kernel_rfl, by kernel_rfl, h3.ok, by kernel_rfl, by kernel_rfl, h4.ok.n, by kernel_rfl⟩

set_option maxHeartbeats 3200000 in
set_option maxRecDepth 100000 in
theorem awake_calls (w : World) : Calls Try.prog 10 #[] w fun e w' => e = .returned (.bool true) ∧ Below w.heap.size w w' := by
  obtain ⟨A1, A2, A3, A4, p1, a1, a2, a3, a4, a5, p2, b1, b2, b3, b4, p3, c1, c2, p4, d1, d2⟩ := awake_plain
  have k0 := St.new_ok 2 (by omega)
  have hN := new_calls 2 (by omega) w
  rw [show ((2 : Nat) : Int) = 2 from rfl] at hN
  have H1 : Hid (∀ p lb W, PMem W p lb (St.new 2) → Calls Try.prog 23 #[.pointer (some ⟨p, 0, none⟩), .int .i64 0, .int .u64 10, .int .u64 5] W fun e w' => e = .returned (.int .i64 0) ∧ PMem w' p lb A1 ∧ Fr [p, lb] W w') := by
    intro p lb W hm
    have h := pulse_calls p lb (St.new 2) 0 10 5 (by omega) (by omega) (by omega) (by omega) (by omega) (by omega) W k0 (by decide) hm
    rwa [p1] at h
  have H2 : Hid (∀ p lb W, PMem W p lb A1 → Calls Try.prog 17 #[.pointer (some ⟨p, 0, none⟩)] W fun e w' => e = .returned (.tuple #[.int .i64 0, .int .i64 1]) ∧ Fr [] W w') := by
    intro p lb W hm
    have h := counts_calls p lb A1 W a2 hm
    rw [a3, a4] at h
    exact h
  have H3 : Hid (∀ p lb W, PMem W p lb A1 → Calls Try.prog 25 #[.pointer (some ⟨p, 0, none⟩), .int .i64 0, .int .u64 12] W fun e w' => ∃ lb', (lb' = lb ∨ W.heap.size ≤ lb') ∧ e = .returned (.int .i64 17) ∧ PMem w' p lb' A1 ∧ Fr [p] W w') := by
    intro p lb W hm
    have h := arm_calls p lb A1 0 12 (by omega) (by omega) (by omega) (by omega) W a1 (by omega) hm
    rwa [a5] at h
  have H4 : Hid (∀ p lb W, PMem W p lb A1 → Calls Try.prog 30 #[.pointer (some ⟨p, 0, none⟩), .int .u64 15] W fun e w' => e = .returned (.int .i64 0) ∧ PMem w' p lb A2 ∧ Fr [p, lb] W w') := by
    intro p lb W hm
    have h := advanceM_calls p lb A1 15 (by omega) (by omega) W a1 (by omega) hm
    rwa [p2] at h
  have H5 : Hid (∀ p lb W, PMem W p lb A2 → Calls Try.prog 17 #[.pointer (some ⟨p, 0, none⟩)] W fun e w' => e = .returned (.tuple #[.int .i64 1, .int .i64 0]) ∧ Fr [] W w') := by
    intro p lb W hm
    have h := counts_calls p lb A2 W b2 hm
    rw [b3, b4] at h
    exact h
  have H6 : Hid (∀ p lb W, PMem W p lb A2 → Calls Try.prog 25 #[.pointer (some ⟨p, 0, none⟩), .int .i64 1, .int .u64 16] W fun e w' => ∃ lb', (lb' = lb ∨ W.heap.size ≤ lb') ∧ e = .returned (.int .i64 0) ∧ PMem w' p lb' A3 ∧ Fr [p] W w') := by
    intro p lb W hm
    have h := arm_calls p lb A2 1 16 (by omega) (by omega) (by omega) (by omega) W b1 (by omega) hm
    rwa [p3] at h
  have H7 : Hid (∀ p lb W, PMem W p lb A3 → Calls Try.prog 22 #[.pointer (some ⟨p, 0, none⟩), .int .i64 1, .int .u64 17] W fun e w' => e = .returned (.int .i64 0) ∧ PMem w' p lb A4 ∧ Fr [p, lb] W w') := by
    intro p lb W hm
    have h := activate_calls p lb A3 1 17 (by omega) (by omega) (by omega) (by omega) W c1 (by omega) hm
    rwa [p4] at h
  have H8 : Hid (∀ p lb W, PMem W p lb A4 → Calls Try.prog 19 #[.pointer (some ⟨p, 0, none⟩)] W fun e w' => e = .returned (.bool true) ∧ Fr [] W w') := by
    intro p lb W hm
    have h := must_calls p lb A4 W d1 hm
    rwa [d2] at h
  clear p1 a1 a2 a3 a4 a5 p2 b1 b2 b3 b4 p3 c1 c2 p4 d1 d2 k0
  go_enter Try.func10, Try.ntmps10
  go_wp2_with fail
  refine hN.mono ?_
  rintro e w1 ⟨p, lb, hp, hl, rfl, hm, hf⟩
  clear hN
  have hB : Below w.heap.size w w1 := hf.below (Below.refl _ _) (Nat.le_refl _) (by simp)
  clear hf
  go_wp2_with fail
  refine (H1.out _ _ _ hm).mono ?_
  rintro e w2 ⟨rfl, hm2, hf⟩
  have hB2 : Below w.heap.size w w2 := hf.below hB hB.size (by simp; omega)
  clear hf hB hm
  go_wp2_with fail
  refine (H2.out _ _ _ hm2).mono ?_
  rintro e w3 ⟨rfl, hf⟩
  have hm3 := hm2.keep hf (by simp) (by simp)
  have hB3 : Below w.heap.size w w3 := hf.below hB2 hB2.size (by simp)
  clear hf hB2 hm2
  go_wp2_with fail
  refine (H3.out _ _ _ hm3).mono ?_
  rintro e w4 ⟨lb4, hl4, rfl, hm4, hf⟩
  have hB4 : Below w.heap.size w w4 := hf.below hB3 hB3.size (by simp; omega)
  have hl4 : w.heap.size ≤ lb4 := by have := hB3.size; omega
  clear hf hB3 hm3
  go_wp2_with fail
  refine (H4.out _ _ _ hm4).mono ?_
  rintro e w5 ⟨rfl, hm5, hf⟩
  have hB5 : Below w.heap.size w w5 := hf.below hB4 hB4.size (by simp; omega)
  clear hf hB4 hm4
  go_wp2_with fail
  refine (H5.out _ _ _ hm5).mono ?_
  rintro e w6 ⟨rfl, hf⟩
  have hm6 := hm5.keep hf (by simp) (by simp)
  have hB6 : Below w.heap.size w w6 := hf.below hB5 hB5.size (by simp)
  clear hf hB5 hm5
  go_wp2_with fail
  refine (H6.out _ _ _ hm6).mono ?_
  rintro e w7 ⟨lb7, hl7, rfl, hm7, hf⟩
  have hB7 : Below w.heap.size w w7 := hf.below hB6 hB6.size (by simp; omega)
  have hl7 : w.heap.size ≤ lb7 := by have := hB6.size; omega
  clear hf hB6 hm6
  go_wp2_with fail
  refine (H7.out _ _ _ hm7).mono ?_
  rintro e w8 ⟨rfl, hm8, hf⟩
  have hB8 : Below w.heap.size w w8 := hf.below hB7 hB7.size (by simp; omega)
  clear hf hB7 hm7
  go_wp2_with fail
  refine (H8.out _ _ _ hm8).mono ?_
  rintro e w9 ⟨rfl, hf⟩
  have hB9 : Below w.heap.size w w9 := hf.below hB8 hB8.size (by simp)
  clear hf hB8 hm8
  go_wp2_with fail
  go_ret
  exact ⟨rfl, hB9⟩
end Go.Proofs.Ytjdbhlmkcbgkjaa.Wk
