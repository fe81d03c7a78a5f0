import Derived.Test.YtjdbhlmkcbgkjaaWkD
namespace Go.Proofs.Ytjdbhlmkcbgkjaa.Wk
open Go.RowKit Go.Proofs.YtjdbhlmkcbgkjaaW.PrintWords
set_option linter.unusedVariables false
set_option linter.unusedSimpArgs false

theorem Fr.at {w w' : World} (h : Fr [] w w') {B : Nat} {o : Obj} (hB : w.heap[B]? = some o) : w'.heap[B]? = some o := (h.block B (lt_of_heap hB) (by simp)).trans hB

set_option maxHeartbeats 1600000 in
set_option maxRecDepth 100000 in
theorem counts_calls (p lb : Nat) (A : St) (w : World) (hn : A.n ≤ 32) (hm : PMem w p lb A) :
    Calls Try.prog 17 #[.pointer (some ⟨p, 0, none⟩)] w fun e w' => e = .returned (.tuple #[.int .i64 A.events, .int .i64 A.cnt]) ∧ Fr [] w w' := by
  obtain ⟨⟨cap, h1⟩, cs, h2, h3⟩ := hm
  have c0 : w.cell? ⟨p, 0, none⟩ = some (.slice (some ⟨lb, 0, none⟩) A.n cap) := cellB h1 0
  unfold St.cnt
  go_enter Try.func17, Try.ntmps17
  go_wp2_with fail
  go_loopw [3, 11] (fun x c wr => ∃ k : Nat, k ≤ A.n ∧ c = .int .i64 k ∧ x = .int .i64 (cntK A.on k) ∧ Fr [] w wr)
      (fun _ c _ => A.n - (intOf c).toNat)
  case atStart => exact ⟨0, by omega, rfl, rfl, Fr.refl _ _⟩
  case round =>
    obtain ⟨k, hk, rfl, rfl, hfr⟩ := hrel
    have g1 := hfr.at h1
    have g2 := hfr.at h2
    by_cases hlt : k < A.n
    · have d0 : wr.cell? ⟨lb, k * 3, none⟩ = some (.bool (A.on k)) := (cellB g2 _).trans (h3.on k hlt)
      have d1 : wr.cell? ⟨lb, k * 3 + 1, none⟩ = some (.bool (A.held k)) := (cellB g2 _).trans (h3.held k hlt)
      have d2 : wr.cell? ⟨lb, k * 3 + 2, none⟩ = some (.int .u64 (A.hv k)) := (cellB g2 _).trans (h3.hv k hlt)
      have hc := cntK_le A.on k
      have hc1 : cntK A.on (k + 1) = cntK A.on k + (if A.on k = true then 1 else 0) := rfl
      have Hc1 := Lib.hid hc1
      clear hc1
      generalize cntK A.on k = m at hc Hc1 ⊢
      cases ho : A.on k with
      | false =>
        rw [ho] at d0
        have Ho := Lib.hid ho
        clear ho
        go_wp2_with fail
        go_roundw
        case rel => exact ⟨k + 1, by omega, by go_num, by rw [Hc1.out, Ho.out]; rfl, hfr.alloc _⟩
        case measure => simp [intOf]; omega
      | true =>
        rw [ho] at d0
        have Ho := Lib.hid ho
        clear ho
        go_wp2_with fail
        go_roundw
        case rel => exact ⟨k + 1, by omega, by go_num, by rw [Hc1.out, Ho.out]; go_num, hfr.alloc _⟩
        case measure => simp [intOf]; omega
    · have hkn : k = A.n := by omega
      subst hkn
      have c2 : wr.cell? ⟨p, 2, none⟩ = some (.int .i64 A.events) := cellB g1 2
      obtain ⟨m, hm⟩ : ∃ m, m = cntK A.on A.n := ⟨_, rfl⟩
      have Hm := Lib.hid hm
      rw [← hm]
      clear hm
      go_wp2_with fail
      go_ret2
      exact ⟨by rw [← Hm.out]; rfl, hfr⟩

set_option maxHeartbeats 1600000 in
theorem must_calls (p lb : Nat) (A : St) (w : World) (hn : A.n ≤ 32) (hm : PMem w p lb A) :
    Calls Try.prog 19 #[.pointer (some ⟨p, 0, none⟩)] w fun e w' => e = .returned (.bool A.must) ∧ Fr [] w w' := by
  have hC := counts_calls p lb A w hn hm
  have hc : A.cnt ≤ A.n := cntK_le _ _
  obtain ⟨⟨cap, h1⟩, cs, h2, h3⟩ := hm
  unfold St.must
  generalize A.cnt = m at hC hc ⊢
  have C5 : ∀ w', Fr [] w w' → w'.cell? ⟨p, 5, none⟩ = some (.bool A.armed) := fun w' hf => cellB (hf.at h1) 5
  have C6 : ∀ w', Fr [] w w' → w'.cell? ⟨p, 6, none⟩ = some (.int .i64 A.rem) := fun w' hf => cellB (hf.at h1) 6
  generalize A.armed = b at C5 ⊢
  cases b
  all_goals
    go_enter Try.func19, Try.ntmps19
    go_wp2_with fail
    refine hC.mono ?_
    rintro e w' ⟨rfl, hf⟩
    clear hC
    have c5 := C5 w' hf
    have c6 := C6 w' hf
    clear C5 C6
    go_wp2_with fail
    all_goals (go_ret; refine ⟨?_, hf⟩; simp_all)
end Go.Proofs.Ytjdbhlmkcbgkjaa.Wk
