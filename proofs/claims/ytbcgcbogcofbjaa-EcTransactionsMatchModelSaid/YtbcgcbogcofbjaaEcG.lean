import Derived.Test.YtbcgcbogcofbjaaEcF
namespace Go.Proofs.Ytbcgcbogcofbjaa.Ec
open Go.RowKit Go.Proofs.Ytbcgcbogcofbjaa.G
set_option linter.unusedVariables false
set_option linter.unusedSimpArgs false
attribute [local go_sem ↓] Go.wp_at_zero Go.wp_at_succ

theorem PC.form {w : World} {p : Nat} {O : List Nat} {C : Ct} (h : PC w p O C) : ∃ qv av qo ao a cap, qv = .slice a C.queue.length cap ∧ O = qo ++ ao ∧ PCq w p C qv av qo ao := by
  obtain ⟨qv, av, qo, ao, hO, h⟩ := h
  obtain ⟨a, cap, hv, _, _⟩ := h.q.form
  rw [bytes_len] at hv
  exact ⟨qv, av, qo, ao, a, cap, hv, hO, h⟩

set_option maxHeartbeats 1600000 in
set_option maxRecDepth 100000 in
theorem status_calls (p : Nat) (O : List Nat) (C : Ct) (hok : C.Ok) (t : Int) (t0 : 0 ≤ t) (t1 : t < 18446744073709551616) (w : World) (hC : PC w p O C) :
    Calls Try.prog 29 #[.pointer (some ⟨p, 0, none⟩), .int .u64 t] w fun e w' => e = .returned (.int .u8 (statusV (C.adv t))) ∧ (∃ O', PC w' p O' (C.adv t) ∧ Sub w O O') ∧ Fr (p :: O) w w' := by
  have hadv := Lib.hid (advance_calls p O C hok t t0 t1 w hC)
  have hokA := adv_ok hok t0 t1
  generalize C.adv t = D at *
  have Hst : Hid (statusV D = bitS D.full 1 + bitS D.busy 2 + bitS (!D.queue.isEmpty) 32) := Lib.hid rfl
  generalize statusV D = sv at *
  clear hC
  go_enter Try.func29, Try.ntmps29
  go_wp2_with fail
  refine hadv.out.mono ?_
  rintro e w2 ⟨rfl, ⟨O2, hC2, hs2⟩, hf2⟩
  obtain ⟨qv, av, qo, ao, a, cap, rfl, rfl, h⟩ := hC2.form
  have c0 : w2.cell? ⟨p, 258, none⟩ = some (.bool D.busy) := h.blk.cell 258 (by omega)
  have c4 : w2.cell? ⟨p, 262, none⟩ = some (.bool D.full) := h.blk.cell 262 (by omega)
  have c6 : w2.cell? ⟨p, 264, none⟩ = some (.slice a D.queue.length cap) := h.blk.cell 264 (by omega)
  have HC2 := Lib.hid hC2
  have hfin : Hid (∃ O', PC w2 p O' D ∧ Sub w O O') := Lib.hid ⟨_, hC2, hs2⟩
  have hql := hokA.ql
  clear h hC2 hs2 hadv hokA
  obtain ⟨fb, hfb⟩ : ∃ b, D.full = b := ⟨_, rfl⟩
  obtain ⟨bb, hbb⟩ : ∃ b, D.busy = b := ⟨_, rfl⟩
  rw [hfb] at c4 Hst
  rw [hbb] at c0 Hst
  have Hn : Hid (((!D.queue.isEmpty) = true ∧ 0 < D.queue.length) ∨ ((!D.queue.isEmpty) = false ∧ D.queue.length = 0)) := Lib.hid (by cases D.queue <;> simp)
  obtain ⟨n, hn⟩ : ∃ n, D.queue.length = n := ⟨_, rfl⟩
  rw [hn] at c6 hql Hn
  clear hn hfb hbb
  generalize (!D.queue.isEmpty) = nb at *
  rcases Hn.out with ⟨rfl, hpos⟩ | ⟨rfl, rfl⟩
  · cases fb <;> cases bb
    all_goals
      go_wp2_with fail
      go_ret
      exact ⟨by rw [Hst.out]; rfl, hfin.out, hf2⟩
  · cases fb <;> cases bb
    all_goals
      go_wp2_with fail
      go_ret
      exact ⟨by rw [Hst.out]; rfl, hfin.out, hf2⟩

set_option maxHeartbeats 1600000 in
set_option maxRecDepth 100000 in
theorem readData_calls (p : Nat) (O : List Nat) (C : Ct) (hok : C.Ok) (t : Int) (t0 : 0 ≤ t) (t1 : t < 18446744073709551616) (w : World) (hC : PC w p O C) :
    Calls Try.prog 24 #[.pointer (some ⟨p, 0, none⟩), .int .u64 t] w fun e w' => e = .returned (.int .u8 (readV (C.adv t))) ∧ (∃ O', PC w' p O' (readS (C.adv t)) ∧ Sub w O O') ∧ Fr (p :: O) w w' := by
  have hadv := Lib.hid (advance_calls p O C hok t t0 t1 w hC)
  have hokA := adv_ok hok t0 t1
  generalize C.adv t = D at *
  obtain ⟨o0, o1⟩ := hokA.o
  clear hC hokA
  go_enter Try.func24, Try.ntmps24
  go_wp2_with fail
  refine hadv.out.mono ?_
  rintro e w2 ⟨rfl, ⟨O2, hC2, hs2⟩, hf2⟩
  obtain ⟨qv, av, qo, ao, rfl, h⟩ := hC2
  have c4 : w2.cell? ⟨p, 262, none⟩ = some (.bool D.full) := h.blk.cell 262 (by omega)
  have c5 : w2.cell? ⟨p, 263, none⟩ = some (.int .u8 D.out) := h.blk.cell 263 (by omega)
  have y4 := h.blk.frozen 262
  have H := Lib.hid h
  clear h hadv
  by_cases hfb : D.full = true
  · have Hv : Hid (readV D = D.out) := Lib.hid (by unfold readV; rw [if_pos hfb])
    rw [hfb] at c4
    clear hfb
    go_wp2_with fail
    go_ret
    have hf3 : Fr [p] w2 (w2.setCell ⟨p, 262, none⟩ (.bool false)) := (Fr.refl _ _).setCell (Or.inl (by simp)) _
    obtain ⟨O3, hC3, hs3⟩ := H.out.put (C' := readS D) (H.out.blk.setHi 262 (by omega) (by omega) _ rfl) hf3 rfl (fun e => ⟨e, rfl⟩)
    exact ⟨by rw [Hv.out]; rfl, ⟨O3, hC3, hs2.trans hs3 hf2.size⟩, Fr.step hf2 hs2 (fr1 hf3)⟩
  · have hfb : D.full = false := by simpa using hfb
    have Hv : Hid (readV D = 0) := Lib.hid (by unfold readV; rw [hfb]; rfl)
    have Hr : Hid (readS D = D) := Lib.hid (by unfold readS; rw [← hfb])
    rw [hfb] at c4
    clear hfb
    go_wp2_with fail
    go_ret
    exact ⟨by rw [Hv.out]; rfl, ⟨_, by rw [Hr.out]; exact H.out.ok, hs2⟩, hf2⟩

set_option maxHeartbeats 1600000 in
set_option maxRecDepth 100000 in
theorem register_calls (p : Nat) (O : List Nat) (C : Ct) (i : Nat) (hi : i < 256) (w : World) (hC : PC w p O C) :
    Calls Try.prog 16 #[.pointer (some ⟨p, 0, none⟩), .int .u8 (i : Int)] w fun e w' => e = .returned (.int .u8 (C.regs i)) ∧ PC w' p O C ∧ Fr [] w w' := by
  have HC := Lib.hid hC
  obtain ⟨qv, av, qo, ao, rfl, h⟩ := hC
  have hreg := h.blk.reg i hi
  have hii : (i : Int) < 256 := by omega
  have hi0 : (0 : Int) ≤ (i : Int) := by omega
  clear h
  obtain ⟨x, hx⟩ : ∃ x, C.regs i = x := ⟨_, rfl⟩
  rw [hx] at hreg ⊢
  clear hx
  go_enter Try.func16, Try.ntmps16
  go_wp2_with fail
  go_ret
  exact ⟨rfl, HC.out, Fr.refl _ _⟩
set_option maxHeartbeats 1600000 in
set_option maxRecDepth 100000 in
theorem setRegister_calls (p : Nat) (O : List Nat) (C : Ct) (i : Nat) (hi : i < 256) (x : Int) (w : World) (hC : PC w p O C) :
    Calls Try.prog 14 #[.pointer (some ⟨p, 0, none⟩), .int .u8 (i : Int), .int .u8 x] w fun e w' => e = .returned (.tuple #[]) ∧ (∃ O', PC w' p O' (setS C i x) ∧ Sub w O O') ∧ Fr [p] w w' := by
  obtain ⟨qv, av, qo, ao, rfl, h⟩ := hC
  have hreg := h.blk.reg i hi
  have yreg := h.blk.frozen (2 + i)
  have hii : (i : Int) < 256 := by omega
  have hi0 : (0 : Int) ≤ (i : Int) := by omega
  have H := Lib.hid h
  clear h
  go_enter Try.func14, Try.ntmps14
  go_wp2_with fail
  go_end0
  have hf3 : Fr [p] w (w.setCell ⟨p, 2 + i, none⟩ (.int .u8 x)) := (Fr.refl _ _).setCell (Or.inl (by simp)) _
  exact ⟨rfl, H.out.put (C' := setS C i x) (H.out.blk.setReg i hi x) hf3 rfl (fun e => ⟨e, rfl⟩), hf3⟩
end Go.Proofs.Ytbcgcbogcofbjaa.Ec
