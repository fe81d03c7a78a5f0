import Derived.Test.YtbcgcbogcofbjaaEcL
import Derived.BigRegion
namespace Go.Proofs.Ytbcgcbogcofbjaa.Ec
open Go.RowKit Go.Proofs.Ytbcgcbogcofbjaa.G
set_option linter.unusedVariables false
set_option linter.unusedSimpArgs false
attribute [local go_sem ↓] Go.wp_at_zero Go.wp_at_succ

theorem adv_delay (C : Ct) (t : Int) : (C.adv t).delay = C.delay := by
  unfold Ct.adv; split
  · unfold effS
    split
    · unfold cmdS; split
      · rfl
      · split <;> rfl
    · split
      · rfl
      · split
        · unfold argS; split <;> rfl
        · rfl
  · rfl
theorem RCq.form {w : World} {p : Nat} {O : List Nat} {C : Ct} {qv : Value} (h : RCq w p C qv O) : ∃ a cap, qv = .slice a C.queue.length cap := by
  obtain ⟨a, cap, hv, _, _⟩ := h.q.form
  rw [bytes_len] at hv
  exact ⟨a, cap, hv⟩

set_option maxHeartbeats 1600000 in
set_option maxRecDepth 100000 in
theorem rwrite_calls (p : Nat) (O : List Nat) (C : Ct) (hok : C.Ok) (t : Int) (t0 : 0 ≤ t) (t1 : t < 18446744073709551616) (v : Int) (b : Bool) (w : World) (hC : RC w p O C) :
    Calls Try.prog 40 #[.pointer (some ⟨p, 0, none⟩), .int .u64 t, .int .u8 v, .bool b] w fun e w' => e = .returned (.tuple #[]) ∧ RC w' p O (writeS C t v b) ∧ Fr [p] w w' := by
  have hadv := Lib.hid (radv_calls p O C hok t t0 t1 w hC)
  have hokA := adv_ok hok t0 t1
  have hwr : writeS C t v b = if (C.adv t).busy = true then C.adv t else { C.adv t with busy := true, command := b, v := v, due := after (C.adv t).now C.delay } := rfl
  rw [← adv_delay C t] at hwr
  have Hwr := Lib.hid hwr
  clear hwr
  generalize C.adv t = D at *
  clear hC
  go_enter Try.func40, Try.ntmps40
  go_wp2_with fail
  refine hadv.out.mono ?_
  rintro e w2 ⟨rfl, hC2, hf2⟩
  have HC2 := Lib.hid hC2
  obtain ⟨qv, h⟩ := hC2
  have c8 : w2.cell? ⟨p, 258, none⟩ = some (.bool D.busy) := h.blk.cell 258 (by omega)
  have c9 : w2.cell? ⟨p, 259, none⟩ = some (.int .u8 D.v) := h.blk.cell 259 (by omega)
  have ca : w2.cell? ⟨p, 260, none⟩ = some (.bool D.command) := h.blk.cell 260 (by omega)
  have cb : w2.cell? ⟨p, 261, none⟩ = some (.int .u64 D.due) := h.blk.cell 261 (by omega)
  have c1 : w2.cell? ⟨p, 1, none⟩ = some (.int .u64 D.now) := h.blk.cell 1 (by omega)
  have c0 : w2.cell? ⟨p, 0, none⟩ = some (.int .u64 D.delay) := h.blk.cell 0 (by omega)
  have y8 := h.blk.frozen 258
  have y9 := h.blk.frozen 259
  have ya := h.blk.frozen 260
  have yb := h.blk.frozen 261
  have n0 := hokA.n0
  have n1 := hokA.n1
  have d0 := hokA.d0
  have d1 := hokA.d1
  have H := Lib.hid h
  clear h hadv hokA
  by_cases hbz : D.busy = true
  · have Hw2 := Lib.hid (Hwr.out.trans (if_pos hbz))
    rw [hbz] at c8
    clear hbz Hwr
    go_wp2_with fail
    go_end0
    exact ⟨rfl, by rw [Hw2.out]; exact HC2.out, hf2⟩
  · have Hw2 := Lib.hid (Hwr.out.trans (if_neg hbz))
    clear Hwr
    have hbz : D.busy = false := by simpa using hbz
    rw [hbz] at c8
    clear hbz
    go_upto_region 2 with (fail)
    go_region_with (first
        | (go_at_call 44; refine (sum_calls D.now D.delay n0 n1 d0 d1 _).mono ?_; rintro e w3 ⟨rfl, rfl⟩))
    all_goals
        go_wp2_with fail
        go_end0
        have hf3 : Fr [p] w2 ((((w2.setCell ⟨p, 258, none⟩ (.bool true)).setCell ⟨p, 259, none⟩ (.int .u8 v)).setCell ⟨p, 260, none⟩ (.bool b)).setCell ⟨p, 261, none⟩ (.int .u64 (after D.delay D.now))).drew := (((((Fr.refl _ _).setCell (Or.inl (by simp)) _).setCell (Or.inl (by simp)) _).setCell (Or.inl (by simp)) _).setCell (Or.inl (by simp)) _).drew
        have hC3 := H.out.put (C' := { D with busy := true, command := b, v := v, due := after D.now D.delay }) (((((H.out.blk.setHi 258 (by omega) (by omega) (.bool true) rfl).setHi 259 (by omega) (by omega) (.int .u8 v) rfl).setHi 260 (by omega) (by omega) (.bool b) rfl).setHi 261 (by omega) (by omega) (.int .u64 (after D.delay D.now)) (by rw [after_comm D.delay D.now]; rfl)).keep (S := []) (Fr.refl _ _).drew (by simp)) hf3 rfl
        exact ⟨rfl, by rw [Hw2.out]; exact hC3, hf2.trans hf3⟩
set_option maxHeartbeats 1600000 in
set_option maxRecDepth 100000 in
theorem rwriteData_calls (p : Nat) (O : List Nat) (C : Ct) (hok : C.Ok) (t : Int) (t0 : 0 ≤ t) (t1 : t < 18446744073709551616) (v : Int) (w : World) (hC : RC w p O C) :
    Calls Try.prog 21 #[.pointer (some ⟨p, 0, none⟩), .int .u64 t, .int .u8 v] w fun e w' => e = .returned (.tuple #[]) ∧ RC w' p O (writeS C t v false) ∧ Fr [p] w w' := by
  have hadv := Lib.hid (rwrite_calls p O C hok t t0 t1 v false w hC)
  clear hC
  go_enter Try.func21, Try.ntmps21
  go_wp2_with fail
  refine hadv.out.mono ?_
  rintro e w2 ⟨rfl, hC2, hf2⟩
  have HC2 := Lib.hid hC2
  clear hC2 hadv
  go_wp2_with fail
  go_end0
  exact ⟨rfl, HC2.out, hf2⟩
set_option maxHeartbeats 1600000 in
set_option maxRecDepth 100000 in
theorem rwriteCommand_calls (p : Nat) (O : List Nat) (C : Ct) (hok : C.Ok) (t : Int) (t0 : 0 ≤ t) (t1 : t < 18446744073709551616) (v : Int) (w : World) (hC : RC w p O C) :
    Calls Try.prog 23 #[.pointer (some ⟨p, 0, none⟩), .int .u64 t, .int .u8 v] w fun e w' => e = .returned (.tuple #[]) ∧ RC w' p O (writeS C t v true) ∧ Fr [p] w w' := by
  have hadv := Lib.hid (rwrite_calls p O C hok t t0 t1 v true w hC)
  clear hC
  go_enter Try.func23, Try.ntmps23
  go_wp2_with fail
  refine hadv.out.mono ?_
  rintro e w2 ⟨rfl, hC2, hf2⟩
  have HC2 := Lib.hid hC2
  clear hC2 hadv
  go_wp2_with fail
  go_end0
  exact ⟨rfl, HC2.out, hf2⟩
set_option maxHeartbeats 1600000 in
set_option maxRecDepth 100000 in
theorem rstatus_calls (p : Nat) (O : List Nat) (C : Ct) (hok : C.Ok) (t : Int) (t0 : 0 ≤ t) (t1 : t < 18446744073709551616) (w : World) (hC : RC w p O C) :
    Calls Try.prog 30 #[.pointer (some ⟨p, 0, none⟩), .int .u64 t] w fun e w' => e = .returned (.int .u8 (statusV (C.adv t))) ∧ RC w' p O (C.adv t) ∧ Fr [p] w w' := by
  have hadv := Lib.hid (radv_calls p O C hok t t0 t1 w hC)
  have hokA := adv_ok hok t0 t1
  generalize C.adv t = D at *
  have Hst : Hid (statusV D = bitS D.full 1 + bitS D.busy 2 + bitS (!D.queue.isEmpty) 32) := Lib.hid rfl
  generalize statusV D = sv at *
  clear hC
  go_enter Try.func30, Try.ntmps30
  go_wp2_with fail
  refine hadv.out.mono ?_
  rintro e w2 ⟨rfl, hC2, hf2⟩
  have HC2 := Lib.hid hC2
  obtain ⟨qv, h⟩ := hC2
  obtain ⟨a, cap, rfl⟩ := h.form
  have c0 : w2.cell? ⟨p, 258, none⟩ = some (.bool D.busy) := h.blk.cell 258 (by omega)
  have c4 : w2.cell? ⟨p, 262, none⟩ = some (.bool D.full) := h.blk.cell 262 (by omega)
  have c6 : w2.cell? ⟨p, 264, none⟩ = some (.slice a D.queue.length cap) := h.blk.cell 264 (by omega)
  have hql := hokA.ql
  clear h hadv hokA
  obtain ⟨fb, hfb⟩ : ∃ b, D.full = b := ⟨_, rfl⟩
  obtain ⟨bb, hbb⟩ : ∃ b, D.busy = b := ⟨_, rfl⟩
  rw [hfb] at c4 Hst
  rw [hbb] at c0 Hst
  have Hn : Hid (((!D.queue.isEmpty) = true ∧ 0 < D.queue.length) ∨ ((!D.queue.isEmpty) = false ∧ D.queue.length = 0)) := Lib.hid (by cases D.queue <;> simp)
  obtain ⟨n, hn⟩ : ∃ n, D.queue.length = n := ⟨_, rfl⟩
  rw [hn] at c6 hql Hn
  clear hn hfb hbb
  generalize (!D.queue.isEmpty) = nb at *
  rcases Hn.out with ⟨rfl, hpos⟩ | ⟨rfl, rfl⟩
  · cases fb <;> cases bb
    all_goals
      go_wp2_with fail
      go_ret
      exact ⟨by rw [Hst.out]; rfl, HC2.out, hf2⟩
  · cases fb <;> cases bb
    all_goals
      go_wp2_with fail
      go_ret
      exact ⟨by rw [Hst.out]; rfl, HC2.out, hf2⟩
set_option maxHeartbeats 1600000 in
set_option maxRecDepth 100000 in
theorem rreadData_calls (p : Nat) (O : List Nat) (C : Ct) (hok : C.Ok) (t : Int) (t0 : 0 ≤ t) (t1 : t < 18446744073709551616) (w : World) (hC : RC w p O C) :
    Calls Try.prog 25 #[.pointer (some ⟨p, 0, none⟩), .int .u64 t] w fun e w' => e = .returned (.int .u8 (readV (C.adv t))) ∧ RC w' p O (readS (C.adv t)) ∧ Fr [p] w w' := by
  have hadv := Lib.hid (radv_calls p O C hok t t0 t1 w hC)
  have hokA := adv_ok hok t0 t1
  generalize C.adv t = D at *
  obtain ⟨o0, o1⟩ := hokA.o
  clear hC hokA
  go_enter Try.func25, Try.ntmps25
  go_wp2_with fail
  refine hadv.out.mono ?_
  rintro e w2 ⟨rfl, hC2, hf2⟩
  obtain ⟨qv, h⟩ := hC2
  have c4 : w2.cell? ⟨p, 262, none⟩ = some (.bool D.full) := h.blk.cell 262 (by omega)
  have c5 : w2.cell? ⟨p, 263, none⟩ = some (.int .u8 D.out) := h.blk.cell 263 (by omega)
  have y4 := h.blk.frozen 262
  have H := Lib.hid h
  clear h hadv
  by_cases hfb : D.full = true
  · have Hv : Hid (readV D = D.out) := Lib.hid (by unfold readV; rw [if_pos hfb])
    rw [hfb] at c4
    clear hfb
    go_wp2_with fail
    go_ret
    have hf3 : Fr [p] w2 (w2.setCell ⟨p, 262, none⟩ (.bool false)) := (Fr.refl _ _).setCell (Or.inl (by simp)) _
    have hC3 := H.out.put (C' := readS D) (H.out.blk.setHi 262 (by omega) (by omega) _ rfl) hf3 rfl
    exact ⟨by rw [Hv.out]; rfl, hC3, hf2.trans hf3⟩
  · have hfb : D.full = false := by simpa using hfb
    have Hv : Hid (readV D = 0) := Lib.hid (by unfold readV; rw [hfb]; rfl)
    have Hr : Hid (readS D = D) := Lib.hid (by unfold readS; rw [← hfb])
    rw [hfb] at c4
    clear hfb
    go_wp2_with fail
    go_ret
    exact ⟨by rw [Hv.out]; rfl, by rw [Hr.out]; exact H.out.ok, hf2⟩
set_option maxHeartbeats 1600000 in
set_option maxRecDepth 100000 in
theorem rregister_calls (p : Nat) (O : List Nat) (C : Ct) (i : Nat) (hi : i < 256) (w : World) (hC : RC w p O C) :
    Calls Try.prog 31 #[.pointer (some ⟨p, 0, none⟩), .int .u8 (i : Int)] w fun e w' => e = .returned (.int .u8 (C.regs i)) ∧ RC w' p O C ∧ Fr [p] w w' := by
  have HC := Lib.hid hC
  obtain ⟨qv, h⟩ := hC
  have hreg := h.blk.reg i hi
  have hii : (i : Int) < 256 := by omega
  have hi0 : (0 : Int) ≤ (i : Int) := by omega
  clear h
  obtain ⟨x, hx⟩ : ∃ x, C.regs i = x := ⟨_, rfl⟩
  rw [hx] at hreg ⊢
  clear hx
  go_enter Try.func31, Try.ntmps31
  go_wp2_with fail
  go_ret
  exact ⟨rfl, HC.out, Fr.refl _ _⟩
set_option maxHeartbeats 1600000 in
set_option maxRecDepth 100000 in
theorem rsetRegister_calls (p : Nat) (O : List Nat) (C : Ct) (i : Nat) (hi : i < 256) (x : Int) (w : World) (hC : RC w p O C) :
    Calls Try.prog 28 #[.pointer (some ⟨p, 0, none⟩), .int .u8 (i : Int), .int .u8 x] w fun e w' => e = .returned (.tuple #[]) ∧ RC w' p O (setS C i x) ∧ Fr [p] w w' := by
  obtain ⟨qv, h⟩ := hC
  have hreg := h.blk.reg i hi
  have yreg := h.blk.frozen (2 + i)
  have hii : (i : Int) < 256 := by omega
  have hi0 : (0 : Int) ≤ (i : Int) := by omega
  have H := Lib.hid h
  clear h
  go_enter Try.func28, Try.ntmps28
  go_wp2_with fail
  go_end0
  have hf3 : Fr [p] w (w.setCell ⟨p, 2 + i, none⟩ (.int .u8 x)) := (Fr.refl _ _).setCell (Or.inl (by simp)) _
  exact ⟨rfl, H.out.put (C' := setS C i x) (H.out.blk.setReg i hi x) hf3 rfl, hf3⟩
end Go.Proofs.Ytbcgcbogcofbjaa.Ec
