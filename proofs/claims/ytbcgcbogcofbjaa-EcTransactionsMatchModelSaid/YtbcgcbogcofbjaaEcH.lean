import Derived.Test.YtbcgcbogcofbjaaEcF
import Derived.BigRegion
namespace Go.Proofs.Ytbcgcbogcofbjaa.Ec
open Go.RowKit Go.Proofs.Ytbcgcbogcofbjaa.G
set_option linter.unusedVariables false
set_option linter.unusedSimpArgs false
attribute [local go_sem ↓] Go.wp_at_zero Go.wp_at_succ

set_option maxHeartbeats 1600000 in
set_option maxRecDepth 100000 in
theorem write_calls (p : Nat) (O : List Nat) (C : Ct) (hok : C.Ok) (t : Int) (t0 : 0 ≤ t) (t1 : t < 18446744073709551616) (v : Int) (b : Bool) (w : World) (hC : PC w p O C) :
    Calls Try.prog 39 #[.pointer (some ⟨p, 0, none⟩), .int .u64 t, .int .u8 v, .bool b] w fun e w' => e = .returned (.tuple #[]) ∧ (∃ O', PC w' p O' (writeS C t v b) ∧ Sub w O O') ∧ Fr (p :: O) w w' := by
  have hadv := Lib.hid (advance_calls p O C hok t t0 t1 w hC)
  have hokA := adv_ok hok t0 t1
  have hwr : writeS C t v b = if (C.adv t).busy = true then C.adv t else { C.adv t with busy := true, command := b, v := v, due := after (C.adv t).now C.delay } := rfl
  have hdl : (C.adv t).delay = C.delay := by
    unfold Ct.adv; split
    · unfold effS
      split
      · unfold cmdS; split
        · rfl
        · split <;> rfl
      · split
        · rfl
        · split
          · unfold argS; split <;> rfl
          · rfl
    · rfl
  rw [← hdl] at hwr
  have Hwr := Lib.hid hwr
  clear hwr hdl
  generalize C.adv t = D at *
  clear hC
  go_enter Try.func39, Try.ntmps39
  go_wp2_with fail
  refine hadv.out.mono ?_
  rintro e w2 ⟨rfl, ⟨O2, hC2, hs2⟩, hf2⟩
  have HC2 := Lib.hid hC2
  obtain ⟨qv, av, qo, ao, rfl, h⟩ := hC2
  have c8 : w2.cell? ⟨p, 258, none⟩ = some (.bool D.busy) := h.blk.cell 258 (by omega)
  have c9 : w2.cell? ⟨p, 259, none⟩ = some (.bool D.command) := h.blk.cell 259 (by omega)
  have ca : w2.cell? ⟨p, 260, none⟩ = some (.int .u8 D.v) := h.blk.cell 260 (by omega)
  have cb : w2.cell? ⟨p, 261, none⟩ = some (.int .u64 D.due) := h.blk.cell 261 (by omega)
  have c1 : w2.cell? ⟨p, 1, none⟩ = some (.int .u64 D.now) := h.blk.cell 1 (by omega)
  have c0 : w2.cell? ⟨p, 0, none⟩ = some (.int .u64 D.delay) := h.blk.cell 0 (by omega)
  have y8 := h.blk.frozen 258
  have y9 := h.blk.frozen 259
  have ya := h.blk.frozen 260
  have yb := h.blk.frozen 261
  have n0 := hokA.n0
  have n1 := hokA.n1
  have d0 := hokA.d0
  have d1 := hokA.d1
  have H := Lib.hid h
  clear h hadv hokA
  by_cases hbz : D.busy = true
  · have Hw2 := Lib.hid (Hwr.out.trans (if_pos hbz))
    rw [hbz] at c8
    clear hbz Hwr
    go_wp2_with fail
    go_end0
    exact ⟨rfl, ⟨_, by rw [Hw2.out]; exact HC2.out, hs2⟩, hf2⟩
  · have Hw2 := Lib.hid (Hwr.out.trans (if_neg hbz))
    clear Hwr
    have hbz : D.busy = false := by simpa using hbz
    rw [hbz] at c8
    clear hbz
    go_upto_region 2 with (fail)
    go_region_with (first
        | (go_at_call 37; refine (after_calls D.now D.delay n0 n1 d0 d1 _).mono ?_; rintro e w3 ⟨rfl, rfl⟩))
    all_goals
        go_wp2_with fail
        go_end0
        have hf3 : Fr [p] w2 ((((w2.setCell ⟨p, 258, none⟩ (.bool true)).setCell ⟨p, 259, none⟩ (.bool b)).setCell ⟨p, 260, none⟩ (.int .u8 v)).setCell ⟨p, 261, none⟩ (.int .u64 (after D.now D.delay))).drew := (((((Fr.refl _ _).setCell (Or.inl (by simp)) _).setCell (Or.inl (by simp)) _).setCell (Or.inl (by simp)) _).setCell (Or.inl (by simp)) _).drew
        obtain ⟨O3, hC3, hs3⟩ := H.out.put (C' := { D with busy := true, command := b, v := v, due := after D.now D.delay }) (((((H.out.blk.setHi 258 (by omega) (by omega) (.bool true) rfl).setHi 259 (by omega) (by omega) (.bool b) rfl).setHi 260 (by omega) (by omega) (.int .u8 v) rfl).setHi 261 (by omega) (by omega) (.int .u64 (after D.now D.delay)) rfl).keep (S := []) (Fr.refl _ _).drew (by simp)) hf3 rfl (fun e => ⟨e, rfl⟩)
        exact ⟨rfl, ⟨O3, by rw [Hw2.out]; exact hC3, hs2.trans hs3 hf2.size⟩, Fr.step hf2 hs2 (fr1 hf3)⟩
set_option maxHeartbeats 1600000 in
set_option maxRecDepth 100000 in
theorem writeData_calls (p : Nat) (O : List Nat) (C : Ct) (hok : C.Ok) (t : Int) (t0 : 0 ≤ t) (t1 : t < 18446744073709551616) (v : Int) (w : World) (hC : PC w p O C) :
    Calls Try.prog 19 #[.pointer (some ⟨p, 0, none⟩), .int .u64 t, .int .u8 v] w fun e w' => e = .returned (.tuple #[]) ∧ (∃ O', PC w' p O' (writeS C t v false) ∧ Sub w O O') ∧ Fr (p :: O) w w' := by
  have hadv := Lib.hid (write_calls p O C hok t t0 t1 v false w hC)
  clear hC
  go_enter Try.func19, Try.ntmps19
  go_wp2_with fail
  refine hadv.out.mono ?_
  rintro e w2 ⟨rfl, hC2, hf2⟩
  have HC2 := Lib.hid hC2
  clear hC2 hadv
  go_wp2_with fail
  go_end0
  exact ⟨rfl, HC2.out, hf2⟩
set_option maxHeartbeats 1600000 in
set_option maxRecDepth 100000 in
theorem writeCommand_calls (p : Nat) (O : List Nat) (C : Ct) (hok : C.Ok) (t : Int) (t0 : 0 ≤ t) (t1 : t < 18446744073709551616) (v : Int) (w : World) (hC : PC w p O C) :
    Calls Try.prog 22 #[.pointer (some ⟨p, 0, none⟩), .int .u64 t, .int .u8 v] w fun e w' => e = .returned (.tuple #[]) ∧ (∃ O', PC w' p O' (writeS C t v true) ∧ Sub w O O') ∧ Fr (p :: O) w w' := by
  have hadv := Lib.hid (write_calls p O C hok t t0 t1 v true w hC)
  clear hC
  go_enter Try.func22, Try.ntmps22
  go_wp2_with fail
  refine hadv.out.mono ?_
  rintro e w2 ⟨rfl, hC2, hf2⟩
  have HC2 := Lib.hid hC2
  clear hC2 hadv
  go_wp2_with fail
  go_end0
  exact ⟨rfl, HC2.out, hf2⟩
end Go.Proofs.Ytbcgcbogcofbjaa.Ec
