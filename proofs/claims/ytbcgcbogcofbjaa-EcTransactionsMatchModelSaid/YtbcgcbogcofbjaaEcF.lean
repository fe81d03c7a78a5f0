import Derived.Test.YtbcgcbogcofbjaaEcE
import Derived.BigQuiet
import Derived.Deep.QuietTactic
namespace Go.Proofs.Ytbcgcbogcofbjaa.Ec
open Go.RowKit Go.Proofs.Ytbcgcbogcofbjaa.G
set_option linter.unusedVariables false
set_option linter.unusedSimpArgs false
attribute [local go_sem ↓] Go.wp_at_zero Go.wp_at_succ

theorem PCq.ok {w : World} {p : Nat} {C : Ct} {qv av : Value} {qo ao : List Nat} (h : PCq w p C qv av qo ao) : PC w p (qo ++ ao) C := ⟨qv, av, qo, ao, rfl, h⟩
theorem PC.drew {w : World} {p : Nat} {O : List Nat} {C : Ct} (h : PC w p O C) : PC w.drew p O C := h.keep (S := []) ((Fr.refl _ _).drew) (by simp) (by simp)
theorem RC.drew {w : World} {p : Nat} {O : List Nat} {C : Ct} (h : RC w p O C) : RC w.drew p O C := h.keep (S := []) ((Fr.refl _ _).drew) (by simp) (by simp)

set_option maxHeartbeats 1600000 in
set_option maxRecDepth 100000 in
theorem advance_calls (p : Nat) (O : List Nat) (C : Ct) (hok : C.Ok) (t : Int) (t0 : 0 ≤ t) (t1 : t < 18446744073709551616) (w : World) (hC : PC w p O C) :
    Calls Try.prog 41 #[.pointer (some ⟨p, 0, none⟩), .int .u64 t] w fun e w' => e = .returned (.tuple #[]) ∧ (∃ O', PC w' p O' (C.adv t) ∧ Sub w O O') ∧ Fr (p :: O) w w' := by
  obtain ⟨qv, av, qo, ao, rfl, h⟩ := hC
  have c1 : w.cell? ⟨p, 1, none⟩ = some (.int .u64 C.now) := h.blk.cell 1 (by omega)
  have c8 : w.cell? ⟨p, 258, none⟩ = some (.bool C.busy) := h.blk.cell 258 (by omega)
  have ca : w.cell? ⟨p, 261, none⟩ = some (.int .u64 C.due) := h.blk.cell 261 (by omega)
  have y1 := h.blk.frozen 1
  have y8 := h.blk.frozen 258
  have H := Lib.hid h
  have n0 := hok.n0
  have n1 := hok.n1
  have td0 := hok.t0
  have td1 := hok.t1
  clear h
  go_enter Try.func41, Try.ntmps41
  go_upto_region 1 with (fail)
  have hmx : (if C.now < t then t else C.now) = max C.now t := by split <;> omega
  rw [hmx]
  have hb1 := H.out.blk.setNow (max C.now t)
  have hf1 : Fr [p] w (w.setCell ⟨p, 1, none⟩ (.int .u64 (max C.now t))) := (Fr.refl _ _).setCell (Or.inl (by simp)) _
  obtain ⟨O1, hC1, hs1⟩ := H.out.put (C' := nowS C t) hb1 hf1 rfl (fun e => ⟨e, rfl⟩)
  have hok1 := now_ok hok t0 t1
  have hadv : C.adv t = if C.busy = true ∧ C.due ≤ max C.now t then effS { nowS C t with busy := false } else nowS C t := rfl
  have Hadv := Lib.hid hadv
  have hm0 : 0 ≤ max C.now t := by omega
  have hm1 : max C.now t < 18446744073709551616 := by omega
  have hcn : (nowS C t).now = max C.now t := rfl
  have Hcn := Lib.hid hcn
  clear hmx hb1 c1 c8 ca y1 y8 hadv hcn
  generalize w.setCell ⟨p, 1, none⟩ (.int .u64 (max C.now t)) = W at *
  generalize max C.now t = m at *
  obtain ⟨qv1, av1, qo1, ao1, rfl, h1⟩ := hC1
  have c1 : W.cell? ⟨p, 1, none⟩ = some (.int .u64 m) := by rw [← Hcn.out]; exact h1.blk.cell 1 (by omega)
  have c8 : W.cell? ⟨p, 258, none⟩ = some (.bool C.busy) := h1.blk.cell 258 (by omega)
  have ca : W.cell? ⟨p, 261, none⟩ = some (.int .u64 C.due) := h1.blk.cell 261 (by omega)
  have y8 := h1.blk.frozen 258
  have H1 := Lib.hid h1
  clear h1
  by_cases hbz : C.busy = true
  · rw [hbz] at c8
    by_cases hdu : C.due ≤ m
    · have hd : decide (C.due ≤ m) = true := decide_eq_true hdu
      have hA : C.adv t = effS { nowS C t with busy := false } := by rw [Hadv.out, if_pos ⟨hbz, hdu⟩]
      have HA := Lib.hid hA
      clear hA hbz
      go_quiet (fail)
      go_wp2_with fail
      have hbW : Blk (W.drewN nq) p 66 C.delay (nowS C t).now C.regs (phi (nowS C t) qv1 av1) := H1.out.blk.keep (S := []) (Fr.drewN (Fr.refl _ _) _) (by simp)
      have hfW : Fr [p] W ((W.drewN nq).setCell ⟨p, 258, none⟩ (.bool false)) := (Fr.drewN (Fr.refl _ _) _).setCell (Or.inl (by simp)) _
      obtain ⟨O2, hC2, hs2⟩ := H1.out.put (C' := { nowS C t with busy := false }) (hbW.setHi 258 (by omega) (by omega) (.bool false) rfl) hfW rfl (fun e => ⟨e, rfl⟩)
      refine (effect_calls p O2 _ (busy_ok hok1 false) _ hC2).mono ?_
      rintro e w2 ⟨rfl, ⟨O3, hC3, hs3⟩, hf3⟩
      have hf4 : Fr (p :: (qo ++ ao)) w w2 := Fr.step (fr1 hf1) hs1 (Fr.step (fr1 hfW) hs2 hf3)
      have hs4 : Sub w (qo ++ ao) O3 := Sub.trans hs1 (Sub.trans hs2 hs3 hfW.size) hf1.size
      have HC3 := Lib.hid hC3
      have Hs4 := Lib.hid hs4
      clear hC3 hs4 hC2 hs2 hs3 hf3 hbW hfW c1 c8 ca y8 H1
      go_wp2_with fail
      go_end0
      refine ⟨rfl, ⟨O3, ?_, Hs4.out⟩, hf4⟩
      rw [HA.out]; exact HC3.out
    · have hd : decide (C.due ≤ m) = false := decide_eq_false hdu
      have hA : C.adv t = nowS C t := by rw [Hadv.out, if_neg (fun h => hdu h.2)]
      have HA := Lib.hid hA
      clear hA hbz
      go_quiet (fail)
      go_wp2_with fail
      go_end0
      refine ⟨rfl, ⟨_, ?_, hs1⟩, (fr1 hf1).trans (Fr.drewN (Fr.refl _ _) _)⟩
      rw [HA.out]
      exact (H1.out.ok).keep (S := []) (Fr.drewN (Fr.refl _ _) _) (by simp) (by simp)
  · have hbz : C.busy = false := by simpa using hbz
    rw [hbz] at c8
    have hA : C.adv t = nowS C t := by rw [Hadv.out, if_neg (fun h => by rw [hbz] at h; exact absurd h.1 (by decide))]
    have HA := Lib.hid hA
    clear hA hbz
    go_quiet (fail)
    go_wp2_with fail
    go_end0
    refine ⟨rfl, ⟨_, ?_, hs1⟩, (fr1 hf1).trans (Fr.drewN (Fr.refl _ _) _)⟩
    rw [HA.out]
    exact (H1.out.ok).keep (S := []) (Fr.drewN (Fr.refl _ _) _) (by simp) (by simp)
end Go.Proofs.Ytbcgcbogcofbjaa.Ec
