import Derived.Test.YtbcgcbogcofbjaaEcC
namespace Go.Proofs.Ytbcgcbogcofbjaa.Ec
open Go.RowKit Go.Proofs.Ytbcgcbogcofbjaa.G
set_option linter.unusedVariables false
set_option linter.unusedSimpArgs false
attribute [local go_sem ↓] Go.wp_at_zero Go.wp_at_succ

theorem RCq.pop {w w' : World} {p : Nat} {C C' : Ct} {O : List Nat} {x : Int} {xs : List Int} {g off cap : Nat} (h : RCq w p C (.slice (some ⟨g, off, none⟩) (xs.length + 1) cap) O) (hCq : C.queue = x :: xs) (a : Option Addr) (hea : a = if cap = 1 then some ⟨g, off, none⟩ else some ⟨g, off + 1, none⟩)
    (hb : Blk w' p 72 C'.delay C'.now C'.regs (rhi C' (.slice a xs.length (cap - 1)))) (hf : Fr [p] w w') (hq : C'.queue = xs) : RC w' p O C' := by
  have hnp := h.notp
  have hq1 := h.q
  rw [hCq] at hq1
  have hq2 := (SL.cons_tail hq1 a hea).keep hf (fun x hx e => by simp at e; subst e; exact hnp hx)
  rw [← hq] at hq2
  exact ⟨_, hb, by rw [hq] at hq2 ⊢; exact hq2⟩

theorem RCq.putq {w w' : World} {p : Nat} {C C' : Ct} {qv : Value} {O : List Nat} (h : RCq w p C qv O) (hb : Blk w' p 72 C'.delay C'.now C'.regs (rhi C' qv)) (hf : Fr [p] w w') (hq : C'.queue = C.queue) : RCq w' p C' qv O := by
  refine ⟨hb, ?_⟩
  rw [hq]
  have hnp := h.notp
  exact h.q.keep hf (fun x hx e => by simp at e; subst e; exact hnp hx)
set_option maxHeartbeats 1600000 in
set_option maxRecDepth 100000 in
theorem rstart_calls (p : Nat) (O : List Nat) (C : Ct) (hok : C.Ok) (w : World) (hC : RC w p O C) :
    Calls Try.prog 46 #[.pointer (some ⟨p, 0, none⟩)] w fun e w' => e = .returned (.tuple #[]) ∧ RC w' p O (cmdS C C.v) ∧ Fr [p] w w' := by
  obtain ⟨qv, h⟩ := hC
  have c4 : w.cell? ⟨p, 259, none⟩ = some (.int .u8 C.v) := h.blk.cell 259 (by omega)
  have c7 : w.cell? ⟨p, 265, none⟩ = some (.int .u8 C.cmd) := h.blk.cell 265 (by omega)
  have c8 : w.cell? ⟨p, 266, none⟩ = some (.int .i64 (addrV C.arg)) := h.blk.cell 266 (by omega)
  have y7 := h.blk.frozen 265
  have y8 := h.blk.frozen 266
  have H := Lib.hid h
  have hvb := hok.v
  have hf : Fr [p] w ((w.setCell ⟨p, 265, none⟩ (.int .u8 0)).setCell ⟨p, 266, none⟩ (.int .i64 (-1))) := ((Fr.refl _ _).setCell (Or.inl (by simp)) _).setCell (Or.inl (by simp)) _
  have HF := Lib.hid hf
  clear h hf
  obtain ⟨v0, v1⟩ := hvb
  obtain ⟨v, hv⟩ : ∃ v, C.v = v := ⟨_, rfl⟩
  rw [hv] at c4 v0 v1 ⊢
  have Hv := Lib.hid hv
  clear hv
  by_cases h12 : v = 128 ∨ v = 129
  · have hc : cmdS C v = { C with cmd := v, arg := none } := by unfold cmdS; rw [if_pos h12]
    rw [hc]
    have hf2 : Fr [p] w (((w.setCell ⟨p, 265, none⟩ (.int .u8 0)).setCell ⟨p, 266, none⟩ (.int .i64 (-1))).setCell ⟨p, 265, none⟩ (.int .u8 v)) := HF.out.setCell (Or.inl (by simp)) _
    have hfin := H.out.put (C' := { C with cmd := v, arg := none }) (((H.out.blk.setHi 265 (by omega) (by omega) _ rfl).setHi 266 (by omega) (by omega) _ rfl).setHi 265 (by omega) (by omega) _ rfl) hf2 rfl
    have HF2 := Lib.hid hf2
    have Hfin := Lib.hid hfin
    clear hf2 hc hfin
    rcases h12 with rfl | rfl
    · go_enter Try.func46, Try.ntmps46
      go_wp2_with fail
      go_end0
      exact ⟨rfl, Hfin.out, HF2.out⟩
    · go_enter Try.func46, Try.ntmps46
      go_wp2_with fail
      go_end0
      exact ⟨rfl, Hfin.out, HF2.out⟩
  · have hb1 : (v == 128) = false := by simp; omega
    have hb2 : (v == 129) = false := by simp; omega
    have hB1 := (H.out.blk.setHi 265 (by omega) (by omega) (.int .u8 0) rfl).setHi 266 (by omega) (by omega) (.int .i64 (-1)) rfl
    have hC1 := H.out.put (C' := { C with cmd := 0, arg := none }) hB1 HF.out rfl
    have hqv : w.cell? ⟨p, 264, none⟩ = some qv := H.out.blk.cell 264 (by omega)
    have hq := H.out.q
    have HC1 := Lib.hid hC1
    have HB1 := Lib.hid hB1
    clear hC1 hB1
    by_cases h3 : v = 132
    · subst h3
      have hc : cmdS C 132 = { C with cmd := 0, arg := none, full := true, out := C.queue.headD 0, queue := C.queue.tail } := rfl
      rw [hc]
      clear hc
      cases hqq : C.queue with
      | nil =>
        rw [hqq] at hq
        obtain ⟨a, cap, rfl⟩ := SL.nil_form hq
        have Hqq := Lib.hid hqq
        clear hq hqq
        go_enter Try.func46, Try.ntmps46
        go_wp2_with fail
        refine (put_calls p O _ 0 _ HC1.out).mono ?_
        rintro e w2 ⟨rfl, hC2, hf2⟩
        have hF2 := HF.out.trans hf2
        have Hfin : Hid (RC w2 p O { C with cmd := 0, arg := none, full := true, out := ([] : List Int).headD 0, queue := ([] : List Int).tail }) := Lib.hid (by rw [show ({ C with cmd := 0, arg := none, full := true, out := ([] : List Int).headD 0, queue := ([] : List Int).tail } : Ct) = outS { C with cmd := 0, arg := none } 0 by unfold outS; rw [← Hqq.out]; simp [Hqq.out]]; exact hC2)
        clear hC2 hf2 c7 c8 y7 y8 hqv
        go_wp2_with fail
        go_end0
        exact ⟨rfl, Hfin.out, hF2⟩
      | cons x xs =>
        rw [hqq] at hq
        obtain ⟨g, off, cap, rfl, rfl, hcl, hcm, hx⟩ := SL.cons_form hq
        have hqg : p ≠ g := fun e => by have := H.out.notp; simp at this; exact this e
        have Hqq := Lib.hid hqq
        have hl17 : xs.length + 1 ≤ 16 := by have := hok.ql; rw [hqq] at this; simpa using this
        unfold maxLen at hcm
        clear hq hqq
        go_enter Try.func46, Try.ntmps46
        go_upto_region 8 with (fail)
        have hC1q := H.out.putq (C' := { C with cmd := 0, arg := none }) HB1.out HF.out rfl
        have hx1 : ((w.setCell ⟨p, 265, none⟩ (.int .u8 0)).setCell ⟨p, 266, none⟩ (.int .i64 (-1))).cell? ⟨g, off, none⟩ = some (.int .u8 x) := by
          obtain ⟨cs, hcs⟩ := H.out.q.typed (x := g) (by simp)
          rw [HF.out.cell (lt_of_heap hcs) (by simp; exact fun e => hqg e.symm)]; exact hx
        clear hx hqv c4 c7 c8 y7 y8 HB1 HC1
        generalize (w.setCell ⟨p, 265, none⟩ (.int .u8 0)).setCell ⟨p, 266, none⟩ (.int .i64 (-1)) = W at *
        have c6 : W.cell? ⟨p, 264, none⟩ = some (.slice (some ⟨g, off, none⟩) (xs.length + 1) cap) := hC1q.blk.cell 264 (by omega)
        have y6 := hC1q.blk.frozen 264
        have hk1 : (1 : Int) ≤ (xs.length : Int) + 1 := by omega
        have hk2 : (xs.length : Int) + 1 ≤ (cap : Int) := by omega
        have hk3 : (0 : Int) < (xs.length : Int) + 1 := by omega
        have HQ1 := Lib.hid hC1q
        clear hC1q
        have hne : p ≠ g ∧ g ≠ p := ⟨hqg, fun e => hqg e.symm⟩
        by_cases hc1 : cap = 1
        · subst hc1
          obtain rfl : xs = [] := List.eq_nil_of_length_eq_zero (by omega)
          go_still_tail 15, (by kernel_rfl)
          change wpList _ _ _ _ _ W.drew
          have c6' : W.drew.cell? ⟨p, 264, none⟩ = some (.slice (some ⟨g, off, none⟩) (([] : List Int).length + 1) 1) := c6
          go_wp2_with fail
          refine (put_calls p [g] { C with cmd := 0, arg := none, queue := [] } x _ ((HQ1.out.pop (C' := { C with cmd := 0, arg := none, queue := [] }) Hqq.out (some ⟨g, off, none⟩) (by simp) (HQ1.out.blk.setHi 264 (by omega) (by omega) _ rfl) ((Fr.refl _ _).setCell (Or.inl (by simp)) _) rfl).keep (S := []) ((Fr.refl _ _).drew) (by simp) (by simp))).mono ?_
          rintro e w2 ⟨rfl, hC2, hf2⟩
          have hF2 : Fr [p] w w2 := HF.out.trans (((Fr.refl [p] W).setCell (Or.inl (by simp)) _).trans hf2.undrew)
          clear hf2 c6 c6' y6 hx1
          go_wp2_with fail
          go_end0
          exact ⟨rfl, hC2, hF2⟩
        · go_still_tail 15, (by kernel_rfl)
          change wpList _ _ _ _ _ W.drew
          have c6' : W.drew.cell? ⟨p, 264, none⟩ = some (.slice (some ⟨g, off, none⟩) (xs.length + 1) cap) := c6
          go_wp2_with fail
          refine (put_calls p [g] { C with cmd := 0, arg := none, queue := xs } x _ ((HQ1.out.pop (C' := { C with cmd := 0, arg := none, queue := xs }) Hqq.out (some ⟨g, off + 1, none⟩) (by simp [hc1]) (HQ1.out.blk.setHi 264 (by omega) (by omega) _ rfl) ((Fr.refl _ _).setCell (Or.inl (by simp)) _) rfl).keep (S := []) ((Fr.refl _ _).drew) (by simp) (by simp))).mono ?_
          rintro e w2 ⟨rfl, hC2, hf2⟩
          have hF2 : Fr [p] w w2 := HF.out.trans (((Fr.refl [p] W).setCell (Or.inl (by simp)) _).trans hf2.undrew)
          clear hf2 c6 c6' y6 hx1
          go_wp2_with fail
          go_end0
          exact ⟨rfl, hC2, hF2⟩
    · have hb3 : (v == 132) = false := by simp; omega
      have hc : cmdS C v = { C with cmd := 0, arg := none } := by unfold cmdS; rw [if_neg h12, if_neg h3]
      rw [hc]
      clear hc hqv hq
      go_enter Try.func46, Try.ntmps46
      go_wp2_with fail
      go_end0
      exact ⟨rfl, HC1.out, HF.out⟩
end Go.Proofs.Ytbcgcbogcofbjaa.Ec
