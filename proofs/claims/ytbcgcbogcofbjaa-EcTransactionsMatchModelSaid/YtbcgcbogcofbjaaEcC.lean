import Derived.Test.YtbcgcbogcofbjaaEcB
namespace Go.Proofs.Ytbcgcbogcofbjaa.Ec
open Go.RowKit Go.Proofs.Ytbcgcbogcofbjaa.G
set_option linter.unusedVariables false
set_option linter.unusedSimpArgs false

theorem SL.nil_form {w : World} {e : TypeId} {v : Value} {o : List Nat} (h : SL w e v o (bytes [])) : ∃ a cap, v = .slice a 0 cap := by
  obtain ⟨a, cap, rfl, _⟩ := h.form
  exact ⟨a, cap, rfl⟩
theorem SL.cons_form {w : World} {e : TypeId} {v : Value} {o : List Nat} {x : Int} {xs : List Int} (h : SL w e v o (bytes (x :: xs))) : ∃ g off cap, v = .slice (some ⟨g, off, none⟩) (xs.length + 1) cap ∧ o = [g] ∧ xs.length + 1 ≤ cap ∧ cap ≤ maxLen ∧ w.cell? ⟨g, off, none⟩ = some (.int .u8 x) := by
  obtain ⟨g, off, cap, h1, h2, h3, h4⟩ := h.at (i := 0) (by simp [bytes])
  obtain ⟨_, _, h5, _, h6⟩ := h.form
  rw [h1] at h5
  injection h5 with _ _ h7
  subst h7
  refine ⟨g, off, cap, by simpa [bytes] using h1, h2, by simpa [bytes] using h3, h6, ?_⟩
  rw [Nat.add_zero] at h4
  rw [h4]; rfl
theorem SL.cons_tail {w : World} {e : TypeId} {o : List Nat} {x : Int} {xs : List Int} {g off cap : Nat} (h : SL w e (.slice (some ⟨g, off, none⟩) (xs.length + 1) cap) o (bytes (x :: xs))) (a : Option Addr) (ha : a = if cap = 1 then some ⟨g, off, none⟩ else some ⟨g, off + 1, none⟩) : SL w e (.slice a xs.length (cap - 1)) o (bytes xs) := by
  have h2 : SL w e (.slice (some ⟨g, off, none⟩) ((bytes xs).length + 1) cap) o (.int .u8 x :: bytes xs) := by rw [bytes_len]; exact h
  have := h2.tail a ha
  rwa [bytes_len] at this

theorem PCq.fresh {w w' : World} {p : Nat} {C C' : Ct} {qv av : Value} {qo ao : List Nat} (h : PCq w p C qv av qo ao) (hb : Blk w' p 66 C'.delay C'.now C'.regs (phi C' qv (.slice none 0 0))) (hf : Fr [p] w w') (hq : C'.queue = C.queue) (ha : C'.arg = none) :
    ∃ O', PC w' p O' C' ∧ Sub w (qo ++ ao) O' := by
  have hnp := h.notp
  refine ⟨qo, ⟨qv, .slice none 0 0, qo, [], by simp, hb, ?_, fun _ => by rw [ha]; exact SL.nil _ _, fun _ => rfl, fun _ _ => by simp⟩, fun x hx => .inl (List.mem_append_left _ hx)⟩
  rw [hq]
  exact h.q.keep hf (fun x hx e => by simp at e; subst e; exact hnp.1 hx)
/-- The queue's first element taken off. -/
theorem PCq.pop {w w' : World} {p : Nat} {C C' : Ct} {av : Value} {qo ao : List Nat} {x : Int} {xs : List Int} {g off cap : Nat} (h : PCq w p C (.slice (some ⟨g, off, none⟩) (xs.length + 1) cap) av qo ao) (hCq : C.queue = x :: xs) (a : Option Addr) (hea : a = if cap = 1 then some ⟨g, off, none⟩ else some ⟨g, off + 1, none⟩)
    (hb : Blk w' p 66 C'.delay C'.now C'.regs (phi C' (.slice a xs.length (cap - 1)) av)) (hf : Fr [p] w w') (hq : C'.queue = xs) (hc : C'.cmd = 129 → C.cmd = 129 ∧ C'.arg = C.arg) : ∃ O', PC w' p O' C' ∧ Sub w (qo ++ ao) O' := by
  have hnp := h.notp
  have hq1 := h.q
  rw [hCq] at hq1
  have hq2 := (SL.cons_tail hq1 a hea).keep hf (fun x hx e => by simp at e; subst e; exact hnp.1 hx)
  rw [← hq] at hq2
  by_cases e : C'.cmd = 129
  · obtain ⟨h1, h2⟩ := hc e
    refine ⟨qo ++ ao, ⟨_, av, qo, ao, rfl, hb, by rw [hq] at hq2 ⊢; exact hq2, fun _ => ?_, fun g => absurd e g, h.ap⟩, Sub.refl _ _⟩
    rw [h2]
    exact (h.a h1).keep hf (fun x hx e => by simp at e; subst e; exact hnp.2 hx)
  · exact ⟨qo, ⟨_, av, qo, [], by simp, hb, by rw [hq] at hq2 ⊢; exact hq2, fun g => absurd g e, fun _ => rfl, fun _ _ => by simp⟩, fun x hx => .inl (List.mem_append_left _ hx)⟩

set_option maxHeartbeats 1600000 in
set_option maxRecDepth 100000 in
theorem command_calls (p : Nat) (O : List Nat) (C : Ct) (hok : C.Ok) (v : Int) (v0 : 0 ≤ v) (v1 : v < 256) (w : World) (hC : PC w p O C) :
    Calls Try.prog 49 #[.pointer (some ⟨p, 0, none⟩), .int .u8 v] w fun e w' => e = .returned (.tuple #[]) ∧ (∃ O', PC w' p O' (cmdS C v) ∧ Sub w O O') ∧ Fr (p :: O) w w' := by
  obtain ⟨qv, av, qo, ao, rfl, h⟩ := hC
  have c7 : w.cell? ⟨p, 265, none⟩ = some (.int .u8 C.cmd) := h.blk.cell 265 (by omega)
  have c8 : w.cell? ⟨p, 266, none⟩ = some av := h.blk.cell 266 (by omega)
  have y7 := h.blk.frozen 265
  have y8 := h.blk.frozen 266
  have H := Lib.hid h
  clear h
  have hf : Fr [p] w ((w.setCell ⟨p, 265, none⟩ (.int .u8 0)).setCell ⟨p, 266, none⟩ (.slice none 0 0)) := ((Fr.refl _ _).setCell (Or.inl (by simp)) _).setCell (Or.inl (by simp)) _
  have HF := Lib.hid hf
  clear hf
  by_cases h12 : v = 128 ∨ v = 129
  · have hc : cmdS C v = { C with cmd := v, arg := none } := by unfold cmdS; rw [if_pos h12]
    rw [hc]
    have hfin : Hid (Fr [p] w (((w.setCell ⟨p, 265, none⟩ (.int .u8 0)).setCell ⟨p, 266, none⟩ (.slice none 0 0)).setCell ⟨p, 265, none⟩ (.int .u8 v)) → (∃ O', PC (((w.setCell ⟨p, 265, none⟩ (.int .u8 0)).setCell ⟨p, 266, none⟩ (.slice none 0 0)).setCell ⟨p, 265, none⟩ (.int .u8 v)) p O' { C with cmd := v, arg := none } ∧ Sub w (qo ++ ao) O')) := fun hf2 =>
      H.out.fresh (C' := { C with cmd := v, arg := none }) (((H.out.blk.setHi 265 (by omega) (by omega) _ rfl).setHi 266 (by omega) (by omega) _ rfl).setHi 265 (by omega) (by omega) _ rfl) hf2 rfl rfl
    have hf2 : Fr [p] w (((w.setCell ⟨p, 265, none⟩ (.int .u8 0)).setCell ⟨p, 266, none⟩ (.slice none 0 0)).setCell ⟨p, 265, none⟩ (.int .u8 v)) := HF.out.setCell (Or.inl (by simp)) _
    have HF2 := Lib.hid hf2
    clear hf2 hc
    rcases h12 with rfl | rfl
    · go_enter Try.func49, Try.ntmps49
      go_wp2_with fail
      go_end0
      exact ⟨rfl, hfin.out HF2.out, fr1 HF2.out⟩
    · go_enter Try.func49, Try.ntmps49
      go_wp2_with fail
      go_end0
      exact ⟨rfl, hfin.out HF2.out, fr1 HF2.out⟩
  · have hb1 : (v == 128) = false := by simp; omega
    have hb2 : (v == 129) = false := by simp; omega
    have hC1 := H.out.fresh (C' := { C with cmd := 0, arg := none }) ((H.out.blk.setHi 265 (by omega) (by omega) _ rfl).setHi 266 (by omega) (by omega) _ rfl) HF.out rfl rfl
    have hqv : w.cell? ⟨p, 264, none⟩ = some qv := H.out.blk.cell 264 (by omega)
    have hq := H.out.q
    have HC1 := Lib.hid hC1
    clear hC1
    by_cases h3 : v = 132
    · subst h3
      have hc : cmdS C 132 = { C with cmd := 0, arg := none, full := true, out := C.queue.headD 0, queue := C.queue.tail } := rfl
      rw [hc]
      clear hc
      cases hqq : C.queue with
      | nil =>
        rw [hqq] at hq
        obtain ⟨a, cap, rfl⟩ := SL.nil_form hq
        have Hqq := Lib.hid hqq
        clear hq hqq
        go_enter Try.func49, Try.ntmps49
        go_wp2_with fail
        obtain ⟨O1, hC1, hs1⟩ := HC1.out
        generalize (w.setCell ⟨p, 265, none⟩ (.int .u8 0)).setCell ⟨p, 266, none⟩ (.slice none 0 0) = W at *
        refine (output_calls p O1 _ 0 W hC1).mono ?_
        rintro e w2 ⟨rfl, ⟨O2, hC2, hs2⟩, hf2⟩
        have hF2 := HF.out.trans hf2
        have hS2 := hs1.trans hs2 HF.out.size
        have Hfin : Hid (∃ O', PC w2 p O' { C with cmd := 0, arg := none, full := true, out := ([] : List Int).headD 0, queue := ([] : List Int).tail } ∧ Sub w (qo ++ ao) O') := Lib.hid ⟨O2, by rw [show ({ C with cmd := 0, arg := none, full := true, out := ([] : List Int).headD 0, queue := ([] : List Int).tail } : Ct) = outS { C with cmd := 0, arg := none } 0 by unfold outS; rw [← Hqq.out]; simp [Hqq.out]]; exact hC2, hS2⟩
        clear hC2 hs2 hf2 hC1 hs1 hS2 c7 c8 y7 y8 hqv
        go_wp2_with fail
        refine bodyPost_ret (results_none rfl _ _ _) rfl ?_
        exact ⟨rfl, Hfin.out, fr1 hF2⟩
      | cons x xs =>
        rw [hqq] at hq
        obtain ⟨g, off, cap, rfl, rfl, hcl, hcm, hx⟩ := SL.cons_form hq
        have hqg : p ≠ g := fun e => by have := H.out.notp.1; simp at this; exact this e
        have hxb : Byte x := hok.q x (by rw [hqq]; simp)
        have Hqq := Lib.hid hqq
        have hl17 : xs.length + 1 ≤ 16 := by have := hok.ql; rw [hqq] at this; simpa using this
        clear hq hqq
        go_enter Try.func49, Try.ntmps49
        go_wp2_with fail
        obtain ⟨O1, hC1, hs1⟩ := HC1.out
        generalize (w.setCell ⟨p, 265, none⟩ (.int .u8 0)).setCell ⟨p, 266, none⟩ (.slice none 0 0) = W at *
        refine (output_calls p O1 _ x W hC1).mono ?_
        rintro e w2 ⟨rfl, ⟨O2, hC2, hs2⟩, hf2⟩
        have hF2 := HF.out.trans hf2
        have hS2 := hs1.trans hs2 HF.out.size
        obtain ⟨qv2, av2, qo2, ao2, rfl, h2⟩ := hC2
        have hQ : (outS { C with cmd := 0, arg := none } x).queue = x :: xs := Hqq.out
        have hq2 := h2.q
        rw [hQ] at hq2
        obtain ⟨g2, off2, cap2, rfl, rfl, hcl2, hcm2, hx2⟩ := SL.cons_form hq2
        have c6 : w2.cell? ⟨p, 264, none⟩ = some (.slice (some ⟨g2, off2, none⟩) (xs.length + 1) cap2) := h2.blk.cell 264 (by omega)
        have y6 := h2.blk.frozen 264
        have H2 := Lib.hid h2
        have HQ := Lib.hid hQ
        clear h2 hQ hq2 hs2 hf2 hC1 hs1 c7 c8 y7 y8 hqv hx hcl hcm hqg
        unfold maxLen at hcm2
        by_cases hc1 : cap2 = 1
        · subst hc1
          obtain rfl : xs = [] := List.eq_nil_of_length_eq_zero (by omega)
          go_wp2_with fail
          go_end0
          have hf3 : Fr [p] w2 (w2.setCell ⟨p, 264, none⟩ (.slice (some ⟨g2, off2, none⟩) 0 0)) := (Fr.refl _ _).setCell (Or.inl (by simp)) _
          obtain ⟨O3, hC3, hs3⟩ := H2.out.pop (C' := { C with cmd := 0, arg := none, full := true, out := x, queue := [] }) HQ.out (some ⟨g2, off2, none⟩) (by simp) (H2.out.blk.setHi 264 (by omega) (by omega) _ rfl) hf3 rfl (fun e => absurd e (by show ¬ (0 : Int) = 129; omega))
          exact ⟨rfl, ⟨O3, hC3, hS2.trans hs3 hF2.size⟩, fr1 (hF2.trans hf3)⟩
        · go_wp2_with fail
          go_end0
          have hf3 : Fr [p] w2 (w2.setCell ⟨p, 264, none⟩ (.slice (some ⟨g2, off2 + 1, none⟩) xs.length (cap2 - 1))) := (Fr.refl _ _).setCell (Or.inl (by simp)) _
          obtain ⟨O3, hC3, hs3⟩ := H2.out.pop (C' := { C with cmd := 0, arg := none, full := true, out := x, queue := xs }) HQ.out (some ⟨g2, off2 + 1, none⟩) (by simp [hc1]) (H2.out.blk.setHi 264 (by omega) (by omega) _ rfl) hf3 rfl (fun e => absurd e (by show ¬ (0 : Int) = 129; omega))
          exact ⟨rfl, ⟨O3, hC3, hS2.trans hs3 hF2.size⟩, fr1 (hF2.trans hf3)⟩
    · have hb3 : (v == 132) = false := by simp; omega
      have hc : cmdS C v = { C with cmd := 0, arg := none } := by unfold cmdS; rw [if_neg h12, if_neg h3]
      rw [hc]
      clear hc hqv hq
      go_enter Try.func49, Try.ntmps49
      go_wp2_with fail
      go_end0
      exact ⟨rfl, HC1.out, fr1 HF.out⟩
end Go.Proofs.Ytbcgcbogcofbjaa.Ec
