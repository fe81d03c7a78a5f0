import Derived.Test.YtbcgcbogcofbjaaEcA
namespace Go.Proofs.Ytbcgcbogcofbjaa.Ec
open Go.RowKit Go.Proofs.Ytbcgcbogcofbjaa.G
set_option linter.unusedVariables false
set_option linter.unusedSimpArgs false

set_option maxHeartbeats 400000 in
theorem after_calls (t n : Int) (t0 : 0 ≤ t) (t1 : t < 18446744073709551616) (n0 : 0 ≤ n) (n1 : n < 18446744073709551616) (w : World) :
    Calls Try.prog 37 #[.int .u64 t, .int .u64 n] w fun e w' => e = .returned (.int .u64 (after t n)) ∧ w' = w := by
  unfold after
  by_cases h : 18446744073709551615 - t < n
  · rw [if_pos h]
    go_enter Try.func37, Try.ntmps37
    go_wp2_with fail
    go_ret
    exact ⟨rfl, rfl⟩
  · rw [if_neg h]
    go_enter Try.func37, Try.ntmps37
    go_wp2_with fail
    go_ret
    exact ⟨rfl, rfl⟩
set_option maxHeartbeats 400000 in
theorem sum_calls (t n : Int) (t0 : 0 ≤ t) (t1 : t < 18446744073709551616) (n0 : 0 ≤ n) (n1 : n < 18446744073709551616) (w : World) :
    Calls Try.prog 44 #[.int .u64 t, .int .u64 n] w fun e w' => e = .returned (.int .u64 (after n t)) ∧ w' = w := by
  unfold after
  by_cases h : 18446744073709551615 - n < t
  · rw [if_pos h]
    go_enter Try.func44, Try.ntmps44
    go_wp2_with fail
    go_ret
    exact ⟨rfl, rfl⟩
  · rw [if_neg h]
    go_enter Try.func44, Try.ntmps44
    go_wp2_with fail
    go_ret
    refine ⟨?_, rfl⟩
    show Ending.returned (.int .u64 (t + n)) = _
    rw [Int.add_comm]

theorem after_comm (t n : Int) : after t n = after n t := by
  unfold after
  by_cases h : 18446744073709551615 - t < n
  · rw [if_pos h, if_pos (by omega)]
  · rw [if_neg h, if_neg (by omega)]; omega

/-- O' lies in O, or is new since w. -/
def Sub (w : World) (O O' : List Nat) : Prop := ∀ x, x ∈ O' → x ∈ O ∨ w.heap.size ≤ x
theorem Sub.refl (w : World) (O : List Nat) : Sub w O O := fun x hx => .inl hx
theorem Sub.trans {w w' : World} {O P Q : List Nat} (h : Sub w O P) (k : Sub w' P Q) (hs : w.heap.size ≤ w'.heap.size) : Sub w O Q := fun x hx => by
  rcases k x hx with h1 | h1
  · exact h x h1
  · exact .inr (by omega)
theorem Fr.step {p : Nat} {O O' : List Nat} {w w' w2 : World} (h : Fr (p :: O) w w') (hs : Sub w O O') (k : Fr (p :: O') w' w2) : Fr (p :: O) w w2 :=
  h.new k (fun x hx => by
    rcases List.mem_cons.1 hx with rfl | hx
    · exact .inl (by simp)
    · rcases hs x hx with h1 | h1
      · exact .inl (List.mem_cons_of_mem _ h1)
      · exact .inr h1)
theorem PCq.put {w w' : World} {p : Nat} {C C' : Ct} {qv av : Value} {qo ao : List Nat} (h : PCq w p C qv av qo ao) (hb : Blk w' p 66 C'.delay C'.now C'.regs (phi C' qv av)) (hf : Fr [p] w w') (hq : C'.queue = C.queue) (hc : C'.cmd = 129 → C.cmd = 129 ∧ C'.arg = C.arg) :
    ∃ O', PC w' p O' C' ∧ Sub w (qo ++ ao) O' := by
  have hnp := h.notp
  have hq' : SL w' 5 qv qo (bytes C'.queue) := by
    rw [hq]
    exact h.q.keep hf (fun x hx e => by simp at e; subst e; exact hnp.1 hx)
  by_cases e : C'.cmd = 129
  · obtain ⟨h1, h2⟩ := hc e
    refine ⟨qo ++ ao, ⟨qv, av, qo, ao, rfl, hb, hq', fun _ => ?_, fun g => absurd e g, h.ap⟩, Sub.refl _ _⟩
    rw [h2]
    exact (h.a h1).keep hf (fun x hx e => by simp at e; subst e; exact hnp.2 hx)
  · exact ⟨qo, ⟨qv, av, qo, [], by simp, hb, hq', fun g => absurd g e, fun _ => rfl, fun _ _ => by simp⟩, fun x hx => .inl (List.mem_append_left _ hx)⟩
theorem RCq.put {w w' : World} {p : Nat} {C C' : Ct} {qv : Value} {O : List Nat} (h : RCq w p C qv O) (hb : Blk w' p 72 C'.delay C'.now C'.regs (rhi C' qv)) (hf : Fr [p] w w') (hq : C'.queue = C.queue) : RC w' p O C' := by
  refine ⟨qv, hb, ?_⟩
  rw [hq]
  have hnp := h.notp
  exact h.q.keep hf (fun x hx e => by simp at e; subst e; exact hnp hx)
theorem fr1 {p : Nat} {O : List Nat} {w w' : World} (h : Fr [p] w w') : Fr (p :: O) w w' := h.mono (by simp)

set_option maxHeartbeats 1600000 in
set_option maxRecDepth 100000 in
theorem output_calls (p : Nat) (O : List Nat) (C : Ct) (x : Int) (w : World) (hC : PC w p O C) :
    Calls Try.prog 50 #[.pointer (some ⟨p, 0, none⟩), .int .u8 x] w fun e w' => e = .returned (.tuple #[]) ∧ (∃ O', PC w' p O' (outS C x) ∧ Sub w O O') ∧ Fr [p] w w' := by
  obtain ⟨qv, av, qo, ao, rfl, h⟩ := hC
  have c4 : w.cell? ⟨p, 262, none⟩ = some (.bool C.full) := h.blk.cell 262 (by omega)
  have c5 : w.cell? ⟨p, 263, none⟩ = some (.int .u8 C.out) := h.blk.cell 263 (by omega)
  have y4 := h.blk.frozen 262
  have y5 := h.blk.frozen 263
  have H := Lib.hid h
  clear h
  go_enter Try.func50, Try.ntmps50
  go_wp2_with fail
  go_end0
  have hf : Fr [p] w ((w.setCell ⟨p, 262, none⟩ (.bool true)).setCell ⟨p, 263, none⟩ (.int .u8 x)) := ((Fr.refl _ _).setCell (Or.inl (by simp)) _).setCell (Or.inl (by simp)) _
  exact ⟨rfl, H.out.put (C' := outS C x) ((H.out.blk.setHi 262 (by omega) (by omega) _ rfl).setHi 263 (by omega) (by omega) _ rfl) hf rfl (fun e => ⟨e, rfl⟩), hf⟩
set_option maxHeartbeats 1600000 in
set_option maxRecDepth 100000 in
theorem put_calls (p : Nat) (O : List Nat) (C : Ct) (x : Int) (w : World) (hC : RC w p O C) :
    Calls Try.prog 47 #[.pointer (some ⟨p, 0, none⟩), .int .u8 x] w fun e w' => e = .returned (.tuple #[]) ∧ RC w' p O (outS C x) ∧ Fr [p] w w' := by
  obtain ⟨qv, h⟩ := hC
  have c4 : w.cell? ⟨p, 262, none⟩ = some (.bool C.full) := h.blk.cell 262 (by omega)
  have c5 : w.cell? ⟨p, 263, none⟩ = some (.int .u8 C.out) := h.blk.cell 263 (by omega)
  have y4 := h.blk.frozen 262
  have y5 := h.blk.frozen 263
  have H := Lib.hid h
  clear h
  go_enter Try.func47, Try.ntmps47
  go_wp2_with fail
  go_end0
  have hf : Fr [p] w ((w.setCell ⟨p, 262, none⟩ (.bool true)).setCell ⟨p, 263, none⟩ (.int .u8 x)) := ((Fr.refl _ _).setCell (Or.inl (by simp)) _).setCell (Or.inl (by simp)) _
  exact ⟨rfl, H.out.put (C' := outS C x) ((H.out.blk.setHi 262 (by omega) (by omega) _ rfl).setHi 263 (by omega) (by omega) _ rfl) hf rfl, hf⟩
end Go.Proofs.Ytbcgcbogcofbjaa.Ec
