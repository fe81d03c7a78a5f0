import Derived.Test.YtbcgcbogcofbjaaEcK
namespace Go.Proofs.Ytbcgcbogcofbjaa.Ec
open Go.RowKit Go.Proofs.Ytbcgcbogcofbjaa.G
set_option linter.unusedVariables false
set_option linter.unusedSimpArgs false
attribute [local go_sem ↓] Go.wp_at_zero Go.wp_at_succ

theorem new_tr_ok (c x v dl : Int) (hc : c = 128 ∨ c = 129 ∨ c = 132) (hx : Byte x) (hv : Byte v) (d0 : 0 ≤ dl) (d1 : dl < 18446744073709551616) : Tr.Ok ⟨c, x, v, dl, 0, 0, 0⟩ :=
  ⟨by show (0 : Int) ≤ 0; omega, by show (0 : Int) ≤ 5; omega, hc, hx, hv, byte0, d0, d1⟩
/-! ### Chains of calls that start at w0 -/
def Oc (w0 w : World) (p : Nat) (C : Ct) : Prop := w0.heap.size ≤ p ∧ Fr [] w0 w ∧ ∃ O, PC w p O C ∧ ∀ x ∈ O, w0.heap.size ≤ x
def Ow (w0 w : World) (q p : Nat) (s : St) : Prop := w0.heap.size ≤ q ∧ w0.heap.size ≤ p ∧ Fr [] w0 w ∧ ∃ O, PT w q p O s ∧ ∀ x ∈ O, w0.heap.size ≤ x
theorem Oc.call {P : Program} {f : FuncId} {args : Array Value} {w0 w : World} {p : Nat} {C C' : Ct} {E : Ending} (h : Oc w0 w p C) (k : ∀ O, PC w p O C → Calls P f args w fun e w' => e = E ∧ (∃ O', PC w' p O' C' ∧ Sub w O O') ∧ Fr (p :: O) w w') :
    Calls P f args w fun e w' => e = E ∧ Oc w0 w' p C' := by
  obtain ⟨hp, hf, O, hC, hO⟩ := h
  refine (k O hC).mono ?_
  rintro e w' ⟨rfl, ⟨O', hC', hs⟩, hf'⟩
  have hz := hf.size
  refine ⟨rfl, hp, hf.new hf' (fun x hx => ?_), O', hC', fun x hx => ?_⟩
  · rcases List.mem_cons.1 hx with rfl | hx
    · exact .inr hp
    · exact .inr (hO x hx)
  · rcases hs x hx with h1 | h1
    · exact hO x h1
    · omega
theorem Ow.call {P : Program} {f : FuncId} {args : Array Value} {w0 w : World} {q p : Nat} {s s' : St} {E : Ending} (h : Ow w0 w q p s) (k : ∀ O, PT w q p O s → Calls P f args w fun e w' => e = E ∧ (∃ O', PT w' q p O' s' ∧ Sub w O O') ∧ Fr (q :: p :: O) w w') :
    Calls P f args w fun e w' => e = E ∧ Ow w0 w' q p s' := by
  obtain ⟨hq, hp, hf, O, hC, hO⟩ := h
  refine (k O hC).mono ?_
  rintro e w' ⟨rfl, ⟨O', hC', hs⟩, hf'⟩
  have hz := hf.size
  refine ⟨rfl, hq, hp, hf.new hf' (fun x hx => ?_), O', hC', fun x hx => ?_⟩
  · rcases List.mem_cons.1 hx with rfl | hx
    · exact .inr hq
    rcases List.mem_cons.1 hx with rfl | hx
    · exact .inr hp
    · exact .inr (hO x hx)
  · rcases hs x hx with h1 | h1
    · exact hO x h1
    · omega
theorem Ow.oc {w0 w : World} {q p : Nat} {s : St} (h : Ow w0 w q p s) : Oc w0 w p s.C := by
  obtain ⟨hq, hp, hf, O, hC, hO⟩ := h
  exact ⟨hp, hf, O, hC.c, hO⟩
theorem Oc.below {w0 w : World} {p : Nat} {C : Ct} (h : Oc w0 w p C) : Below w0.heap.size w0 w := h.2.1.below (Below.refl _ _) (Nat.le_refl _) (by simp)
theorem Ow.below {w0 w : World} {q p : Nat} {s : St} (h : Ow w0 w q p s) : Below w0.heap.size w0 w := h.oc.below
theorem Oc.own {w0 w w' : World} {p q : Nat} {C : Ct} {T : Tr} (h : Oc w0 w p C) (hq : q = w.heap.size) (hT : TB w' q 69 T) (hf : Fr [] w w') : Ow w0 w' q p ⟨T, C⟩ := by
  obtain ⟨hp, hf0, O, hC, hO⟩ := h
  have := hf0.size
  exact ⟨by omega, hp, hf0.trans hf, O, ⟨hC.keep hf (by simp) (by simp), hT⟩, hO⟩
theorem oNew (d : Int) (hd : d ≤ 4294967296) (w0 w : World) (h : Fr [] w0 w) :
    Calls Try.prog 9 #[.int .u64 d] w fun e w' => e = .returned (.tuple #[.pointer (some ⟨w.heap.size, 0, none⟩), .int .i64 0]) ∧ Oc w0 w' w.heap.size (Ct.new d) :=
  (new_calls d hd w).mono (by
    rintro e w' ⟨rfl, hC, hf, hs⟩
    exact ⟨rfl, h.size, h.trans hf, [], hC, by simp⟩)
theorem oStep {w0 w : World} {q p : Nat} {s : St} (h : Ow w0 w q p s) (hT : s.T.Ok) (hok : s.C.Ok) (t : Int) (t0 : 0 ≤ t) (t1 : t < 18446744073709551616) :
    Calls Try.prog 13 #[.pointer (some ⟨q, 0, none⟩), .pointer (some ⟨p, 0, none⟩), .int .u64 t] w fun e w' => e = .returned (.tuple #[.int .u8 (resV (stepS s t)), .bool (doneV (stepS s t)), .int .i64 (errV (stepS s t))]) ∧ Ow w0 w' q p (stepS s t) :=
  h.call fun O hP => step_calls q p O s hT hok t t0 t1 w hP
theorem oSet {w0 w : World} {p : Nat} {C : Ct} (h : Oc w0 w p C) (i : Nat) (hi : i < 256) (x : Int) :
    Calls Try.prog 14 #[.pointer (some ⟨p, 0, none⟩), .int .u8 (i : Int), .int .u8 x] w fun e w' => e = .returned (.tuple #[]) ∧ Oc w0 w' p (setS C i x) :=
  h.call fun O hP => (setRegister_calls p O C i hi x w hP).mono (by rintro e w' ⟨he, h1, h2⟩; exact ⟨he, h1, fr1 h2⟩)
theorem oRead {w0 w : World} {p : Nat} {C : Ct} (h : Oc w0 w p C) (x s n : Int) (s0 : 0 ≤ s) (s1 : s < 18446744073709551616) (n0 : 0 ≤ n) (n1 : n < 18446744073709551616) :
    Calls Try.prog 11 #[.int .u8 x, .int .u64 s, .int .u64 n] w fun e w' => ∃ q, e = .returned (.pointer (some ⟨q, 0, none⟩)) ∧ Ow w0 w' q p ⟨⟨128, x, 0, after s n, 0, 0, 0⟩, C⟩ :=
  (read_calls x s n s0 s1 n0 n1 w).mono (by rintro e w' ⟨he, h1, h2, h3⟩; exact ⟨_, he, h.own rfl h1 h2⟩)
theorem oWrite {w0 w : World} {p : Nat} {C : Ct} (h : Oc w0 w p C) (x v s n : Int) (s0 : 0 ≤ s) (s1 : s < 18446744073709551616) (n0 : 0 ≤ n) (n1 : n < 18446744073709551616) :
    Calls Try.prog 12 #[.int .u8 x, .int .u8 v, .int .u64 s, .int .u64 n] w fun e w' => ∃ q, e = .returned (.pointer (some ⟨q, 0, none⟩)) ∧ Ow w0 w' q p ⟨⟨129, x, v, after s n, 0, 0, 0⟩, C⟩ :=
  (writeT_calls x v s n s0 s1 n0 n1 w).mono (by rintro e w' ⟨he, h1, h2, h3⟩; exact ⟨_, he, h.own rfl h1 h2⟩)
theorem oQuery {w0 w : World} {p : Nat} {C : Ct} (h : Oc w0 w p C) (s n : Int) (s0 : 0 ≤ s) (s1 : s < 18446744073709551616) (n0 : 0 ≤ n) (n1 : n < 18446744073709551616) :
    Calls Try.prog 32 #[.int .u64 s, .int .u64 n] w fun e w' => ∃ q, e = .returned (.pointer (some ⟨q, 0, none⟩)) ∧ Ow w0 w' q p ⟨⟨132, 0, 0, after s n, 0, 0, 0⟩, C⟩ :=
  (query_calls s n s0 s1 n0 n1 w).mono (by rintro e w' ⟨he, h1, h2, h3⟩; exact ⟨_, he, h.own rfl h1 h2⟩)

def aw0 : St := ⟨⟨128, 7, 0, after 0 100, 0, 0, 0⟩, setS (Ct.new 2) 7 9⟩
def aw1 : St := stepS aw0 0
def aw2 : St := stepS aw1 2
def aw3 : St := stepS aw2 4
theorem aw0_ok : aw0.T.Ok ∧ aw0.C.Ok := ⟨new_tr_ok _ _ _ _ (.inl rfl) ⟨by omega, by omega⟩ byte0 (by decide) (by decide), set_ok (new_ok (by omega) (by omega)) 7 ⟨by omega, by omega⟩⟩
theorem aw1_ok : aw1.T.Ok ∧ aw1.C.Ok := step_ok (by omega) (by omega) aw0_ok.1 aw0_ok.2
theorem aw2_ok : aw2.T.Ok ∧ aw2.C.Ok := step_ok (by omega) (by omega) aw1_ok.1 aw1_ok.2
theorem aw1_v : doneV aw1 = false := by kernel_rfl
theorem aw2_v : doneV aw2 = false := by kernel_rfl
theorem aw3_d : doneV aw3 = true := by kernel_rfl
theorem aw3_r : resV aw3 = 9 := by kernel_rfl
theorem aw3_e : errV aw3 = 0 := by kernel_rfl

set_option maxHeartbeats 3200000 in
set_option maxRecDepth 100000 in
theorem awake_calls (w : World) :
    Calls Try.prog 10 #[] w fun e w' => e = .returned (.bool true) ∧ Fr [] w w' := by
  have hn := Lib.hid (oNew 2 (by omega) w w (Fr.refl _ _))
  go_enter Try.func10, Try.ntmps10
  go_wp2_with fail
  refine hn.out.mono ?_
  rintro e w1 ⟨rfl, hC1⟩
  generalize w.heap.size = p at *
  have hset := Lib.hid (oSet hC1 7 (by omega) 9)
  clear hn hC1
  go_wp2_with fail
  refine hset.out.mono ?_
  rintro e w2 ⟨rfl, hC2⟩
  have hrd := Lib.hid (oRead hC2 7 0 100 (by omega) (by omega) (by omega) (by omega))
  clear hset hC2
  go_wp2_with fail
  refine hrd.out.mono ?_
  rintro e w3 ⟨q, rfl, hP⟩
  have hst : Hid (Calls Try.prog 13 #[.pointer (some ⟨q, 0, none⟩), .pointer (some ⟨p, 0, none⟩), .int .u64 0] w3 fun e w' => e = .returned (.tuple #[.int .u8 (resV aw1), .bool false, .int .i64 (errV aw1)]) ∧ Ow w w' q p aw1) := Lib.hid (by
    rw [← aw1_v]; exact oStep (s := aw0) hP aw0_ok.1 aw0_ok.2 0 (by omega) (by omega))
  clear hrd hP
  generalize resV aw1 = r1 at *
  generalize errV aw1 = e1 at *
  go_wp2_with fail
  refine hst.out.mono ?_
  rintro e w4 ⟨rfl, hP⟩
  have hst2 : Hid (Calls Try.prog 13 #[.pointer (some ⟨q, 0, none⟩), .pointer (some ⟨p, 0, none⟩), .int .u64 2] w4 fun e w' => e = .returned (.tuple #[.int .u8 (resV aw2), .bool false, .int .i64 (errV aw2)]) ∧ Ow w w' q p aw2) := Lib.hid (by
    rw [← aw2_v]; exact oStep (s := aw1) hP aw1_ok.1 aw1_ok.2 2 (by omega) (by omega))
  clear hst hP
  generalize resV aw2 = r2 at *
  generalize errV aw2 = e2 at *
  go_wp2_with fail
  refine hst2.out.mono ?_
  rintro e w5 ⟨rfl, hP⟩
  have hst3 : Hid (Calls Try.prog 13 #[.pointer (some ⟨q, 0, none⟩), .pointer (some ⟨p, 0, none⟩), .int .u64 4] w5 fun e w' => e = .returned (.tuple #[.int .u8 9, .bool true, .int .i64 0]) ∧ Ow w w' q p aw3) := Lib.hid (by
    rw [← aw3_d, ← aw3_r, ← aw3_e]; exact oStep (s := aw2) hP aw2_ok.1 aw2_ok.2 4 (by omega) (by omega))
  clear hst2 hP
  go_wp2_with fail
  refine hst3.out.mono ?_
  rintro e w6 ⟨rfl, hP⟩
  have hfin := Lib.hid hP.oc.2.1
  clear hst3 hP
  go_wp2_with fail
  go_ret
  exact ⟨rfl, hfin.out⟩
end Go.Proofs.Ytbcgcbogcofbjaa.Ec
