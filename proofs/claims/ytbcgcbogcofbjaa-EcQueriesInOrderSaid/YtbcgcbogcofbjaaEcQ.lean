import Derived.Test.YtbcgcbogcofbjaaEcU
import Derived.Test.YtbcgcbogcofbjaaEcY
namespace Go.Proofs.Ytbcgcbogcofbjaa.Ec
open Go.RowKit Go.Proofs.Ytbcgcbogcofbjaa.G
set_option linter.unusedVariables false
set_option linter.unusedSimpArgs false
set_option linter.unusedSectionVars false
attribute [local go_sem ↓] Go.wp_at_zero Go.wp_at_succ

/-! ### A query's steps -/
def q1 (d : Int) (R : Nat → Int) (q : List Int) (dl now due o c : Int) (a : Option Int) : St := ⟨⟨132, 0, 0, dl, 4, 0, 0⟩, ⟨d, now, R, true, true, 132, due, false, o, q, c, a⟩⟩
def PQ (d : Int) (R : Nat → Int) (q : List Int) (n0 t : Int) (s : St) : Prop :=
  (t = n0 ∧ ∃ C, Idl d R t C ∧ C.queue = q ∧ s = ⟨⟨132, 0, 0, n0 + 1000, 0, 0, 0⟩, C⟩) ∨
  ∃ now due o c a, now ≤ t ∧ t ≤ due + 4 ∧ due ≤ n0 + 11 ∧ s = q1 d R q (n0 + 1000) now due o c a
def DQ (d : Int) (R : Nat → Int) (q : List Int) (t : Int) (r : St) : Prop := Idl d R t r.C ∧ r.C.queue = q.tail ∧ r.T.res = q.headD 0
theorem run_0q {d : Int} {R : Nat → Int} {t : Int} {C : Ct} {dl : Int} (hd0 : 0 ≤ d) (hd8 : d < 8) (ht : t < 2000) (h : Idl d R t C) (n : Nat) :
    runS t (n + 1) ⟨⟨132, 0, 0, dl, 0, 0, 0⟩, C⟩ = runS t n (q1 d R C.queue dl t (t + d) C.out C.cmd C.arg) := by
  have hA : C.adv t = { C with now := t } := by rw [adv_idle h.b, nowS_t h.n]
  refine run_t n (by show (0 : Int) ≠ 5; omega) ?_ ?_
  · rw [actB_eq, hA]; show (!C.busy && _) = true; rw [h.b]; rfl
  · rw [actS_eq, hA]
    unfold actD
    rw [if_neg (by show ¬ C.busy = true; rw [h.b]; decide), if_pos rfl, if_neg (by show ¬ C.full = true; rw [h.f]; decide)]
    have hb := h.d
    rw [wrS (D := { C with now := t }) (t := t) h.b rfl (by show t + C.delay < _; omega)]
    show (⟨⟨132, 0, 0, dl, if (132 : Int) = 132 then 4 else 1, 0, 0⟩, ⟨C.delay, t, C.regs, true, true, 132, t + C.delay, C.full, C.out, C.queue, C.cmd, C.arg⟩⟩ : St) = _
    rw [if_pos rfl, h.d, h.r, h.f]; rfl
theorem go_q1 {d : Int} {R : Nat → Int} {n0 t : Int} (hd0 : 0 ≤ d) (hd8 : d < 8) (ht : t < 2000) (q : List Int) (now due o c : Int) (a : Option Int) (hn : now ≤ t) (h4 : t ≤ due + 4) (hdu : due ≤ n0 + 11) (n : Nat) :
    Outc n0 t (PQ d R q n0) (DQ d R q) (runS t (n + 1) (q1 d R q (n0 + 1000) now due o c a)) := by
  by_cases hd : due ≤ t
  · have hA : (q1 d R q (n0 + 1000) now due o c a).C.adv t = ⟨d, t, R, false, true, 132, due, true, q.headD 0, q.tail, 0, none⟩ := (adv_due rfl hn hd).trans rfl
    have e : runS t (n + 1) (q1 d R q (n0 + 1000) now due o c a) = ⟨⟨132, 0, 0, n0 + 1000, 5, q.headD 0, 0⟩, ⟨d, t, R, false, true, 132, due, false, q.headD 0, q.tail, 0, none⟩⟩ := by
      refine run_f n (by show (4 : Int) ≠ 5; omega) ?_ ?_
      · show (!((q1 d R q (n0 + 1000) now due o c a).C.adv t).busy && _) = false
        rw [hA]; rfl
      · show actD _ ((q1 d R q (n0 + 1000) now due o c a).C.adv t) t = _
        rw [hA]
        have hB : (⟨d, t, R, false, true, 132, due, true, q.headD 0, q.tail, 0, none⟩ : Ct).adv t = ⟨d, t, R, false, true, 132, due, true, q.headD 0, q.tail, 0, none⟩ := by
          rw [adv_idle rfl, nowS_t (Int.le_refl _)]
        show (⟨{ (q1 d R q (n0 + 1000) now due o c a).T with ph := 5, res := readV ((⟨d, t, R, false, true, 132, due, true, q.headD 0, q.tail, 0, none⟩ : Ct).adv t) }, readS ((⟨d, t, R, false, true, 132, due, true, q.headD 0, q.tail, 0, none⟩ : Ct).adv t)⟩ : St) = _
        rw [hB]; rfl
    rw [e]
    exact .inl ⟨rfl, rfl, ⟨rfl, rfl, rfl, rfl, Int.le_refl _⟩, rfl, rfl⟩
  · have e : runS t (n + 1) (q1 d R q (n0 + 1000) now due o c a) = q1 d R q (n0 + 1000) t due o c a := run_wait n (by show (4 : Int) ≠ 5; omega) rfl hn (by show t < due; omega)
    rw [e]
    exact .inr ⟨by show (4 : Int) ≠ 5; omega, rfl, by omega, fun t' h1 h2 => .inr ⟨t, due, o, c, a, h1, by omega, hdu, rfl⟩⟩
theorem owes_Q {d : Int} {R : Nat → Int} {q : List Int} {n0 : Int} (hd0 : 0 ≤ d) (hd8 : d < 8) (hn : n0 ≤ 1000) : Owes n0 (PQ d R q n0) (DQ d R q) := fun t s h h1 h2 => by
  refine Outc.owes ?_
  have ht : t < 2000 := by omega
  rcases h with ⟨rfl, C, hI, rfl, rfl⟩ | ⟨now, due, o, c, a, hn, h4, hdu, rfl⟩
  · rw [run_0q hd0 hd8 ht hI 11]
    exact go_q1 hd0 hd8 ht C.queue t (t + d) C.out C.cmd C.arg (Int.le_refl _) (by omega) (by omega) 10
  · exact go_q1 hd0 hd8 ht q now due o c a hn h4 hdu 11

/-! ### The controller beside a slice of the call's own -/
def Bq (w0 w : World) (p : Nat) (C : Ct) (wv : Value) (want : List Int) : Prop :=
  w0.heap.size ≤ p ∧ Fr [] w0 w ∧ ∃ O wo, PC w p O C ∧ SL w 5 wv wo (bytes want) ∧ (∀ x ∈ O, w0.heap.size ≤ x) ∧ (∀ x ∈ wo, w0.heap.size ≤ x) ∧ ∀ x ∈ wo, x ∉ O
def Iq (w0 : World) (q p : Nat) (wv : Value) (want : List Int) (w : World) (s : St) : Prop :=
  w0.heap.size ≤ q ∧ Bq w0 w p s.C wv want ∧ TB w q 69 s.T
theorem Bq.call {P : Program} {f : FuncId} {args : Array Value} {w0 w : World} {p : Nat} {C C' : Ct} {wv : Value} {want : List Int} {E : Ending} (h : Bq w0 w p C wv want) (k : ∀ O, PC w p O C → Calls P f args w fun e w' => e = E ∧ (∃ O', PC w' p O' C' ∧ Sub w O O') ∧ Fr (p :: O) w w') :
    Calls P f args w fun e w' => e = E ∧ Bq w0 w' p C' wv want := by
  obtain ⟨hp, hf, O, wo, hC, hS, hO, hwo, hdj⟩ := h
  refine (k O hC).mono ?_
  rintro e w' ⟨rfl, ⟨O', hC', hs⟩, hf'⟩
  have hz := hf.size
  obtain ⟨cs, hcs⟩ := hC.typed
  refine ⟨rfl, hp, hf.new hf' (fun x hx => ?_), O', wo, hC', hS.keep hf' (fun x hx hx2 => ?_), fun x hx => ?_, hwo, fun x hx hx2 => ?_⟩
  · rcases List.mem_cons.1 hx with rfl | hx
    · exact .inr hp
    · exact .inr (hO x hx)
  · rcases List.mem_cons.1 hx2 with e | hx2
    · exact hS.ne_block hcs (by decide) x hx e
    · exact hdj x hx hx2
  · rcases hs x hx with h1 | h1
    · exact hO x h1
    · omega
  · rcases hs x hx2 with h1 | h1
    · exact hdj x hx h1
    · obtain ⟨ds, hds⟩ := hS.typed hx
      have := lt_of_heap hds
      omega
theorem Iq.call {P : Program} {f : FuncId} {args : Array Value} {w0 w : World} {q p : Nat} {s s' : St} {wv : Value} {want : List Int} {E : Ending} (h : Iq w0 q p wv want w s) (k : ∀ O, PT w q p O s → Calls P f args w fun e w' => e = E ∧ (∃ O', PT w' q p O' s' ∧ Sub w O O') ∧ Fr (q :: p :: O) w w') :
    Calls P f args w fun e w' => e = E ∧ Iq w0 q p wv want w' s' := by
  obtain ⟨hq, ⟨hp, hf, O, wo, hC, hS, hO, hwo, hdj⟩, hT⟩ := h
  refine (k O ⟨hC, hT⟩).mono ?_
  rintro e w' ⟨rfl, ⟨O', hC', hs⟩, hf'⟩
  have hz := hf.size
  obtain ⟨cs, hcs⟩ := hC.typed
  obtain ⟨ts, hts, _⟩ := hT
  refine ⟨rfl, hq, ⟨hp, hf.new hf' (fun x hx => ?_), O', wo, hC'.c, hS.keep hf' (fun x hx hx2 => ?_), fun x hx => ?_, hwo, fun x hx hx2 => ?_⟩, hC'.t⟩
  · rcases List.mem_cons.1 hx with rfl | hx
    · exact .inr hq
    rcases List.mem_cons.1 hx with rfl | hx
    · exact .inr hp
    · exact .inr (hO x hx)
  · rcases List.mem_cons.1 hx2 with e | hx2
    · exact hS.ne_block hts (by decide) x hx e
    rcases List.mem_cons.1 hx2 with e | hx2
    · exact hS.ne_block hcs (by decide) x hx e
    · exact hdj x hx hx2
  · rcases hs x hx with h1 | h1
    · exact hO x h1
    · omega
  · rcases hs x hx2 with h1 | h1
    · exact hdj x hx h1
    · obtain ⟨ds, hds⟩ := hS.typed hx
      have := lt_of_heap hds
      omega
theorem Bq.query {w0 w : World} {p : Nat} {C : Ct} {wv : Value} {want : List Int} (h : Bq w0 w p C wv want) (s n : Int) (s0 : 0 ≤ s) (s1 : s < 18446744073709551616) (n0 : 0 ≤ n) (n1 : n < 18446744073709551616) :
    Calls Try.prog 32 #[.int .u64 s, .int .u64 n] w fun e w' => ∃ q, e = .returned (.pointer (some ⟨q, 0, none⟩)) ∧ Iq w0 q p wv want w' ⟨⟨132, 0, 0, after s n, 0, 0, 0⟩, C⟩ :=
  (query_calls s n s0 s1 n0 n1 w).mono (by
    rintro e w' ⟨he, h1, h2, h3⟩
    obtain ⟨hp, hf, O, wo, hC, hS, hO, hwo, hdj⟩ := h
    exact ⟨_, he, hf.size, ⟨hp, hf.trans h2, O, wo, hC.keep h2 (by simp) (by simp), hS.keep h2 (by simp), hO, hwo, hdj⟩, h1⟩)
theorem Oc.bq {w0 w : World} {p : Nat} {C : Ct} (h : Oc w0 w p C) : Bq w0 w p C (.slice none 0 0) [] := by
  obtain ⟨hp, hf, O, hC, hO⟩ := h
  exact ⟨hp, hf, O, [], hC, SL.nil _ _, hO, by simp, by simp⟩

set_option maxHeartbeats 1600000 in
set_option maxRecDepth 100000 in
theorem finish_nil (I : World → St → Prop) (q p : Nat) (hI : ∀ w s, I w s → s.T.Ok → s.C.Ok → ∀ t, 0 ≤ t → t < 18446744073709551616 → Calls Try.prog 13 #[.pointer (some ⟨q, 0, none⟩), .pointer (some ⟨p, 0, none⟩), .int .u64 t] w fun e w' => e = .returned (.tuple #[.int .u8 (resV (stepS s t)), .bool (doneV (stepS s t)), .int .i64 (errV (stepS s t))]) ∧ I w' (stepS s t))
    (s : St) (hT : s.T.Ok) (hC : s.C.Ok) (n0 : Int) (hn0 : 0 ≤ n0) (hn1 : n0 ≤ 1000) (P D : Int → St → Prop) (hO : Owes n0 P D) (hP : P n0 s) (w : World) (hw : I w s) :
    Calls Try.prog 15 #[.pointer (some ⟨q, 0, none⟩), .pointer (some ⟨p, 0, none⟩), .int .u64 n0, .slice none 0 0] w fun e w' => ∃ (S : St) (t' : Int), e = .returned (.tuple #[.int .u8 (resV S), .int .i64 0, .int .u64 t', .bool true]) ∧ n0 ≤ t' ∧ t' ≤ n0 + 37 ∧ D t' S ∧ S.T.Ok ∧ S.C.Ok ∧ I w' S ∧ doneV S = true := by
  have HO := Lib.hid hO
  have HI := Lib.hid hI
  have H0 : Hid (s.T.Ok ∧ s.C.Ok ∧ P n0 s ∧ I w s) := Lib.hid ⟨hT, hC, hP, hw⟩
  clear hT hC hP hw hO hI
  go_enter Try.func15, Try.ntmps15
  go_wp2_with fail
  go_loopw [2, 12] (fun nv c wr => ∃ (k : Nat) (n : Int) (s : St), c = .int .i64 k ∧ nv = .int .u64 n ∧ n0 ≤ n ∧ n ≤ n0 + 37 ∧ n0 + k ≤ n + 40 ∧ Hid (s.T.Ok ∧ s.C.Ok ∧ P n s ∧ I wr s))
    (fun nv c _ => 300 - (intOf c).toNat)
  case atStart => exact ⟨0, n0, s, rfl, rfl, by omega, by omega, by omega, H0⟩
  case round =>
    obtain ⟨k, n, s', rfl, rfl, hl, hu, hk, HR⟩ := hrel
    clear H0
    have hlt : k < 200 := by omega
    have hstep := Lib.hid (HI.out wr s' HR.out.2.2.2 HR.out.1 HR.out.2.1 n (by omega) (by omega))
    have hok := step_ok (t := n) (by omega) (by omega) HR.out.1 HR.out.2.1
    have Hok := Lib.hid hok
    have hout := HO.out n s' HR.out.2.2.1 hl hu
    clear hok HR
    generalize stepS s' n = S at *
    rcases hout with ⟨hd, he, hD⟩ | ⟨hd, htt, hP'⟩
    · rw [hd, he] at hstep
      have HD := Lib.hid hD
      have Hd := Lib.hid hd
      clear hd he hD
      go_wp2_with fail
      refine hstep.out.mono ?_
      rintro e w5 ⟨rfl, hP5⟩
      have HP5 := Lib.hid hP5
      clear hP5 hstep
      go_wp2_with fail
      (try simp only [Exit.inBlock, Exit.then])
      refine bodyPost_ret (results_tmp4 rfl _ _ _) rfl ?_
      exact ⟨S, n, rfl, hl, hu, HD.out, Hok.out.1, Hok.out.2, HP5.out, Hd.out⟩
    · rw [hd] at hstep
      have HP' := Lib.hid hP'
      clear hd hP'
      generalize resV S = rv at *
      generalize errV S = ev at *
      go_wp2_with fail
      refine hstep.out.mono ?_
      rintro e w5 ⟨rfl, hP5⟩
      have HP5 := Lib.hid hP5
      clear hP5 hstep
      go_wp2_with fail
      go_roundw
      case rel => exact ⟨k + 1, n + 1, S, by go_num, by go_num, by omega, by omega, by omega, Lib.hid ⟨Hok.out.1, Hok.out.2, HP'.out _ (by omega) (by omega), HP5.out⟩⟩
      case measure => simp [intOf]; omega
theorem qFinish {w0 w : World} {q p : Nat} {wv : Value} {want : List Int} {C : Ct} {d : Int} {R : Nat → Int} {n0 : Int} (h : Iq w0 q p wv want w ⟨⟨132, 0, 0, n0 + 1000, 0, 0, 0⟩, C⟩) (hok : C.Ok) (hd0 : 0 ≤ d) (hd8 : d < 8) (hn0 : 0 ≤ n0) (hn1 : n0 ≤ 1000) (hI : Idl d R n0 C) :
    Calls Try.prog 15 #[.pointer (some ⟨q, 0, none⟩), .pointer (some ⟨p, 0, none⟩), .int .u64 n0, .slice none 0 0] w fun e w' => ∃ (C' : Ct) (t' : Int), e = .returned (.tuple #[.int .u8 (C.queue.headD 0), .int .i64 0, .int .u64 t', .bool true]) ∧ n0 ≤ t' ∧ t' ≤ n0 + 37 ∧ Idl d R t' C' ∧ C'.queue = C.queue.tail ∧ C'.Ok ∧ Bq w0 w' p C' wv want :=
  (finish_nil (Iq w0 q p wv want) q p (fun w s h hT hC t t0 t1 => h.call fun O hP => step_calls q p O s hT hC t t0 t1 w hP) _ (new_tr_ok 132 0 0 (n0 + 1000) (by omega) byte0 byte0 (by omega) (by omega)) hok n0 hn0 hn1 _ _ (owes_Q (q := C.queue) hd0 hd8 hn1) (.inl ⟨rfl, _, hI, rfl, rfl⟩) w h).mono (by
    rintro e w' ⟨S, t', rfl, h1, h2, hD, hT, hC, hI', hdn⟩
    exact ⟨S.C, t', by rw [resV_done hdn, hD.2.2], h1, h2, hD.1, hD.2.1, hC, hI'.2.1⟩)
end Go.Proofs.Ytbcgcbogcofbjaa.Ec
