import Derived.Test.YtbcgcbogcofbjaaEcT
import Derived.Test.YtbcgcbogcofbjaaEcR
namespace Go.Proofs.Ytbcgcbogcofbjaa.Ec
open Go.RowKit Go.Proofs.Ytbcgcbogcofbjaa.G
set_option linter.unusedVariables false
set_option linter.unusedSimpArgs false
attribute [local go_sem ↓] Go.wp_at_zero Go.wp_at_succ

theorem results_tmp4 {fn : Func} {t u v x : Tmp} (h : fn.results = #[.tmp t, .tmp u, .tmp v, .tmp x]) (tmps : Array Value) (P : Program) (w : World) :
    (results fn tmps).run P w = .ok (.tuple #[tmps.getD t undef, tmps.getD u undef, tmps.getD v undef, tmps.getD x undef]) w := by
  simp [results, h]
theorem resV_done {s : St} (h : doneV s = true) : resV s = s.T.res := by
  unfold doneV at h; unfold resV; rw [if_pos (of_decide_eq_true h)]
theorem Oc.frame {w0 w w' : World} {p : Nat} {C : Ct} (h : Oc w0 w p C) (hf : Fr [] w w') : Oc w0 w' p C := by
  obtain ⟨hp, hf0, O, hC, hO⟩ := h
  exact ⟨hp, hf0.trans hf, O, hC.keep hf (by simp) (by simp), hO⟩
theorem oReg {w0 w : World} {p : Nat} {C : Ct} (h : Oc w0 w p C) (i : Nat) (hi : i < 256) :
    Calls Try.prog 16 #[.pointer (some ⟨p, 0, none⟩), .int .u8 (i : Int)] w fun e w' => e = .returned (.int .u8 (C.regs i)) ∧ Oc w0 w' p C :=
  h.call fun O hP => (register_calls p O C i hi w hP).mono (by rintro e w' ⟨he, h1, h2⟩; exact ⟨he, ⟨O, h1, Sub.refl _ _⟩, h2.mono (by simp)⟩)

set_option maxHeartbeats 1600000 in
set_option maxRecDepth 100000 in
theorem finish_calls (w0 : World) (q p : Nat) (s : St) (hT : s.T.Ok) (hC : s.C.Ok) (n0 : Int) (hn0 : 0 ≤ n0) (hn1 : n0 ≤ 1000) (P D : Int → St → Prop) (hO : Owes n0 P D) (hP : P n0 s) (a : Option Addr) (len cap : Nat) (hmax : len ≤ 9223372036854775807) (L : Nat → Int) (hL : BytesAt w0 a len L) (w : World) (hw : Ow w0 w q p s) :
    Calls Try.prog 15 #[.pointer (some ⟨q, 0, none⟩), .pointer (some ⟨p, 0, none⟩), .int .u64 n0, .slice a len cap] w fun e w' => ∃ (S : St) (t' : Int), e = .returned (.tuple #[.int .u8 (resV S), .int .i64 0, .int .u64 t', .bool true]) ∧ n0 ≤ t' ∧ t' ≤ n0 + 37 ∧ D t' S ∧ S.T.Ok ∧ S.C.Ok ∧ Ow w0 w' q p S ∧ doneV S = true := by
  have HO := Lib.hid hO
  have HL := Lib.hid hL
  have H0 : Hid (s.T.Ok ∧ s.C.Ok ∧ P n0 s ∧ Ow w0 w q p s) := Lib.hid ⟨hT, hC, hP, hw⟩
  clear hT hC hP hL hw hO
  go_enter Try.func15, Try.ntmps15
  go_wp2_with fail
  go_loopw [2, 12] (fun nv c wr => ∃ (k : Nat) (n : Int) (s : St), c = .int .i64 k ∧ nv = .int .u64 n ∧ n0 ≤ n ∧ n ≤ n0 + 37 ∧ n0 + k ≤ n + 40 ∧ Hid (s.T.Ok ∧ s.C.Ok ∧ P n s ∧ Ow w0 wr q p s))
    (fun nv c _ => 300 - (intOf c).toNat)
  case atStart => exact ⟨0, n0, s, rfl, rfl, by omega, by omega, by omega, H0⟩
  case round =>
    obtain ⟨k, n, s', rfl, rfl, hl, hu, hk, HR⟩ := hrel
    clear H0
    have hlt : k < 200 := by omega
    have hstep := Lib.hid (oStep HR.out.2.2.2 HR.out.1 HR.out.2.1 n (by omega) (by omega))
    have hok := step_ok (t := n) (by omega) (by omega) HR.out.1 HR.out.2.1
    have Hok := Lib.hid hok
    have hout := HO.out n s' HR.out.2.2.1 hl hu
    clear hok HR
    generalize stepS s' n = S at *
    rcases hout with ⟨hd, he, hD⟩ | ⟨hd, htt, hP'⟩
    · rw [hd, he] at hstep
      have HD := Lib.hid hD
      have Hd := Lib.hid hd
      clear hd he hD
      go_wp2_with fail
      refine hstep.out.mono ?_
      rintro e w5 ⟨rfl, hP5⟩
      have HP5 := Lib.hid hP5
      clear hP5 hstep
      go_wp2_with fail
      (try simp only [Exit.inBlock, Exit.then])
      refine bodyPost_ret (results_tmp4 rfl _ _ _) rfl ?_
      exact ⟨S, n, rfl, hl, hu, HD.out, Hok.out.1, Hok.out.2, HP5.out, Hd.out⟩
    · rw [hd] at hstep
      have HP' := Lib.hid hP'
      clear hd hP'
      generalize resV S = rv at *
      generalize errV S = ev at *
      go_wp2_with fail
      refine hstep.out.mono ?_
      rintro e w5 ⟨rfl, hP5⟩
      have HP5 := Lib.hid hP5
      have hB5 := HL.out.keep hP5.2.2.1
      clear hP5 hstep
      by_cases hkl : k < len
      · by_cases hk4 : k < 40
        · obtain ⟨b, o, h1, h2⟩ := hB5
          obtain rfl := h1 (by omega)
          obtain ⟨g0, ⟨g1, g2⟩, g3⟩ := h2 k hkl
          obtain ⟨y, hy⟩ : ∃ y, L k = y := ⟨_, rfl⟩
          rw [hy] at g1 g2 g3
          clear h1 h2 hy
          go_wp2_with fail
          go_roundw
          case rel => exact ⟨k + 1, n + y % 5, S, by go_num, by go_num, by omega, by omega, by omega, Lib.hid ⟨Hok.out.1, Hok.out.2, HP'.out _ (by omega) (by omega), HP5.out⟩⟩
          case measure => simp [intOf]; omega
        · clear hB5
          go_wp2_with fail
          go_roundw
          case rel => exact ⟨k + 1, n + 1, S, by go_num, by go_num, by omega, by omega, by omega, Lib.hid ⟨Hok.out.1, Hok.out.2, HP'.out _ (by omega) (by omega), HP5.out⟩⟩
          case measure => simp [intOf]; omega
      · clear hB5
        go_wp2_with fail
        go_roundw
        case rel => exact ⟨k + 1, n + 1, S, by go_num, by go_num, by omega, by omega, by omega, Lib.hid ⟨Hok.out.1, Hok.out.2, HP'.out _ (by omega) (by omega), HP5.out⟩⟩
        case measure => simp [intOf]; omega
end Go.Proofs.Ytbcgcbogcofbjaa.Ec
