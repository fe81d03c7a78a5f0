import Derived.Test.YtbcgcbogcofbjaaEcR
import Derived.BigQuiet
import Derived.Deep.QuietTactic
namespace Go.Proofs.Ytbcgcbogcofbjaa.Ec
open Go.RowKit Go.Proofs.Ytbcgcbogcofbjaa.G
set_option linter.unusedVariables false
set_option linter.unusedSimpArgs false
attribute [local go_sem ↓] Go.wp_at_zero Go.wp_at_succ
theorem toT_ok (c v dl : Int) (hc : c = 128 ∨ c = 129) (hv : Byte v) (d0 : 0 ≤ dl) (d1 : dl < 18446744073709551616) : (toT c v dl).Ok :=
  new_tr_ok c 1 v dl (by omega) ⟨by omega, by omega⟩ hv d0 d1
theorem K4_mono {dl n m : Int} {s : St} (h : J dl n s) (hm : n ≤ m) : K4 dl m s := .inr ⟨n, hm, h⟩
theorem timeout_res {a b : Bool} (h : a = b) : (a != b) = false := by subst h; cases a <;> rfl

set_option maxHeartbeats 1600000 in
set_option maxRecDepth 100000 in
theorem timeout_calls (x : Int) (x0 : 0 ≤ x) (x1 : x < 18446744073709551616) (a : Option Addr) (len cap : Nat) (hmax : len ≤ 9223372036854775807) (L : Nat → Int) (bw : Bool) (w : World) (hL : BytesAt w a len L) :
    Calls Try.prog 4 #[.int .u64 x, .slice a len cap, .bool bw] w fun e w' => e = .returned (.bool true) ∧ Below w.heap.size w w' := by
  have ha := Lib.hid (fun w => awake_calls w)
  have hn := Lib.hid (oNew 1000 (by omega) w w (Fr.refl _ _))
  have HL := Lib.hid hL
  obtain ⟨dl, hdl⟩ : ∃ d, x % 40 = d := ⟨_, rfl⟩
  have dl0 : 0 ≤ dl := by omega
  have dl1 : dl < 40 := by omega
  go_enter Try.func4, Try.ntmps4
  go_upto_region 2 with (fail)
  rw [hdl]
  have Hdl := Lib.hid hdl
  clear hdl
  have haf : after 0 dl = dl := by unfold after; rw [if_neg (by omega)]; omega
  have Haf := Lib.hid haf
  clear haf hL
  go_wp2_with fail
  refine hn.out.mono ?_
  rintro e w1 ⟨rfl, hC1⟩
  generalize w.heap.size = p at *
  clear hn
  have HC1 := Lib.hid hC1
  clear hC1
  go_wp2_with fail
  refine (ha.out w1).mono ?_
  rintro e w2 ⟨rfl, hf⟩
  have hC2 : Oc w w2 p (Ct.new 1000) := ⟨HC1.out.1, HC1.out.2.1.trans hf, by
    obtain ⟨O, hO, h⟩ := HC1.out.2.2
    exact ⟨O, hO.keep hf (by simp) (by simp), h⟩⟩
  have hrd := Lib.hid (oRead hC2 1 0 dl (by omega) (by omega) (by omega) (by omega))
  rw [Haf.out] at hrd
  clear HC1 hC2 hf ha
  go_wp2_with fail
  refine hrd.out.mono ?_
  rintro e w3 ⟨q, rfl, hP⟩
  clear hrd
  have hs : ∃ s, s.T.Ok ∧ s.C.Ok ∧ K4 dl 0 s ∧ Ow w w3 q p s := ⟨⟨toT 128 0 dl, Ct.new 1000⟩, toT_ok _ _ _ (.inl rfl) byte0 (by omega) (by omega), new_ok (by omega) (by omega), .inl ⟨rfl, 128, 0, .inl rfl, rfl⟩, hP⟩
  have HS := Lib.hid hs
  have HC3 := Lib.hid hP.oc
  clear hs hP
  cases bw
  · go_wp2_with fail
    go_loopw [10, 11] (fun nv c wr => ∃ (k : Nat) (n : Int) (s : St), k ≤ 100 ∧ c = .int .i64 k ∧ nv = .int .u64 n ∧ 0 ≤ n ∧ n ≤ 5 * k ∧ Hid (s.T.Ok ∧ s.C.Ok ∧ K4 dl n s ∧ Ow w wr q p s))
      (fun nv c _ => 101 - (intOf c).toNat)
    case atStart =>
      obtain ⟨s, h1, h2, h3, h4⟩ := HS.out
      exact ⟨0, 0, s, by omega, rfl, rfl, by omega, by omega, Lib.hid ⟨h1, h2, h3, h4⟩⟩
    case round =>
      obtain ⟨k, n, s, hk, rfl, rfl, hn0, hn1, HR⟩ := hrel
      clear HS
      by_cases hlt : k < 100
      · have hnT : n < 1000 := by omega
        have hstep := Lib.hid (oStep HR.out.2.2.2 HR.out.1 HR.out.2.1 n hn0 (by omega))
        obtain ⟨hJ, hD, hV⟩ := HR.out.2.2.1.step hnT
        have hok := step_ok hn0 (by omega) HR.out.1 HR.out.2.1
        have Hok := Lib.hid hok
        have HJ := Lib.hid hJ
        clear hok hJ HR
        generalize stepS s n = S at *
        have key : ∃ (rv ev : Int) (dv : Bool), resV S = rv ∧ errV S = ev ∧ doneV S = dv ∧ ((dv = true ∧ decide (dl ≤ n) = true ∧ rv = 0 ∧ ev = 14) ∨ (dv = false ∧ decide (dl ≤ n) = false)) := by
          refine ⟨_, _, _, rfl, rfl, rfl, ?_⟩
          by_cases hd : dl ≤ n
          · exact .inl ⟨by rw [hD, decide_eq_true hd], decide_eq_true hd, (hV hd).1, (hV hd).2⟩
          · exact .inr ⟨by rw [hD, decide_eq_false hd], decide_eq_false hd⟩
        obtain ⟨rv, ev, dv, e1, e2, e3, hcase⟩ := key
        rw [e1, e2, e3] at hstep
        clear hD hV e1 e2 e3
        rcases hcase with ⟨rfl, hdd, rfl, rfl⟩ | ⟨rfl, hdd⟩
        all_goals
          go_wp2_with fail
          refine hstep.out.mono ?_
          rintro e w5 ⟨rfl, hP5⟩
          have HP5 := Lib.hid hP5
          have hB5 := HL.out.keep hP5.2.2.1
          clear hP5 hstep
          by_cases hkl : k < len
          · obtain ⟨b, o, h1, h2⟩ := hB5
            obtain rfl := h1 (by omega)
            obtain ⟨g0, ⟨g1, g2⟩, g3⟩ := h2 k hkl
            obtain ⟨y, hy⟩ : ∃ y, L k = y := ⟨_, rfl⟩
            rw [hy] at g1 g2 g3
            clear h1 h2 hy
            go_wp2_with fail
            go_roundw
            case rel => exact ⟨k + 1, n + 1 + y % 5, S, by omega, by go_num, by go_num, by omega, by omega, Lib.hid ⟨Hok.out.1, Hok.out.2, K4_mono HJ.out (by omega), HP5.out⟩⟩
            case measure => simp [intOf]; omega
          · clear hB5
            go_wp2_with fail
            go_roundw
            case rel => exact ⟨k + 1, n + 1, S, by omega, by go_num, by go_num, by omega, by omega, Lib.hid ⟨Hok.out.1, Hok.out.2, K4_mono HJ.out (by omega), HP5.out⟩⟩
            case measure => simp [intOf]; omega
      · have hkn : k = 100 := by omega
        subst hkn
        have hfin := Lib.hid HR.out.2.2.2.below
        clear HR
        go_wp2_with fail
        go_ret
        exact ⟨rfl, hfin.out⟩
  · go_wp2_with fail
    refine (oWrite HC3.out 1 2 0 dl (by omega) (by omega) (by omega) (by omega)).mono ?_
    clear HS
    rintro e w4 ⟨q2, rfl, hP⟩
    rw [Haf.out] at hP
    have hs : ∃ s, s.T.Ok ∧ s.C.Ok ∧ K4 dl 0 s ∧ Ow w w4 q2 p s := ⟨⟨toT 129 2 dl, Ct.new 1000⟩, toT_ok _ _ _ (.inr rfl) ⟨by omega, by omega⟩ (by omega) (by omega), new_ok (by omega) (by omega), .inl ⟨rfl, 129, 2, .inr rfl, rfl⟩, hP⟩
    have HS := Lib.hid hs
    clear hs hP HC3
    go_wp2_with fail
    go_loopw [10, 11] (fun nv c wr => ∃ (k : Nat) (n : Int) (s : St), k ≤ 100 ∧ c = .int .i64 k ∧ nv = .int .u64 n ∧ 0 ≤ n ∧ n ≤ 5 * k ∧ Hid (s.T.Ok ∧ s.C.Ok ∧ K4 dl n s ∧ Ow w wr q2 p s))
      (fun nv c _ => 101 - (intOf c).toNat)
    case atStart =>
      obtain ⟨s, h1, h2, h3, h4⟩ := HS.out
      exact ⟨0, 0, s, by omega, rfl, rfl, by omega, by omega, Lib.hid ⟨h1, h2, h3, h4⟩⟩
    case round =>
      obtain ⟨k, n, s, hk, rfl, rfl, hn0, hn1, HR⟩ := hrel
      clear HS
      by_cases hlt : k < 100
      · have hnT : n < 1000 := by omega
        have hstep := Lib.hid (oStep HR.out.2.2.2 HR.out.1 HR.out.2.1 n hn0 (by omega))
        obtain ⟨hJ, hD, hV⟩ := HR.out.2.2.1.step hnT
        have hok := step_ok hn0 (by omega) HR.out.1 HR.out.2.1
        have Hok := Lib.hid hok
        have HJ := Lib.hid hJ
        clear hok hJ HR
        generalize stepS s n = S at *
        have key : ∃ (rv ev : Int) (dv : Bool), resV S = rv ∧ errV S = ev ∧ doneV S = dv ∧ ((dv = true ∧ decide (dl ≤ n) = true ∧ rv = 0 ∧ ev = 14) ∨ (dv = false ∧ decide (dl ≤ n) = false)) := by
          refine ⟨_, _, _, rfl, rfl, rfl, ?_⟩
          by_cases hd : dl ≤ n
          · exact .inl ⟨by rw [hD, decide_eq_true hd], decide_eq_true hd, (hV hd).1, (hV hd).2⟩
          · exact .inr ⟨by rw [hD, decide_eq_false hd], decide_eq_false hd⟩
        obtain ⟨rv, ev, dv, e1, e2, e3, hcase⟩ := key
        rw [e1, e2, e3] at hstep
        clear hD hV e1 e2 e3
        rcases hcase with ⟨rfl, hdd, rfl, rfl⟩ | ⟨rfl, hdd⟩
        all_goals
          go_wp2_with fail
          refine hstep.out.mono ?_
          rintro e w5 ⟨rfl, hP5⟩
          have HP5 := Lib.hid hP5
          have hB5 := HL.out.keep hP5.2.2.1
          clear hP5 hstep
          by_cases hkl : k < len
          · obtain ⟨b, o, h1, h2⟩ := hB5
            obtain rfl := h1 (by omega)
            obtain ⟨g0, ⟨g1, g2⟩, g3⟩ := h2 k hkl
            obtain ⟨y, hy⟩ : ∃ y, L k = y := ⟨_, rfl⟩
            rw [hy] at g1 g2 g3
            clear h1 h2 hy
            go_wp2_with fail
            go_roundw
            case rel => exact ⟨k + 1, n + 1 + y % 5, S, by omega, by go_num, by go_num, by omega, by omega, Lib.hid ⟨Hok.out.1, Hok.out.2, K4_mono HJ.out (by omega), HP5.out⟩⟩
            case measure => simp [intOf]; omega
          · clear hB5
            go_wp2_with fail
            go_roundw
            case rel => exact ⟨k + 1, n + 1, S, by omega, by go_num, by go_num, by omega, by omega, Lib.hid ⟨Hok.out.1, Hok.out.2, K4_mono HJ.out (by omega), HP5.out⟩⟩
            case measure => simp [intOf]; omega
      · have hkn : k = 100 := by omega
        subst hkn
        have hfin := Lib.hid HR.out.2.2.2.below
        clear HR
        go_wp2_with fail
        go_ret
        exact ⟨rfl, hfin.out⟩
end Go.Proofs.Ytbcgcbogcofbjaa.Ec
