import Derived.Test.YtjdbhlmkcbgkjaaWkZ
namespace Go.Proofs.Ytjdbhlmkcbgkjaa.Wk
open Go.RowKit Go.Proofs.YtjdbhlmkcbgkjaaW.PrintWords
set_option linter.unusedVariables false
set_option linter.unusedSimpArgs false

set_option maxHeartbeats 3200000 in
set_option maxRecDepth 100000 in
theorem pulseEnds_calls (v : Int) (v0 : -9223372036854775808 ≤ v) (v1 : v < 9223372036854775808) (a : Option Addr) (len cap : Nat) (hmax : len ≤ 9223372036854775807) (L : Nat → Cl) (src : Int) (s0 : -9223372036854775808 ≤ src) (s1 : src < 9223372036854775808) (hold : Int) (h0 : 0 ≤ hold) (h1 : hold < 18446744073709551616) (w : World) (hL : CallsAt w a len L) :
    Calls Try.prog 6 #[.int .i64 v, .slice a len cap, .int .i64 src, .int .u64 hold] w fun e w' => e = .returned (.bool true) ∧ Below w.heap.size w w' := by
  have HA := Lib.hid awake_calls
  by_cases hbig : 20 < len
  · have hd2 : decide ((20 : Int) < len) = true := decide_eq_true (by omega)
    clear hL
    go_enter Try.func6, Try.ntmps6
    go_wp2_with fail
    refine (HA.out _).mono ?_
    rintro e w' ⟨rfl, hB⟩
    go_wp2_with fail
    go_ret
    exact ⟨rfl, hB⟩
  · have hd2 : decide ((20 : Int) < len) = false := decide_eq_false (by omega)
    obtain ⟨m, hmn, hm4⟩ := umod_nat v 4 (by omega)
    have hM : Hid (∀ W, Calls Try.prog 13 #[.int .i64 v, .int .i64 4] W fun e w' => e = .returned (.int .i64 m) ∧ w' = W) := fun W => by
      have h := mod_calls v 4 v0 v1 (by omega) (by omega) W
      rw [hmn] at h
      exact h
    clear hmn
    have hm3 : m ≤ 3 := by omega
    have hat : ∀ i, i < len → (L i).Ok := by
      obtain ⟨b, o, _, hat⟩ := hL
      exact fun i hi => (hat i hi).2.1
    have hSt : Hid (∀ p, Calls Try.prog 21 #[.int .i64 (1 + (m : Int)), .slice a len cap] w fun e w' => ∃ p lb q ob hb, e = .returned (.tuple #[.pointer (some ⟨p, 0, none⟩), .pointer (some ⟨q, 0, none⟩), .bool true]) ∧ Both w w' p lb q ob hb (startS (m + 1) L len) (startS (m + 1) L len)) := fun (p : True) => by
      have h := lstart_calls (m + 1) (by omega) a len cap (by omega) L w hL
      have e : ((m + 1 : Nat) : Int) = 1 + (m : Int) := by omega
      rw [e] at h
      exact h
    have hlen : len ≤ 50 := by omega
    obtain ⟨A, hAe⟩ : ∃ A, A = startS (m + 1) L len := ⟨_, rfl⟩
    obtain ⟨kA, nA, eA⟩ := start_kept (m + 1) (by omega) L len (by omega) hat len (Nat.le_refl _)
    have cA := start_calm (m + 1) (by omega) L len (by omega) hat len (Nat.le_refl _)
    rw [← hAe] at kA nA eA cA hSt
    clear hAe hat hL
    have eA : A.events ≤ 1700 := by omega
    have cN : A.now ≤ 450 := by have := cA.now; omega
    have cAl := cA.al
    have n0 := kA.now0
    have DK := Lib.hid (fun s hs => deactK_spec kA (by omega) s hs)
    have DS := Lib.hid (fun s hs => deactK_step kA (by omega) s hs)
    have NA := Lib.hid nA
    have CAl := Lib.hid cAl
    clear cA cAl nA
    have hh0 : 0 ≤ hold % 50 := by omega
    have hh1 : hold % 50 < 50 := by omega
    obtain ⟨j, hj, hjm⟩ := umod_nat src (1 + (m : Int)) (by omega)
    have hM2 : Hid (∀ W, Calls Try.prog 13 #[.int .i64 src, .int .i64 (1 + (m : Int))] W fun e w' => e = .returned (.int .i64 j) ∧ w' = W) := fun W => by
      have h := mod_calls src (1 + (m : Int)) s0 s1 (by omega) (by omega) W
      rw [hj] at h
      exact h
    clear hj
    go_enter Try.func6, Try.ntmps6
    go_wp2_with fail
    refine (hM.out _).mono ?_
    rintro e w1 ⟨rfl, rfl⟩
    go_wp2_with fail
    refine (hSt.out trivial).mono ?_
    rintro e w2 ⟨p, lb, q, ob, hb, rfl, hB⟩
    have HB := Lib.hid hB
    clear hSt hM hB
    go_wp2_with fail
    go_loopw [13] (fun c wr => ∃ s lb2 : Nat, s ≤ m + 1 ∧ c = .int .i64 s ∧ Hid (Both w1 wr p lb2 q ob hb (deactK A s) A))
      (fun c _ => 5 - (intOf c).toNat)
    case atStart => exact ⟨0, lb, by omega, rfl, HB.out⟩
    case round =>
      obtain ⟨s, lb2, hs, rfl, hB⟩ := hrel
      clear HB
      by_cases hlt : s < m + 1
      · have hck := hB.out.clock
        have hsn : s < A.n := by rw [NA.out]; exact hlt
        go_wp2_with fail
        refine (bDeactivate hB.out (DK.out s (by omega)).ok (by have := (DK.out s (by omega)).ev; omega) (DS.out s hsn) (by omega) (by omega) (by omega) (by omega)).mono ?_
        clear hck
        rintro e w3 ⟨rfl, hB3⟩
        have HB3 := Lib.hid hB3
        clear hB hB3
        go_wp2_with fail
        go_roundw
        case rel => exact ⟨s + 1, lb2, by omega, by go_num, HB3⟩
        case measure => simp [intOf]; omega
      · have hkn : s = m + 1 := by omega
        subst hkn
        have D := DK.out (m + 1) (by rw [NA.out]; exact Nat.le_refl _)
        have dn := D.n
        have hn5 : A.n = m + 1 := NA.out
        have hck := hB.out.clock
        obtain ⟨A1, A2, A3, A4, e, p1, a1, a2, a3, a4, a5, p2, b1, b2, b3, b4, p3, c1, c2, c3, c4, p4, d1, d2, d3⟩ := pulse_chain D.ok (by have := D.ev; omega) (fun i hi => D.off i (by omega)) (t := A.now + 30) (fun hs => by
            obtain ⟨r1, r2⟩ := D.al hs
            have := CAl.out r1
            omega) (by rw [D.now]; omega) (by omega) (j := j) (by omega) (h := 1 + hold % 50) (by omega) (by omega)
        have P1 := Lib.hid p1
        have P2 := Lib.hid p2
        have P3 := Lib.hid p3
        have P4 := Lib.hid p4
        have X3 := Lib.hid a5
        have X4 := Lib.hid b3
        have X5 := Lib.hid b4
        have X6 := Lib.hid c3
        have X7 := Lib.hid c4
        have X8 := Lib.hid d2
        have X9 := Lib.hid d3
        have D2 := Lib.hid D
        clear p1 p2 p3 p4 a5 b3 b4 c3 c4 d2 d3 dn hn5 D
        go_wp2_with fail
        refine (bAdvance hB.out D2.out.ok (by have := D2.out.ev; omega) P1.out (by omega) (by omega)).mono ?_
        clear hck
        rintro e1 w3 ⟨rfl, hB3⟩
        have B3 := Lib.hid hB3
        clear hB hB3
        go_wp2_with fail
        refine (bCounts B3.out a2 X3.out rfl).mono ?_
        rintro e1 w4 ⟨rfl, hB4⟩
        have B4 := Lib.hid hB4
        clear B3 hB4
        go_wp2_with fail
        refine (hM2.out _).mono ?_
        rintro e1 w4 ⟨rfl, rfl⟩
        go_wp2_with fail
        refine (bPulse B4.out a1 (by have := X3.out; omega) P2.out (by omega) (by omega) (by omega) (by omega) (by omega) (by omega)).mono ?_
        rintro e1 w5 ⟨rfl, hB5⟩
        have B5 := Lib.hid hB5
        clear B4 hB5
        go_wp2_with fail
        refine (bCounts B5.out b2 X4.out X5.out).mono ?_
        rintro e1 w6 ⟨rfl, hB6⟩
        have B6 := Lib.hid hB6
        clear B5 hB6
        go_wp2_with fail
        refine (bAdvance B6.out b1 (by have := X4.out; omega) P3.out (by omega) (by omega)).mono ?_
        rintro e1 w7 ⟨rfl, hB7⟩
        have B7 := Lib.hid hB7
        clear B6 hB7
        go_wp2_with fail
        refine (bCounts B7.out c2 X6.out X7.out).mono ?_
        rintro e1 w8 ⟨rfl, hB8⟩
        have B8 := Lib.hid hB8
        clear B7 hB8
        go_wp2_with fail
        refine (bAdvance B8.out c1 (by have := X6.out; omega) P4.out (by omega) (by omega)).mono ?_
        rintro e1 w9 ⟨rfl, hB9⟩
        have B9 := Lib.hid hB9
        clear B8 hB9
        go_wp2_with fail
        refine (bCounts B9.out d1 X8.out X9.out).mono ?_
        rintro e1 w10 ⟨rfl, hB10⟩
        have B10 := Lib.hid hB10
        clear B9 hB10
        go_wp2_with fail
        refine (HA.out _).mono ?_
        rintro e1 w11 ⟨rfl, hB11⟩
        go_wp2_with fail
        go_ret
        exact ⟨rfl, B10.out.bel.trans (hB11.mono B10.out.bel.size)⟩
end Go.Proofs.Ytjdbhlmkcbgkjaa.Wk
