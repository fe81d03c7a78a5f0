import Derived.Test.YtjdbhlmkcbgkjaaWkPE
namespace Go.Proofs.Ytjdbhlmkcbgkjaa.Wk
open Go.RowKit Go.Proofs.YtjdbhlmkcbgkjaaW.PrintWords
set_option linter.unusedVariables false
set_option linter.unusedSimpArgs false

set_option maxHeartbeats 3200000 in
set_option maxRecDepth 100000 in
theorem alarm_calls0 (v : Int) (v0 : -9223372036854775808 ≤ v) (v1 : v < 9223372036854775808) (a : Option Addr) (len cap : Nat) (hmax : len ≤ 9223372036854775807) (L : Nat → Cl) (x : Int) (s0 : 0 ≤ x) (s1 : x < 18446744073709551616) (y : Int) (h0 : 0 ≤ y) (h1 : y < 18446744073709551616) (w : World) (hL : CallsAt w a len L) :
    Calls Try.prog 7 #[.int .i64 v, .slice a len cap, .int .u64 x, .int .u64 y] w fun e w' => e = .returned (.bool true) ∧ Below w.heap.size w w' := by
  have HA := Lib.hid awake_calls
  by_cases hbig : 20 < len
  · have hd2 : decide ((20 : Int) < len) = true := decide_eq_true (by omega)
    clear hL
    go_enter Try.func7, Try.ntmps7
    go_wp2_with fail
    refine (HA.out _).mono ?_
    rintro e w' ⟨rfl, hB⟩
    go_wp2_with fail
    go_ret
    exact ⟨rfl, hB⟩
  · have hd2 : decide ((20 : Int) < len) = false := decide_eq_false (by omega)
    obtain ⟨m, hmn, hm4⟩ := umod_nat v 4 (by omega)
    have hM : Hid (∀ W, Calls Try.prog 13 #[.int .i64 v, .int .i64 4] W fun e w' => e = .returned (.int .i64 m) ∧ w' = W) := fun W => by
      have h := mod_calls v 4 v0 v1 (by omega) (by omega) W
      rw [hmn] at h
      exact h
    clear hmn
    have hm3 : m ≤ 3 := by omega
    have hat : ∀ i, i < len → (L i).Ok := by
      obtain ⟨b, o, _, hat⟩ := hL
      exact fun i hi => (hat i hi).2.1
    have hSt : Hid (∀ p, Calls Try.prog 21 #[.int .i64 (1 + (m : Int)), .slice a len cap] w fun e w' => ∃ p lb q ob hb, e = .returned (.tuple #[.pointer (some ⟨p, 0, none⟩), .pointer (some ⟨q, 0, none⟩), .bool true]) ∧ Both w w' p lb q ob hb (startS (m + 1) L len) (startS (m + 1) L len)) := fun (p : True) => by
      have h := lstart_calls (m + 1) (by omega) a len cap (by omega) L w hL
      have e : ((m + 1 : Nat) : Int) = 1 + (m : Int) := by omega
      rw [e] at h
      exact h
    have hlen : len ≤ 50 := by omega
    obtain ⟨A, hAe⟩ : ∃ A, A = startS (m + 1) L len := ⟨_, rfl⟩
    obtain ⟨kA, nA, eA⟩ := start_kept (m + 1) (by omega) L len (by omega) hat len (Nat.le_refl _)
    have cA := start_calm (m + 1) (by omega) L len (by omega) hat len (Nat.le_refl _)
    rw [← hAe] at kA nA eA cA hSt
    clear hAe hat hL
    have eA : A.events ≤ 1700 := by omega
    have cN : A.now ≤ 450 := by have := cA.now; omega
    have cAl := cA.al
    have n0 := kA.now0
    have DK := Lib.hid (fun s hs => deactK_spec kA (by omega) s hs)
    have DS := Lib.hid (fun s hs => deactK_step kA (by omega) s hs)
    have NA := Lib.hid nA
    have CAl := Lib.hid cAl
    clear cA cAl nA
    have hh0 : 0 ≤ x % 40 := by omega
    have hh1 : x % 40 < 40 := by omega
    have hh2 : 0 ≤ y % 80 := by omega
    have hh3 : y % 80 < 80 := by omega
    go_enter Try.func7, Try.ntmps7
    go_wp2_with fail
    refine (hM.out _).mono ?_
    rintro e w1 ⟨rfl, rfl⟩
    go_wp2_with fail
    refine (hSt.out trivial).mono ?_
    rintro e w2 ⟨p, lb, q, ob, hb, rfl, hB⟩
    have HB := Lib.hid hB
    clear hSt hM hB
    go_wp2_with fail
    go_loopw [13] (fun c wr => ∃ s lb2 : Nat, s ≤ m + 1 ∧ c = .int .i64 s ∧ Hid (Both w1 wr p lb2 q ob hb (deactK A s) A))
      (fun c _ => 5 - (intOf c).toNat)
    case atStart => exact ⟨0, lb, by omega, rfl, HB.out⟩
    case round =>
      obtain ⟨s, lb2, hs, rfl, hB⟩ := hrel
      clear HB
      by_cases hlt : s < m + 1
      · have hck := hB.out.clock
        have hsn : s < A.n := by rw [NA.out]; exact hlt
        go_wp2_with fail
        refine (bDeactivate hB.out (DK.out s (by omega)).ok (by have := (DK.out s (by omega)).ev; omega) (DS.out s hsn) (by omega) (by omega) (by omega) (by omega)).mono ?_
        clear hck
        rintro e w3 ⟨rfl, hB3⟩
        have HB3 := Lib.hid hB3
        clear hB hB3
        go_wp2_with fail
        go_roundw
        case rel => exact ⟨s + 1, lb2, by omega, by go_num, HB3⟩
        case measure => simp [intOf]; omega
      · have hkn : s = m + 1 := by omega
        subst hkn
        have D := DK.out (m + 1) (by rw [NA.out]; exact Nat.le_refl _)
        have dn := D.n
        have hn5 : A.n = m + 1 := NA.out
        have hck := hB.out.clock
        obtain ⟨A1, A2, A3, A4, A5, A6, e, p1, k1, v1, p2, k2, v2, p3, k3, v3, e0, e1, p4, k4, v4, p5, k5, v5, p6, k6, v6⟩ := alarm_chain D.ok (by have := D.ev; omega) (fun i hi => D.off i (by omega)) (t := A.now + 30) (fun hs => by
            obtain ⟨r1, r2⟩ := D.al hs
            have := CAl.out r1
            omega) (by rw [D.now]; omega) (by omega) (d := 1 + x % 40) (by omega) (by omega) (x := A.now + 30 + 1 + y % 80) (by omega) (by omega)
        have P1 := Lib.hid p1
        have P2 := Lib.hid p2
        have P3 := Lib.hid p3
        have P4 := Lib.hid p4
        have P5 := Lib.hid p5
        have P6 := Lib.hid p6
        have X3 := Lib.hid v3
        have X4 := Lib.hid v4
        have X5 := Lib.hid v5
        have X6 := Lib.hid v6
        have D2 := Lib.hid D
        clear p1 p2 p3 p4 p5 p6 v3 v4 v5 v6 dn hn5 D
        go_wp2_with fail
        refine (bAdvance hB.out D2.out.ok (by have := D2.out.ev; omega) P1.out (by omega) (by omega)).mono ?_
        clear hck
        rintro e1 w3 ⟨rfl, hB3⟩
        have B3 := Lib.hid hB3
        clear hB hB3
        go_wp2_with fail
        refine (bSetAlarm B3.out k1 (by omega) P2.out (by omega) (by omega) (by omega) (by omega)).mono ?_
        rintro e1 w4 ⟨rfl, hB4⟩
        have B4 := Lib.hid hB4
        clear B3 hB4
        go_wp2_with fail
        refine (bSetAlarm B4.out k2 (by omega) P3.out (by omega) (by omega) (by omega) (by omega)).mono ?_
        rintro e1 w5 ⟨rfl, hB5⟩
        have B5 := Lib.hid hB5
        clear B4 hB5
        go_wp2_with fail
        refine (bCounts B5.out k3.n X3.out rfl).mono ?_
        rintro e1 w6 ⟨rfl, hB6⟩
        have B6 := Lib.hid hB6
        clear B5 hB6
        go_wp2_with fail
        refine (bAdvance B6.out k3 (by have := X3.out; omega) P4.out (by omega) (by omega)).mono ?_
        rintro e1 w7 ⟨rfl, hB7⟩
        have B7 := Lib.hid hB7
        clear B6 hB7
        go_wp2_with fail
        refine (bCounts B7.out k4.n X4.out rfl).mono ?_
        rintro e1 w8 ⟨rfl, hB8⟩
        have B8 := Lib.hid hB8
        clear B7 hB8
        go_wp2_with fail
        refine (bAdvance B8.out k4 (by have := X4.out; omega) P5.out (by omega) (by omega)).mono ?_
        rintro e1 w9 ⟨rfl, hB9⟩
        have B9 := Lib.hid hB9
        clear B8 hB9
        go_wp2_with fail
        refine (bCounts B9.out k5.n X5.out rfl).mono ?_
        rintro e1 w10 ⟨rfl, hB10⟩
        have B10 := Lib.hid hB10
        clear B9 hB10
        go_wp2_with fail
        refine (bAdvance B10.out k5 (by have := X5.out; omega) P6.out (by omega) (by omega)).mono ?_
        rintro e1 w11 ⟨rfl, hB11⟩
        have B11 := Lib.hid hB11
        clear B10 hB11
        go_wp2_with fail
        refine (bCounts B11.out k6.n X6.out rfl).mono ?_
        rintro e1 w12 ⟨rfl, hB12⟩
        have B12 := Lib.hid hB12
        clear B11 hB12
        go_wp2_with fail
        refine (HA.out _).mono ?_
        rintro e1 wz ⟨rfl, hBz⟩
        go_wp2_with fail
        go_ret
        exact ⟨rfl, B12.out.bel.trans (hBz.mono B12.out.bel.size)⟩
end Go.Proofs.Ytjdbhlmkcbgkjaa.Wk
