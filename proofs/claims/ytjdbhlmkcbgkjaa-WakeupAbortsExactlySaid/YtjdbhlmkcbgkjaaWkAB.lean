import Derived.Test.YtjdbhlmkcbgkjaaWkNE
namespace Go.Proofs.Ytjdbhlmkcbgkjaa.Wk
open Go.RowKit Go.Proofs.YtjdbhlmkcbgkjaaW.PrintWords
set_option linter.unusedVariables false
set_option linter.unusedSimpArgs false


/-! ### After Arm -/
theorem deactK_ring {A : St} (hA : A.Ok) (s : Nat) : (deactK A (s + 1)).ring A.now = false := by
  obtain ⟨_, _, _, _, d5, d6, _⟩ := deact_rest ((deactK A s).adv A.now) s
  show (deactS ((deactK A s).adv A.now) s).ring A.now = false
  unfold St.ring
  rw [d5, d6]
  exact adv_ring (deactK A s) A.now
theorem arm_yes {D : St} (hD : D.Ok) (he : D.events ≤ 1000000) (hoff : ∀ i, i < D.n → D.on i = false) (hr : D.ring D.now = false) :
    ∃ F, D.Arm D.events D.now = (0, F) ∧ F.Ok ∧ F.n = D.n ∧ F.events = D.events ∧ F.rem = D.events ∧ F.armed = true ∧ F.M = D.events ∧ F.must = false ∧ F.now = D.now := by
  have ha : D.adv D.now = D := by rw [off_adv hoff _ hr]
  have hc := off_cnt hoff
  have e0 := hD.ev0
  refine ⟨{ D with armed := true, rem := D.events }, ?_, ⟨hD.n, hD.now0, hD.now1, hD.ev0, hD.al0, hD.al1, hD.alz, hD.hd0, hD.hd1, hD.hdz, by show _ ≤ D.events; omega, ?_⟩, rfl, rfl, rfl, rfl, ?_, ?_, rfl⟩
  · unfold St.Arm
    rw [late_now hD, ha, if_neg (by simp), if_neg]
    rintro (h | h)
    · exact h rfl
    · omega
  · show D.events < _; omega
  · show D.events + (D.cnt : Int) = _
    rw [hc]; simp
  · show (true && (decide (D.events ≠ D.events) || decide (0 < D.cnt))) = false
    rw [hc]; simp

def abS (E : Int) (n : Int) (L : Nat → Cl) (A : St) : Nat → St
  | 0 => A
  | i + 1 => if umod (L i).kind 9 = 7 then abS E n L A i else ((abS E n L A i).step (L i).kind ((L i).noraw.at n (abS E n L A i).now E)).2
structure AbOk (E : Int) (A D : St) (i : Nat) : Prop where
  ok : D.Ok
  n : D.n = A.n
  ev : D.events ≤ A.events + i * 34
  e0 : E ≤ D.events
  rem : D.rem = E
theorem ab_ok {E : Int} (hE0 : 0 ≤ E) (hE1 : E ≤ 1000000) {A : St} (n : Int) (n1 : n < 9223372036854775808) (hA : A.Ok) (he : A.events ≤ 1000000) (h0 : E ≤ A.events) (hM : A.rem = E) (L : Nat → Cl) (len : Nat) (hlen : len ≤ 1000) (hL : ∀ i, i < len → (L i).Ok) : ∀ i, i ≤ len → AbOk E A (abS E n L A i) i
  | 0, _ => ⟨hA, rfl, by show A.events ≤ _; omega, h0, hM⟩
  | i + 1, hi => by
    have ih := ab_ok hE0 hE1 n n1 hA he h0 hM L len hlen hL i (by omega)
    have hev := ih.ev
    have hn := hA.n
    have i1 := ih.n
    have i2 := ih.e0
    unfold abS
    by_cases h7 : umod (L i).kind 9 = 7
    · rw [if_pos h7]
      exact ⟨ih.ok, ih.n, by omega, ih.e0, ih.rem⟩
    · rw [if_neg h7]
      have hX := Cl.at_ok (hL i (by omega)).noraw n (abS E n L A i).now E n1 ih.ok.now0 ih.ok.now1 (by omega) (by omega)
      have hk := step_kept (k := (L i).kind) ih.ok hX (by omega)
      have hr := step_armed ih.ok hX h7
      have k1 := hk.ev0
      have k2 := hk.ev1
      exact ⟨hk.ok, hk.n.trans i1, by omega, by omega, hr.1.trans ih.rem⟩
theorem begun_bool {e E : Int} {c : Nat} (h : E ≤ e) : decide (E < e + (c : Int)) = (decide (e ≠ E) || decide (0 < c)) := by
  by_cases h1 : e = E
  · by_cases h2 : 0 < c
    · simp [h1, h2]; omega
    · simp [h1]; omega
  · simp [h1]; omega

theorem rbDeactivate {w0 w : World} {p lb q ob hb : Nat} {A B C : St} (h : Both w0 w p lb q ob hb A B) (hA : B.Ok) (he : B.events ≤ 900000000) {k t r : Int} (hE : B.Deactivate k t = (r, C)) (k0 : -9223372036854775808 ≤ k) (k1 : k < 9223372036854775808) (t0 : 0 ≤ t) (t1 : t < 18446744073709551616) :
    Calls Try.prog 27 #[.pointer (some ⟨q, 0, none⟩), .int .i64 k, .int .u64 t] w fun e w' => e = .returned (.int .i64 r) ∧ Both w0 w' p lb q ob hb A C := by
  refine (rdeactivate_calls q ob hb B k t k0 k1 t0 t1 w hA he h.rm).mono ?_
  rintro e w' ⟨rfl, hm, hf⟩
  rw [hE] at hm ⊢
  exact ⟨rfl, h.wanted hm hf⟩
theorem rbArm {w0 w : World} {p lb q ob hb : Nat} {A B C : St} (h : Both w0 w p lb q ob hb A B) (hA : B.Ok) (he : B.events ≤ 900000000) {ev t r : Int} (hE : B.Arm ev t = (r, C)) (e0 : -9223372036854775808 ≤ ev) (e1 : ev < 9223372036854775808) (t0 : 0 ≤ t) (t1 : t < 18446744073709551616) :
    Calls Try.prog 28 #[.pointer (some ⟨q, 0, none⟩), .int .i64 ev, .int .u64 t] w fun e w' => e = .returned (.int .i64 r) ∧ Both w0 w' p lb q ob hb A C := by
  refine (rarm_calls q ob hb B ev t e0 e1 t0 t1 w hA he h.rm).mono ?_
  rintro e w' ⟨rfl, hm, hf⟩
  rw [hE] at hm ⊢
  exact ⟨rfl, h.wanted hm hf⟩
set_option maxHeartbeats 6400000 in
set_option maxRecDepth 100000 in
theorem aborts_calls (v : Int) (v0 : -9223372036854775808 ≤ v) (v1 : v < 9223372036854775808) (a : Option Addr) (len cap : Nat) (hmax : len ≤ 9223372036854775807) (L : Nat → Cl) (a' : Option Addr) (len' cap' : Nat) (hmax' : len' ≤ 9223372036854775807) (L' : Nat → Cl)
    (w : World) (hL : CallsAt w a len L) (hL' : CallsAt w a' len' L') :
    Calls Try.prog 5 #[.int .i64 v, .slice a len cap, .slice a' len' cap'] w fun e w' => e = .returned (.bool true) ∧ Below w.heap.size w w' := by
  have HA := Lib.hid awake_calls
  by_cases hbig : 20 < len ∨ 20 < len'
  · clear hL hL'
    by_cases hb1 : 20 < len
    · have hd2 : decide ((20 : Int) < len) = true := decide_eq_true (by omega)
      go_enter Try.func5, Try.ntmps5
      go_wp2_with fail
      refine (HA.out _).mono ?_
      rintro e w' ⟨rfl, hB⟩
      go_wp2_with fail
      go_ret
      exact ⟨rfl, hB⟩
    · have hd2 : decide ((20 : Int) < len) = false := decide_eq_false (by omega)
      have hd3 : decide ((20 : Int) < len') = true := decide_eq_true (by omega)
      go_enter Try.func5, Try.ntmps5
      go_wp2_with fail
      refine (HA.out _).mono ?_
      rintro e w' ⟨rfl, hB⟩
      go_wp2_with fail
      go_ret
      exact ⟨rfl, hB⟩
  · have hd2 : decide ((20 : Int) < len) = false := decide_eq_false (by omega)
    have hd3 : decide ((20 : Int) < len') = false := decide_eq_false (by omega)
    obtain ⟨m, hmn, hm4⟩ := umod_nat v 4 (by omega)
    have hM : Hid (∀ W, Calls Try.prog 13 #[.int .i64 v, .int .i64 4] W fun e w' => e = .returned (.int .i64 m) ∧ w' = W) := fun W => by
      have h := mod_calls v 4 v0 v1 (by omega) (by omega) W
      rw [hmn] at h
      exact h
    clear hmn
    have hm3 : m ≤ 3 := by omega
    have hat : ∀ i, i < len → (L i).Ok := by
      obtain ⟨b, o, _, hat⟩ := hL
      exact fun i hi => (hat i hi).2.1
    have hSt : Hid (True → Calls Try.prog 21 #[.int .i64 (1 + (m : Int)), .slice a len cap] w fun e w' => ∃ p lb q ob hb, e = .returned (.tuple #[.pointer (some ⟨p, 0, none⟩), .pointer (some ⟨q, 0, none⟩), .bool true]) ∧ Both w w' p lb q ob hb (startS (m + 1) L len) (startS (m + 1) L len)) := fun _ => by
      have h := lstart_calls (m + 1) (by omega) a len cap (by omega) L w hL
      have e : ((m + 1 : Nat) : Int) = 1 + (m : Int) := by omega
      rw [e] at h
      exact h
    have hlen : len ≤ 50 := by omega
    have hlen' : len' ≤ 20 := by omega
    obtain ⟨A, hAe⟩ : ∃ A, A = startS (m + 1) L len := ⟨_, rfl⟩
    obtain ⟨kA, nA, eA⟩ := start_kept (m + 1) (by omega) L len (by omega) hat len (Nat.le_refl _)
    rw [← hAe] at kA nA eA hSt
    clear hAe hat hL
    have eA : A.events ≤ 1700 := by omega
    have n0 := kA.now0
    have n1 := kA.now1
    have NA := Lib.hid nA
    clear nA
    have DK := Lib.hid (fun s hs => deactK_spec kA (by omega) s hs)
    have DS := Lib.hid (fun s hs => deactK_step kA (by omega) s hs)
    have DR := Lib.hid (deactK_ring kA m)
    obtain ⟨b, o, ha', hat'⟩ := hL'
    have Hat := Lib.hid hat'
    have HF : Hid (∀ (E : Int) (B : St), 0 ≤ E → E ≤ 1000000 → B.Ok → B.events = E → B.rem = E → Hid (∀ i, i ≤ len' → AbOk E B (abS E (1 + (m : Int)) L' B i) i)) := fun E B h1 h2 h3 h4 h5 => ab_ok h1 h2 (1 + (m : Int)) (by omega) h3 (by omega) (by omega) h5 L' len' (by omega) (fun i hi => (hat' i hi).2.1)
    clear hat'
    go_enter Try.func5, Try.ntmps5
    go_wp2_with fail
    refine (hM.out _).mono ?_
    rintro e w1 ⟨rfl, rfl⟩
    go_wp2_with fail
    refine (hSt.out trivial).mono ?_
    rintro e w2 ⟨p, lb, q, ob, hb, rfl, hB⟩
    have HB := Lib.hid hB
    clear hSt hM hB
    go_wp2_with fail
    go_loopw [11] (fun c wr => ∃ s lb2 : Nat, s ≤ m + 1 ∧ c = .int .i64 s ∧ Hid (Both w1 wr p lb2 q ob hb (deactK A s) (deactK A s)))
      (fun c _ => 5 - (intOf c).toNat)
    case atStart => exact ⟨0, lb, by omega, rfl, HB.out⟩
    case round =>
      obtain ⟨s, lb2, hs, rfl, hB⟩ := hrel
      clear HB
      by_cases hlt : s < m + 1
      · have hck := hB.out.clock
        have hsn : s < A.n := by rw [NA.out]; exact hlt
        have hnw := (DK.out s (by omega)).now
        rw [hnw] at hck
        have Hnw := Lib.hid hnw
        clear hnw
        go_wp2_with fail
        refine (bDeactivate hB.out (DK.out s (by omega)).ok (by have := (DK.out s (by omega)).ev; omega) (DS.out s hsn) (by omega) (by omega) (by omega) (by omega)).mono ?_
        clear hck
        rintro e w3 ⟨rfl, hB3⟩
        have HB3 := Lib.hid hB3
        have hck := hB3.clock
        rw [Hnw.out] at hck
        clear hB hB3
        go_wp2_with fail
        refine (rbDeactivate HB3.out (DK.out s (by omega)).ok (by have := (DK.out s (by omega)).ev; omega) (DS.out s hsn) (by omega) (by omega) (by omega) (by omega)).mono ?_
        clear hck
        rintro e w4 ⟨rfl, hB4⟩
        have HB4 := Lib.hid hB4
        clear HB3 hB4
        go_wp2_with fail
        go_roundw
        case rel => exact ⟨s + 1, lb2, by omega, by go_num, HB4⟩
        case measure => simp [intOf]; omega
      · have hkn : s = m + 1 := by omega
        subst hkn
        have D := DK.out (m + 1) (by rw [NA.out]; exact Nat.le_refl _)
        have hoff : ∀ i, i < (deactK A (m + 1)).n → (deactK A (m + 1)).on i = false := fun i hi => D.off i (by rw [D.n, NA.out] at hi; exact hi)
        have hrg : (deactK A (m + 1)).ring (deactK A (m + 1)).now = false := by rw [D.now]; exact DR.out
        have hdev : (deactK A (m + 1)).events ≤ 2000 := by have := D.ev; omega
        obtain ⟨F, f1, f2, f3, f4, f5, f6, f7, f8, f9⟩ := arm_yes D.ok (by omega) hoff hrg
        have dc := off_cnt hoff
        have dok := D.ok
        have hB2 := hB
        clear hB DK DS DR D hoff hrg
        generalize deactK A (m + 1) = D at *
        have e0 := dok.ev0
        have dn0 := dok.now0
        have dn1 := dok.now1
        generalize hEe : D.events = E at *
        have HEe := Lib.hid hEe
        have F1 := Lib.hid f1
        have F4 := Lib.hid f4
        have F5 := Lib.hid f5
        have F6 := Lib.hid f6
        have F7 := Lib.hid f7
        have F8 := Lib.hid f8
        have F9 := Lib.hid f9
        have F3 := Lib.hid f3
        have DC := Lib.hid dc
        clear hEe f1 f4 f5 f6 f7 f8 f9 f3 dc
        go_wp2_with fail
        refine (bCounts hB2.out dok.n HEe.out DC.out).mono ?_
        rintro e w3 ⟨rfl, hB3⟩
        have HB3 := Lib.hid hB3
        have hck := hB3.clock
        clear hB2 hB3
        go_wp2_with fail
        refine (bArm HB3.out dok (by have := HEe.out; omega) F1.out (by omega) (by omega) (by omega) (by omega)).mono ?_
        clear hck
        rintro e w4 ⟨rfl, lb4, hB4⟩
        have HB4 := Lib.hid hB4
        clear HB3 hB4
        go_wp2_with fail
        refine (bMust HB4.out f2.n F8.out).mono ?_
        rintro e w5 ⟨rfl, hB5⟩
        have HB5 := Lib.hid hB5
        have hck := hB5.clock
        clear HB4 hB5
        go_wp2_with fail
        refine (rbArm HB5.out dok (by have := HEe.out; omega) F1.out (by omega) (by omega) (by omega) (by omega)).mono ?_
        clear hck
        rintro e w6 ⟨rfl, hB6⟩
        have HB6 := Lib.hid hB6
        have AB := HF.out E F e0 (by omega) f2 F4.out F5.out
        clear HB5 hB6 HF
        go_wp2_with fail
        go_loopw [14, 15, 16] (fun bg ar c wr => ∃ (k lb2 : Nat) (xb xa : Bool), k ≤ len' ∧ c = .int .i64 k ∧ bg = .bool xb ∧ ar = .bool xa ∧ Hid (xb = decide (E < (abS E (1 + (m : Int)) L' F k).M)) ∧ Hid (xa = (abS E (1 + (m : Int)) L' F k).armed) ∧ Hid (Both w1 wr p lb2 q ob hb (abS E (1 + (m : Int)) L' F k) (abS E (1 + (m : Int)) L' F k)))
          (fun _ _ c _ => len' - (intOf c).toNat)
        case atStart =>
          refine ⟨0, lb4, false, true, by omega, rfl, rfl, rfl, Lib.hid ?_, Lib.hid ?_, HB6⟩
          · show false = decide (E < F.M)
            rw [F7.out]; simp
          · exact F6.out.symm
        case round =>
          clear HB6
          obtain ⟨k, lb2, xb, xa, hk, rfl, rfl, rfl, hxb, hxa, hB⟩ := hrel
          have hz := Lib.hid (AB.out k (by omega))
          by_cases hlt : k < len'
          · obtain rfl := ha' (by omega)
            clear ha'
            obtain ⟨g0, g1, hcat⟩ := Hat.out k hlt
            have hs : abS E (1 + (m : Int)) L' F (k + 1) = if umod (L' k).kind 9 = 7 then abS E (1 + (m : Int)) L' F k else ((abS E (1 + (m : Int)) L' F k).step (L' k).kind ((L' k).noraw.at (1 + (m : Int)) (abS E (1 + (m : Int)) L' F k).now E)).2 := rfl
            have Hs := Lib.hid hs
            have hz2 := Lib.hid (AB.out (k + 1) (by omega))
            clear hs AB
            generalize abS E (1 + (m : Int)) L' F k = D at hB hz hxb hxa Hs
            generalize hc : L' k = c at *
            have KC : Hid (CAt wr b (o + k * 6) c) := CAt.below hcat hB.out.bel g0
            clear hcat hc Hat
            have d2 := hz.out.ok
            have d3 : D.events ≤ 4000 := by have := hz.out.ev; have := F4.out; omega
            have d4 := d2.now0
            have d5 := d2.now1
            have hK9 : Hid (∀ W, Calls Try.prog 13 #[.int .i64 c.kind, .int .i64 9] W fun e w' => e = .returned (.int .i64 (umod c.kind 9)) ∧ w' = W) := fun W => mod_calls c.kind 9 g1.k0 g1.k1 (by omega) (by omega) W
            have hu0 := umod_nn c.kind 9 (by omega)
            have hu1 := umod_lt c.kind 9 (by omega)
            have kc := KC.out
            obtain ⟨c0, c1, c2, c3, c4, c5⟩ := kc
            by_cases h7 : umod c.kind 9 = 7
            · have hs := Hs.out
              rw [if_pos h7] at hs
              have Hs := Lib.hid hs
              have hb7 : (umod c.kind 9 == 7) = true := by simp [h7]
              clear hs h7
              generalize umod c.kind 9 = u at hK9 hu0 hu1 hb7
              go_wp2_with fail
              refine (hK9.out _).mono ?_
              clear c0 c1 c2 c3 c4 c5
              rintro e w8 ⟨rfl, rfl⟩
              go_wp2_with fail
              go_roundw
              case rel => exact ⟨k + 1, lb2, xb, xa, by omega, by go_num, rfl, rfl, by rw [Hs.out]; exact hxb, by rw [Hs.out]; exact hxa, by rw [Hs.out]; exact hB.out.keep ((Fr.refl _ _).alloc _)⟩
              case measure => simp [intOf]; omega
            · have hs := Hs.out
              rw [if_neg h7] at hs
              have hX := Cl.at_ok g1.noraw (1 + (m : Int)) D.now E (by omega) d4 d5 (by omega) (by omega)
              have hAt : Hid (∀ W, Calls Try.prog 14 #[.agg #[.int .i64 c.kind, .int .i64 c.source, .int .u64 c.wait, .int .u64 c.hold, .int .i64 c.events, .bool false], .int .i64 (1 + (m : Int)), .int .u64 D.now, .int .i64 E] W fun e w' => e = .returned (c.noraw.at (1 + (m : Int)) D.now E).val ∧ Fr [] W w') :=
                fun W => at_calls c.noraw g1.noraw (1 + (m : Int)) D.now E (by omega) (by omega) d4 d5 W
              generalize c.noraw.at (1 + (m : Int)) D.now E = x at hAt hX hs
              unfold Ar.val at hAt
              have hSM := step_M (k := c.kind) d2 hX
              have hSA := step_armed (k := c.kind) d2 hX h7
              rw [← hs] at hSM hSA
              have hDo : Hid (∀ lb W, PMem W p lb D → Calls Try.prog 15 #[.pointer (some ⟨p, 0, none⟩), .int .i64 c.kind, .agg #[.int .i64 x.source, .int .u64 x.now, .int .u64 x.other, .int .i64 x.events]] W fun e w' => ∃ lb', (lb' = lb ∨ W.heap.size ≤ lb') ∧ e = .returned (.int .i64 (D.step c.kind x).1) ∧ PMem w' p lb' (D.step c.kind x).2 ∧ Fr [p, lb] W w') :=
                fun lb W hm => do_calls p lb D c.kind g1.k0 g1.k1 x hX W d2 (by omega) hm
              have hWa : Hid (∀ W, RMem W q ob hb D → Calls Try.prog 16 #[.pointer (some ⟨q, 0, none⟩), .int .i64 c.kind, .agg #[.int .i64 x.source, .int .u64 x.now, .int .u64 x.other, .int .i64 x.events]] W fun e w' => e = .returned (.int .i64 (D.step c.kind x).1) ∧ RMem w' q ob hb (D.step c.kind x).2 ∧ Fr [q, ob, hb] W w') :=
                fun W hm => want_calls q ob hb D c.kind g1.k0 g1.k1 x hX W d2 (by omega) hm
              rw [← hs] at hDo hWa
              generalize (D.step c.kind x).1 = er at hDo hWa
              generalize hSk : abS E (1 + (m : Int)) L' F (k + 1) = G at *
              have HSk := Lib.hid hSk
              have HSM := Lib.hid hSM
              have HSA := Lib.hid hSA
              have gev0 := hz2.out.e0
              have gev1 : G.events ≤ 4000 := by have := hz2.out.ev; have := F4.out; omega
              have gn : G.n ≤ 32 := hz2.out.ok.n
              have grem := Lib.hid hz2.out.rem
              have hb7 : (umod c.kind 9 == 7) = false := by simp [h7]
              clear hSk hSM hSA hs hX h7 Hs hz2
              generalize umod c.kind 9 = u at hK9 hu0 hu1 hb7 HSA
              go_wp2_with fail
              refine (hK9.out _).mono ?_
              rintro e w8 ⟨rfl, rfl⟩
              go_upto_region 24 with (fail)
              obtain ⟨cb, hcb⟩ : ∃ cb, cb = wr.heap.size := ⟨_, rfl⟩
              rw [← hcb]
              obtain ⟨W, hW⟩ : ∃ W, W = wr.alloc (.cells (ccells c.noraw) 36) := ⟨_, rfl⟩
              have hW' := hW
              simp only [ccells, Cl.noraw] at hW'
              rw [← hW']
              have HC : Hid (W.heap[cb]? = some (.cells (ccells c.noraw) 36 (0, 0))) := by rw [hW, hcb]; exact heap_alloc_new _ _
              have hBW : Hid (Both w1 W p lb2 q ob hb D D) := by rw [hW]; exact hB.out.keep ((Fr.refl _ _).alloc _)
              clear hW hW' hB c0 c1 c2 c3 c4 c5 hcb
              obtain ⟨oc, hc2, al, al0, al1, al2, hR⟩ := hBW.out.rm.obj
              have HR := Lib.hid hR
              have hqs : q < W.heap.size := lt_of_heap hR
              have hcs : cb < W.heap.size := lt_of_heap HC.out
              clear hR al2
              go_cut [19] (fun s13 wx => ∃ d, s13 = .pointer (some ⟨d, 0, none⟩) ∧ Hid (wx.heap[d]? = some (.cells (acells x) 34 (0, 0))) ∧ Hid (wx.heap[cb]? = some (.cells (ccells c.noraw) 36 (0, 0))) ∧ Hid (Both w1 wx p lb2 q ob hb D D))
              case first =>
                go_region_held3 (fun w => w.cell? ⟨q, 4, none⟩ = some (.int .i64 D.events) ∧ w.cell? ⟨q, 7, none⟩ = some (.int .u64 D.now) ∧ w.cell? ⟨cb, 0, none⟩ = some (.int .i64 c.kind) ∧ w.cell? ⟨cb, 1, none⟩ = some (.int .i64 c.source) ∧ w.cell? ⟨cb, 2, none⟩ = some (.int .u64 c.wait) ∧
                  w.cell? ⟨cb, 3, none⟩ = some (.int .u64 c.hold) ∧ w.cell? ⟨cb, 4, none⟩ = some (.int .i64 c.events) ∧ w.cell? ⟨cb, 5, none⟩ = some (.bool false))
                  (exact at_cells (C := c.noraw) (B := D) (ob := ob) (hb := hb) (oc := oc) (hc := hc2) (al := al) (by (repeat (first | with_reducible exact HC.out | with_reducible exact HR.out | with_reducible exact QC.out | with_reducible exact QR.out | with_reducible refine drewB ?_ | (with_reducible refine alloc_at _ _ ?_; simp; done) | with_reducible refine allocB ?_ _ | (with_reducible refine setB_ne ?_ _ _ ?_; rotate_left; simp; omega)))) (by (repeat (first | with_reducible exact HC.out | with_reducible exact HR.out | with_reducible exact QC.out | with_reducible exact QR.out | with_reducible refine drewB ?_ | (with_reducible refine alloc_at _ _ ?_; simp; done) | with_reducible refine allocB ?_ _ | (with_reducible refine setB_ne ?_ _ _ ?_; rotate_left; simp; omega)))))
                  (first | (go_at_call 14; refine (hAt.out _).mono ?_; rintro e W2 ⟨rfl, hf2⟩; have QC : Hid (W2.heap[cb]? = some (.cells (ccells c.noraw) 36 (0, 0))) := hf2.at (by (repeat (first | with_reducible exact HC.out | with_reducible exact HR.out | with_reducible exact QC.out | with_reducible exact QR.out | with_reducible refine drewB ?_ | (with_reducible refine alloc_at _ _ ?_; simp; done) | with_reducible refine allocB ?_ _ | (with_reducible refine setB_ne ?_ _ _ ?_; rotate_left; simp; omega)))); (try (have QD : W2.heap[W.heap.size]? = some (.cells #[.int .i64 0, .int .u64 0, .int .u64 0, .int .i64 0] 34 (0, 0)) := hf2.at (heap_alloc_new _ _); have d0 : W2.cell? ⟨W.heap.size, 0, none⟩ = some (.int .i64 0) := cellB QD 0; have d1 : W2.cell? ⟨W.heap.size, 1, none⟩ = some (.int .u64 0) := cellB QD 1; have d2 : W2.cell? ⟨W.heap.size, 2, none⟩ = some (.int .u64 0) := cellB QD 2; have d3 : W2.cell? ⟨W.heap.size, 3, none⟩ = some (.int .i64 0) := cellB QD 3; have y0 := frozenB QD 0; have y1 := frozenB QD 1; have y2 := frozenB QD 2; have y3 := frozenB QD 3)); have QR : Hid (W2.heap[q]? = some (.cells (rcells D ob hb oc hc2 al) 41 (0, 0))) := hf2.at (by (repeat (first | with_reducible exact HC.out | with_reducible exact HR.out | with_reducible exact QC.out | with_reducible exact QR.out | with_reducible refine drewB ?_ | (with_reducible refine alloc_at _ _ ?_; simp; done) | with_reducible refine allocB ?_ _ | (with_reducible refine setB_ne ?_ _ _ ?_; rotate_left; simp; omega))))))
                all_goals
                  go_wp2_with fail
                  go_meet
                  first
                    | exact ⟨W.heap.size, rfl, Lib.hid (by rw [setB (setB (setB (setB QD _ _) _ _) _ _) _ _]; rfl), Lib.hid (by (repeat (first | with_reducible exact HC.out | with_reducible exact HR.out | with_reducible exact QC.out | with_reducible exact QR.out | with_reducible refine drewB ?_ | (with_reducible refine alloc_at _ _ ?_; simp; done) | with_reducible refine allocB ?_ _ | (with_reducible refine setB_ne ?_ _ _ ?_; rotate_left; simp; omega)))), Lib.hid (hBW.out.keep (by (repeat (first | exact Fr.refl _ _ | refine Fr.drew ?_ | refine Fr.alloc ?_ _ | refine Fr.setCell ?_ (Or.inr (by simp)) _ | refine Fr.trans ?_ hf2))))⟩
                    | exact ⟨W2.heap.size, rfl, Lib.hid (heap_alloc_new _ _), Lib.hid (by (repeat (first | with_reducible exact HC.out | with_reducible exact HR.out | with_reducible exact QC.out | with_reducible exact QR.out | with_reducible refine drewB ?_ | (with_reducible refine alloc_at _ _ ?_; simp; done) | with_reducible refine allocB ?_ _ | (with_reducible refine setB_ne ?_ _ _ ?_; rotate_left; simp; omega)))), Lib.hid (hBW.out.keep (by (repeat (first | exact Fr.refl _ _ | refine Fr.drew ?_ | refine Fr.alloc ?_ _ | refine Fr.setCell ?_ (Or.inr (by simp)) _ | refine Fr.trans ?_ hf2))))⟩
              case rest =>
                obtain ⟨d, rfl, hd, hc3, hB3⟩ := hcut
                clear hBW HC HR hqs hcs hAt KC
                obtain ⟨n1, n2⟩ := hB3.out.notin_type hd.out (by decide) (by decide) (by decide) (by decide) (by decide)
                obtain ⟨n3, n4⟩ := hB3.out.notin_type hc3.out (by decide) (by decide) (by decide) (by decide) (by decide)
                have d0 : wc.cell? ⟨d, 0, none⟩ = some (.int .i64 x.source) := cellB hd.out 0
                have d1 : wc.cell? ⟨d, 1, none⟩ = some (.int .u64 x.now) := cellB hd.out 1
                have dd2 : wc.cell? ⟨d, 2, none⟩ = some (.int .u64 x.other) := cellB hd.out 2
                have dd3 : wc.cell? ⟨d, 3, none⟩ = some (.int .i64 x.events) := cellB hd.out 3
                have e0 : wc.cell? ⟨cb, 0, none⟩ = some (.int .i64 c.kind) := cellB hc3.out 0
                go_wp2_with fail
                refine (hDo.out _ _ hB3.out.pm).mono ?_
                clear d0 d1 dd2 dd3 e0
                rintro e w8 ⟨lb8, hl8, rfl, hm8, hf8⟩
                have hB8 := Lib.hid (hB3.out.did hl8 hm8 hf8)
                have hd8 : Hid (w8.heap[d]? = some (.cells (acells x) 34 (0, 0))) := (hf8.block d (lt_of_heap hd.out) n1).trans hd.out
                have hc8 : Hid (w8.heap[cb]? = some (.cells (ccells c.noraw) 36 (0, 0))) := (hf8.block cb (lt_of_heap hc3.out) n3).trans hc3.out
                have d0 : w8.cell? ⟨d, 0, none⟩ = some (.int .i64 x.source) := cellB hd8.out 0
                have d1 : w8.cell? ⟨d, 1, none⟩ = some (.int .u64 x.now) := cellB hd8.out 1
                have dd2 : w8.cell? ⟨d, 2, none⟩ = some (.int .u64 x.other) := cellB hd8.out 2
                have dd3 : w8.cell? ⟨d, 3, none⟩ = some (.int .i64 x.events) := cellB hd8.out 3
                have e0 : w8.cell? ⟨cb, 0, none⟩ = some (.int .i64 c.kind) := cellB hc8.out 0
                clear hl8 hm8 hf8 hB3 hd hc3 n1 n3 hDo
                go_wp2_with fail
                refine (hWa.out _ hB8.out.rm).mono ?_
                clear d0 d1 dd2 dd3 e0
                rintro e w9 ⟨rfl, hm9, hf9⟩
                have hB9 := Lib.hid (hB8.out.wanted hm9 hf9)
                have hc9 : Hid (w9.heap[cb]? = some (.cells (ccells c.noraw) 36 (0, 0))) := (hf9.block cb (lt_of_heap hc8.out) n4).trans hc8.out
                have e0 : w9.cell? ⟨cb, 0, none⟩ = some (.int .i64 c.kind) := cellB hc9.out 0
                clear hB8 hm9 hf9 hWa hd8 hc8 n2 n4 hc9
                have hbb := begun_bool (E := E) (e := G.events) (c := G.cnt) gev0
                have hmu : G.must = (G.armed && (decide (G.events ≠ E) || decide (0 < G.cnt))) := by unfold St.must; rw [grem.out]
                rw [← hbb] at hmu
                have hMe : G.M = G.events + G.cnt := rfl
                have hSMo := HSM.out
                have hcl : G.cnt ≤ 32 := Nat.le_trans (cntK_le _ _) gn
                obtain ⟨e, he⟩ : ∃ e, G.events = e := ⟨_, rfl⟩
                obtain ⟨cn, hcn⟩ : ∃ cn, G.cnt = cn := ⟨_, rfl⟩
                have hMd : Hid (∃ yb : Bool, yb = decide (E < G.M) ∧ yb = (xb || decide (e ≠ E) || decide (0 < cn))) := by
                  refine ⟨_, rfl, ?_⟩
                  rw [hMe, hbb, he, hcn]
                  cases hx : xb with
                  | false => simp
                  | true =>
                    have := hxb.out
                    rw [hx] at this
                    have := of_decide_eq_true this.symm
                    rw [← he, ← hcn, ← hbb, ← hMe]
                    simp; omega
                obtain ⟨yb, hyb, hyx⟩ := hMd.out
                obtain ⟨ya, hya⟩ : ∃ ya, ya = G.armed := ⟨_, rfl⟩
                have hYa : ya = (xa && !decide (u = 8)) := by rw [hya, hxa.out]; exact HSA.out.2
                have hMu : G.must = (ya && yb) := by rw [hmu, hya, hyb, hMe]
                rw [he] at gev0 gev1
                rw [hcn] at hcl
                have He := Lib.hid he
                have Hcn := Lib.hid hcn
                have Hyb := Lib.hid hyb
                have Hyx := Lib.hid hyx
                have Hya := Lib.hid hya
                have HYa := Lib.hid hYa
                have HMu := Lib.hid hMu
                clear he hcn hyb hyx hya hYa hMu hmu hbb hMe hSMo hMd hxb hxa HSA HSM
                go_wp2_with fail
                refine (rcounts_calls q ob hb G _ gn hB9.out.rm).mono ?_
                rintro e1 w10 ⟨rfl, rfl⟩
                rw [He.out, Hcn.out]
                go_upto_region 28 with (fail)
                go_cut [14, 20, 21] (fun s14 s20 s21 wx => s14 = .bool yb ∧ wx = w10)
                case first =>
                  cases xb with
                  | true =>
                    have hy : yb = true := by rw [Hyx.out]; simp
                    subst hy
                    go_wp2_with fail
                    go_meet
                    exact ⟨rfl, rfl⟩
                  | false =>
                    by_cases q1 : e = E
                    · have hq1 : (e == E) = true := by simp [q1]
                      have hq3 : (e != E) = false := by simp [q1]
                      by_cases q2 : 0 < cn
                      · have hq2 : decide (0 < cn) = true := decide_eq_true q2
                        have hy : yb = true := by rw [Hyx.out]; simp [q2]
                        subst hy
                        clear q1 q2
                        go_wp2_with fail
                        go_meet
                        exact ⟨rfl, rfl⟩
                      · have hq2 : decide (0 < cn) = false := decide_eq_false q2
                        have hy : yb = false := by rw [Hyx.out]; simp [q1, q2]
                        subst hy
                        clear q1 q2
                        go_wp2_with fail
                        go_meet
                        exact ⟨rfl, rfl⟩
                    · have hq1 : (e == E) = false := by simp [q1]
                      have hq3 : (e != E) = true := by simp [q1]
                      have hy : yb = true := by rw [Hyx.out]; simp [q1]
                      subst hy
                      clear q1
                      go_wp2_with fail
                      go_meet
                      exact ⟨rfl, rfl⟩
                case rest =>
                  obtain ⟨rfl, rfl⟩ := hcut
                  cases xa with
                  | false =>
                    have hy : ya = false := by rw [HYa.out]; rfl
                    have hm : G.must = false := by rw [HMu.out, hy]; rfl
                    have Hm := Lib.hid hm
                    have Hy := Lib.hid hy
                    clear hy hm
                    go_wp2_with fail
                    refine (bMust hB9.out gn Hm.out).mono ?_
                    rintro e1 w11 ⟨rfl, hB11⟩
                    have HB11 := Lib.hid hB11
                    clear hB9 hB11 e0
                    go_wp2_with fail
                    go_roundw
                    case rel => exact ⟨k + 1, lb8, yb, false, by omega, by go_num, rfl, rfl, by rw [HSk.out]; exact Hyb, by rw [HSk.out]; exact Lib.hid (Hy.out.symm.trans Hya.out), by rw [HSk.out]; exact HB11⟩
                    case measure => simp [intOf]; omega
                  | true =>
                    by_cases q8 : u = 8
                    · have hb8 : (u == 8) = true := by simp [q8]
                      have hb9 : (u != 8) = false := by simp [q8]
                      have hy : ya = false := by rw [HYa.out]; simp [q8]
                      have hm : G.must = false := by rw [HMu.out, hy]; rfl
                      have Hm := Lib.hid hm
                      have Hy := Lib.hid hy
                      have Hq := Lib.hid q8
                      clear hy hm q8
                      go_wp2_with fail
                      refine (hK9.out _).mono ?_
                      rintro e1 w11 ⟨rfl, rfl⟩
                      go_wp2_with fail
                      refine (bMust hB9.out gn Hm.out).mono ?_
                      rintro e1 w11 ⟨rfl, hB11⟩
                      have HB11 := Lib.hid hB11
                      clear hB9 hB11 e0
                      go_wp2_with fail
                      go_roundw
                      case rel => exact ⟨k + 1, lb8, yb, false, by omega, by go_num, rfl, rfl, by rw [HSk.out]; exact Hyb, by rw [HSk.out]; exact Lib.hid (Hy.out.symm.trans Hya.out), by rw [HSk.out]; exact HB11⟩
                      case measure => simp [intOf]; omega
                    · have hb8 : (u == 8) = false := by simp [q8]
                      have hb9 : (u != 8) = true := by simp [q8]
                      have hy : ya = true := by rw [HYa.out]; simp [q8]
                      have hm : G.must = yb := by rw [HMu.out, hy]; rfl
                      have Hm := Lib.hid hm
                      have Hy := Lib.hid hy
                      clear hy hm q8
                      cases yb
                      all_goals
                        go_wp2_with fail
                        refine (hK9.out _).mono ?_
                        rintro e1 w11 ⟨rfl, rfl⟩
                        go_wp2_with fail
                        refine (bMust hB9.out gn Hm.out).mono ?_
                        rintro e1 w11 ⟨rfl, hB11⟩
                        have HB11 := Lib.hid hB11
                        clear hB9 hB11 e0
                        go_wp2_with fail
                        go_roundw
                        case rel => exact ⟨k + 1, lb8, _, true, by omega, by go_num, rfl, rfl, by rw [HSk.out]; exact Hyb, by rw [HSk.out]; exact Lib.hid (Hy.out.symm.trans Hya.out), by rw [HSk.out]; exact HB11⟩
                        case measure => simp [intOf]; omega
          · have hkn : k = len' := by omega
            subst hkn
            have hz5 := hz.out.ok
            generalize abS E (1 + (m : Int)) L' F k = G at *
            clear AB
            go_wp2_with fail
            refine (bDisarm hB.out).mono ?_
            rintro e w7 ⟨rfl, hB7⟩
            have HB7 := Lib.hid hB7
            clear hB hB7
            go_wp2_with fail
            refine (bMust (b := false) HB7.out hz5.n (by simp [St.must, St.Disarm])).mono ?_
            rintro e w8 ⟨rfl, hB8⟩
            have HB8 := Lib.hid hB8
            clear HB7 hB8
            go_wp2_with fail
            refine (HA.out _).mono ?_
            rintro e w9 ⟨rfl, hB9⟩
            go_wp2_with fail
            go_ret
            exact ⟨rfl, HB8.out.bel.trans (hB9.mono HB8.out.bel.size)⟩
end Go.Proofs.Ytjdbhlmkcbgkjaa.Wk
