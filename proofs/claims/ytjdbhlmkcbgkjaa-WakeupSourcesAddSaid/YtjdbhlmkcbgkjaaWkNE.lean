import Derived.Test.YtjdbhlmkcbgkjaaWkZ
namespace Go.Proofs.Ytjdbhlmkcbgkjaa.Wk
open Go.RowKit Go.Proofs.YtjdbhlmkcbgkjaaW.PrintWords
set_option linter.unusedVariables false
set_option linter.unusedSimpArgs false


/-! ### An event has begun since the count was read -/
structure Begun (E : Int) (A B : St) : Prop where
  ok : B.Ok
  n : B.n = A.n
  now : B.now = A.now
  ev : B.events ≤ A.events + A.n + 2
  e0 : E ≤ B.events
  M : E < B.M
theorem begun_act {A : St} (hA : A.Ok) (he : A.events ≤ 1000000) (hc : A.cnt = 0) (j : Nat) (hj : j < A.n) : ∃ B, A.Activate j A.now = (0, B) ∧ Begun A.events A B := by
  have hE : A.Activate j A.now = (0, actS (A.adv A.now) j) := by
    unfold St.Activate
    rw [bad_same hj (Int.le_refl _) hA.now1]
    rfl
  have hn := hA.n
  have hn1 := adv_n A A.now
  have hb := adv_bounds A A.now
  refine ⟨_, hE, act_ok (hA.adv hA.now0 hA.now1) j, hn1, adv_now _ _, by show (A.adv A.now).events ≤ _; omega, hb.1, ?_⟩
  have h1 := adv_Mle A A.now
  have h2 : (A.adv A.now).on j = false := by rw [adv_on A _ j hj, off_of_cnt hc j hj]; rfl
  rw [act_M _ _ (by omega), h2]
  unfold St.M at h1
  simp
  unfold St.M
  omega
theorem begun_pul {A : St} (hA : A.Ok) (he : A.events ≤ 1000000) (hc : A.cnt = 0) (j : Nat) (hj : j < A.n) (x : Int) (x0 : 0 ≤ x) (x1 : x < 10) : ∃ B, A.Pulse j A.now x = (0, B) ∧ Begun A.events A B := by
  have hE : A.Pulse j A.now x = (0, (pulS (A.adv A.now) j A.now x).adv A.now) := by
    unfold St.Pulse
    rw [if_neg]
    · rfl
    · rintro (h | h)
      · omega
      · rw [bad_same hj (Int.le_refl _) hA.now1] at h; cases h
  have hn := hA.n
  have hn1 := adv_n A A.now
  have hb := adv_bounds A A.now
  have hp := pul_events A j hj A.now x
  have hr := pul_rest (A.adv A.now) j A.now x
  refine ⟨_, hE, (pul_ok (hA.adv hA.now0 hA.now1) j _ _ hA.now0 hA.now1 x0 (by omega)).adv hA.now0 hA.now1, by rw [adv_n, hr.1, hn1], adv_now _ _, by rw [hp]; split <;> omega, by rw [hp]; split <;> omega, ?_⟩
  have h1 := adv_Mle A A.now
  have h2 : (A.adv A.now).on j = false := by rw [adv_on A _ j hj, off_of_cnt hc j hj]; rfl
  have h3 := adv_Mle (pulS (A.adv A.now) j A.now x) A.now
  have h4 := pul_M (A.adv A.now) j (by omega) A.now x
  rw [h2] at h4
  simp at h4
  unfold St.M at h1 h3 h4 ⊢
  omega
theorem begun_al {A : St} (hA : A.Ok) (he : A.events ≤ 1000000) (hc : A.cnt = 0) : ∃ B, A.SetAlarm A.now A.now = (0, B) ∧ Begun A.events A B := by
  have hE : A.SetAlarm A.now A.now = (0, (alS (A.adv A.now) A.now).adv A.now) := by
    unfold St.SetAlarm
    have := hA.now1
    rw [if_neg]
    rintro (h | h)
    · omega
    · rw [late_now hA] at h; cases h
  have hn := hA.n
  have hn1 := adv_n A A.now
  have hb := adv_bounds A A.now
  have hp := al_events A A.now A.now
  rw [if_pos (Int.le_refl _)] at hp
  have h5 : ((alS (A.adv A.now) A.now).adv A.now).n = A.n := by rw [adv_n]; exact hn1
  refine ⟨_, hE, (al_ok (hA.adv hA.now0 hA.now1) _ hA.now0 hA.now1).adv hA.now0 hA.now1, h5, adv_now _ _, by rw [hp]; omega, by rw [hp]; omega, ?_⟩
  unfold St.M
  rw [hp]
  omega

def nlS (E : Int) (n : Int) (L : Nat → Cl) (A : St) : Nat → St
  | 0 => A
  | i + 1 => ((nlS E n L A i).step (L i).kind ((L i).noraw.at n (nlS E n L A i).now E)).2
structure NlOk (E : Int) (A D : St) (i : Nat) : Prop where
  ok : D.Ok
  n : D.n = A.n
  ev : D.events ≤ A.events + i * 34
  e0 : E ≤ D.events
  M : E < D.M
theorem nl_ok {E : Int} (hE0 : 0 ≤ E) (hE1 : E ≤ 1000000) {A : St} (n : Int) (n1 : n < 9223372036854775808) (hA : A.Ok) (he : A.events ≤ 1000000) (h0 : E ≤ A.events) (hM : E < A.M) (L : Nat → Cl) (len : Nat) (hlen : len ≤ 1000) (hL : ∀ i, i < len → (L i).Ok) : ∀ i, i ≤ len → NlOk E A (nlS E n L A i) i
  | 0, _ => ⟨hA, rfl, by show A.events ≤ _; omega, h0, hM⟩
  | i + 1, hi => by
    have ih := nl_ok hE0 hE1 n n1 hA he h0 hM L len hlen hL i (by omega)
    have hX := Cl.at_ok (hL i (by omega)).noraw n (nlS E n L A i).now E n1 ih.ok.now0 ih.ok.now1 (by omega) (by omega)
    have hev := ih.ev
    have hk := step_kept (k := (L i).kind) ih.ok hX (by omega)
    have hm := step_M (k := (L i).kind) ih.ok hX
    have hn := hA.n
    have i1 := ih.n
    have i2 := ih.e0
    have i3 := ih.M
    have k1 := hk.ev0
    have k2 := hk.ev1
    refine ⟨hk.ok, hk.n.trans i1, ?_, ?_, ?_⟩
    · show ((nlS E n L A i).step _ _).2.events ≤ _; omega
    · show _ ≤ ((nlS E n L A i).step _ _).2.events; omega
    · show _ < ((nlS E n L A i).step _ _).2.M; omega

theorem bDo {w0 w : World} {p lb q ob hb : Nat} {A B : St} (h : Both w0 w p lb q ob hb A B) (hA : A.Ok) (he : A.events ≤ 900000000) {kind : Int} (k0 : -9223372036854775808 ≤ kind) (k1 : kind < 9223372036854775808) {a : Ar} (ha : a.Ok) {r : Int} {C : St} (hE : A.step kind a = (r, C)) :
    Calls Try.prog 15 #[.pointer (some ⟨p, 0, none⟩), .int .i64 kind, .agg #[.int .i64 a.source, .int .u64 a.now, .int .u64 a.other, .int .i64 a.events]] w fun e w' => ∃ lb', e = .returned (.int .i64 r) ∧ Both w0 w' p lb' q ob hb C B ∧ Fr [p, lb] w w' := by
  refine (do_calls p lb A kind k0 k1 a ha w hA he h.pm).mono ?_
  rintro e w' ⟨lb', hl, rfl, hm, hf⟩
  rw [hE] at hm ⊢
  exact ⟨lb', rfl, h.did hl hm hf, hf⟩

set_option maxHeartbeats 6400000 in
set_option maxRecDepth 100000 in
theorem noEvent_calls (v : Int) (v0 : -9223372036854775808 ≤ v) (v1 : v < 9223372036854775808) (a : Option Addr) (len cap : Nat) (hmax : len ≤ 9223372036854775807) (L : Nat → Cl) (a' : Option Addr) (len' cap' : Nat) (hmax' : len' ≤ 9223372036854775807) (L' : Nat → Cl)
    (src : Int) (s0 : -9223372036854775808 ≤ src) (s1 : src < 9223372036854775808) (hold : Int) (h0 : 0 ≤ hold) (h1 : hold < 18446744073709551616) (kd : Int) (d0 : 0 ≤ kd) (d1 : kd < 256) (w : World) (hL : CallsAt w a len L) (hL' : CallsAt w a' len' L') :
    Calls Try.prog 4 #[.int .i64 v, .slice a len cap, .slice a' len' cap', .int .i64 src, .int .u64 hold, .int .u8 kd] w fun e w' => e = .returned (.bool true) ∧ Below w.heap.size w w' := by
  have HA := Lib.hid awake_calls
  by_cases hbig : 20 < len ∨ 20 < len'
  · clear hL hL'
    by_cases hb1 : 20 < len
    · have hd2 : decide ((20 : Int) < len) = true := decide_eq_true (by omega)
      go_enter Try.func4, Try.ntmps4
      go_wp2_with fail
      refine (HA.out _).mono ?_
      rintro e w' ⟨rfl, hB⟩
      go_wp2_with fail
      go_ret
      exact ⟨rfl, hB⟩
    · have hd2 : decide ((20 : Int) < len) = false := decide_eq_false (by omega)
      have hd3 : decide ((20 : Int) < len') = true := decide_eq_true (by omega)
      go_enter Try.func4, Try.ntmps4
      go_wp2_with fail
      refine (HA.out _).mono ?_
      rintro e w' ⟨rfl, hB⟩
      go_wp2_with fail
      go_ret
      exact ⟨rfl, hB⟩
  · have hd2 : decide ((20 : Int) < len) = false := decide_eq_false (by omega)
    have hd3 : decide ((20 : Int) < len') = false := decide_eq_false (by omega)
    obtain ⟨m, hmn, hm4⟩ := umod_nat v 4 (by omega)
    have hM : Hid (∀ W, Calls Try.prog 13 #[.int .i64 v, .int .i64 4] W fun e w' => e = .returned (.int .i64 m) ∧ w' = W) := fun W => by
      have h := mod_calls v 4 v0 v1 (by omega) (by omega) W
      rw [hmn] at h
      exact h
    clear hmn
    have hm3 : m ≤ 3 := by omega
    have hat : ∀ i, i < len → (L i).Ok := by
      obtain ⟨b, o, _, hat⟩ := hL
      exact fun i hi => (hat i hi).2.1
    have hSt : Hid (True → Calls Try.prog 21 #[.int .i64 (1 + (m : Int)), .slice a len cap] w fun e w' => ∃ p lb q ob hb, e = .returned (.tuple #[.pointer (some ⟨p, 0, none⟩), .pointer (some ⟨q, 0, none⟩), .bool true]) ∧ Both w w' p lb q ob hb (startS (m + 1) L len) (startS (m + 1) L len)) := fun _ => by
      have h := lstart_calls (m + 1) (by omega) a len cap (by omega) L w hL
      have e : ((m + 1 : Nat) : Int) = 1 + (m : Int) := by omega
      rw [e] at h
      exact h
    have hlen : len ≤ 50 := by omega
    have hlen' : len' ≤ 20 := by omega
    obtain ⟨A, hAe⟩ : ∃ A, A = startS (m + 1) L len := ⟨_, rfl⟩
    obtain ⟨kA, nA, eA⟩ := start_kept (m + 1) (by omega) L len (by omega) hat len (Nat.le_refl _)
    rw [← hAe] at kA nA eA hSt
    clear hAe hat hL
    have eA : A.events ≤ 1700 := by omega
    have n0 := kA.now0
    have n1 := kA.now1
    have NA := Lib.hid nA
    obtain ⟨j, hj, hjm⟩ := umod_nat src (1 + (m : Int)) (by omega)
    have hM2 : Hid (∀ W, Calls Try.prog 13 #[.int .i64 src, .int .i64 (1 + (m : Int))] W fun e w' => e = .returned (.int .i64 j) ∧ w' = W) := fun W => by
      have h := mod_calls src (1 + (m : Int)) s0 s1 (by omega) (by omega) W
      rw [hj] at h
      exact h
    clear hj
    have hjn : j < A.n := by omega
    obtain ⟨E, hE⟩ : ∃ E, A.events = E := ⟨_, rfl⟩
    obtain ⟨cn, hcn⟩ : ∃ c, A.cnt = c := ⟨_, rfl⟩
    have HE := Lib.hid hE
    have HC := Lib.hid hcn
    have hE0 : 0 ≤ E := by have := kA.ev0; omega
    have hE1 : E ≤ 1700 := by omega
    have hcl : cn ≤ 32 := by have : A.cnt ≤ A.n := cntK_le _ _; have := kA.n; omega
    clear nA hE hcn
    obtain ⟨b, o, ha', hat'⟩ := hL'
    have Hat := Lib.hid hat'
    clear hat'
    have x0 : 0 ≤ hold % 10 := by omega
    have x1 : hold % 10 < 10 := by omega
    have hfin : ∀ (B : St), Begun E A B → Hid (∀ i, i ≤ len' → NlOk E B (nlS E (1 + (m : Int)) L' B i) i) := fun B hB => by
      exact nl_ok hE0 (by omega) (1 + (m : Int)) (by omega) hB.ok (by have := hB.ev; have := kA.n; omega) hB.e0 hB.M L' len' (by omega) (fun i hi => (Hat.out i hi).2.1)
    have HF := Lib.hid hfin
    clear hfin
    have hloop : Hid (∀ B, Begun E A B → B.now = A.now ∧ B.Ok) := fun B hB => ⟨hB.now, hB.ok⟩
    by_cases hcp : 0 < cn
    · have hd4 : decide (0 < cn) = true := decide_eq_true hcp
      go_enter Try.func4, Try.ntmps4
      go_wp2_with fail
      refine (hM.out _).mono ?_
      rintro e w1 ⟨rfl, rfl⟩
      go_wp2_with fail
      refine (hSt.out trivial).mono ?_
      rintro e w2 ⟨p, lb, q, ob, hb, rfl, hB⟩
      have HB := Lib.hid hB
      clear hSt hM hB
      go_wp2_with fail
      refine (bCounts HB.out kA.n HE.out HC.out).mono ?_
      rintro e w3 ⟨rfl, hB⟩
      have HB3 := Lib.hid hB
      clear hB HB
      go_wp2_with fail
      refine (HA.out _).mono ?_
      rintro e w' ⟨rfl, hB⟩
      go_wp2_with fail
      go_ret
      exact ⟨rfl, HB3.out.bel.trans (hB.mono HB3.out.bel.size)⟩
    · obtain rfl : cn = 0 := by omega
      clear hcp
      have HBA : Hid (∃ B, A.Activate j A.now = (0, B) ∧ Begun E A B) := by
        have h := begun_act kA (by omega) HC.out j hjn
        rw [HE.out] at h
        exact h
      have HBP : Hid (∃ B, A.Pulse j A.now (hold % 10) = (0, B) ∧ Begun E A B) := by
        have h := begun_pul kA (by omega) HC.out j hjn (hold % 10) x0 x1
        rw [HE.out] at h
        exact h
      have HBL : Hid (∃ B, A.SetAlarm A.now A.now = (0, B) ∧ Begun E A B) := by
        have h := begun_al kA (by omega) HC.out
        rw [HE.out] at h
        exact h
      rcases (show kd % 3 = 0 ∨ kd % 3 = 1 ∨ kd % 3 = 2 by omega) with hk | hk | hk
      · have hk0 : (kd % 3 == 0) = true := by simp [hk]
        have Hk := Lib.hid hk
        clear hk
        go_enter Try.func4, Try.ntmps4
        go_wp2_with fail
        refine (hM.out _).mono ?_
        rintro e w1 ⟨rfl, rfl⟩
        go_wp2_with fail
        refine (hSt.out trivial).mono ?_
        rintro e w2 ⟨p, lb, q, ob, hb, rfl, hB⟩
        have HB := Lib.hid hB
        clear hSt hM hB
        go_wp2_with fail
        refine (bCounts HB.out kA.n HE.out HC.out).mono ?_
        rintro e w3 ⟨rfl, hB⟩
        have HB3 := Lib.hid hB
        have hck := hB.clock
        clear hB HB
        go_wp2_with fail
        refine (hM2.out _).mono ?_
        rintro e w3 ⟨rfl, rfl⟩
        obtain ⟨B, hBe, hBg⟩ := HBA.out
        have HBe := Lib.hid hBe
        clear hBe
        go_wp2_with fail
        refine (bActivate HB3.out kA (by omega) HBe.out (by omega) (by omega) (by omega) (by omega)).mono ?_
        clear hck
        rintro e w4 ⟨rfl, hB⟩
        have HB4 := Lib.hid hB
        clear hB HB3 HBe
        have hck := HB4.out.clock
        obtain ⟨gN, gO⟩ := hloop.out B hBg
        have NL := HF.out B hBg
        have gn : B.n = A.n := hBg.n
        have gev : B.events ≤ 1800 := by have := hBg.ev; have := kA.n; omega
        have hnow0 : Hid (A.now = (nlS E (1 + (m : Int)) L' B 0).now) := gN.symm
        have GO := Lib.hid gO
        clear gN gO hloop HF hBg HBA HBP HBL
        have GN := Lib.hid gn
        clear gn
        go_wp2_with fail
        clear hck
        go_loopw [21, 22] (fun n c wr => ∃ k lb2 : Nat, k ≤ len' ∧ c = .int .i64 k ∧ n = .int .u64 (nlS E (1 + (m : Int)) L' B k).now ∧ Hid (Both w1 wr p lb2 q ob hb (nlS E (1 + (m : Int)) L' B k) A))
          (fun _ c _ => len' - (intOf c).toNat)
        case atStart => exact ⟨0, lb, by omega, rfl, by rw [hnow0.out], HB4.out⟩
        case round =>
          clear hnow0 HB4
          obtain ⟨k, lb2, hk, rfl, rfl, hB⟩ := hrel
          have hz := Lib.hid (NL.out k (by omega))
          by_cases hlt : k < len'
          · obtain rfl := ha' (by omega)
            clear ha'
            obtain ⟨g0, g1, hcat⟩ := Hat.out k hlt
            have hs : nlS E (1 + (m : Int)) L' B (k + 1) = ((nlS E (1 + (m : Int)) L' B k).step (L' k).kind ((L' k).noraw.at (1 + (m : Int)) (nlS E (1 + (m : Int)) L' B k).now E)).2 := rfl
            have Hs := Lib.hid hs
            clear hs
            have hz2 := Lib.hid (NL.out (k + 1) (by omega))
            generalize nlS E (1 + (m : Int)) L' B k = D at hB hz Hs
            generalize hc : L' k = c at *
            have KC : Hid (CAt wr b (o + k * 6) c) := CAt.below hcat hB.out.bel g0
            clear hcat hc Hat
            have d2 := hz.out.ok
            have d3 : D.events ≤ 3000 := by have := hz.out.ev; omega
            have d4 := d2.now0
            have d5 := d2.now1
            have hAt : Hid (∀ W, Calls Try.prog 14 #[.agg #[.int .i64 c.kind, .int .i64 c.source, .int .u64 c.wait, .int .u64 c.hold, .int .i64 c.events, .bool false], .int .i64 (1 + (m : Int)), .int .u64 D.now, .int .i64 E] W fun e w' => e = .returned (c.noraw.at (1 + (m : Int)) D.now E).val ∧ Fr [] W w') :=
              fun W => at_calls c.noraw g1.noraw (1 + (m : Int)) D.now E (by omega) (by omega) d4 d5 W
            have hX := Cl.at_ok g1.noraw (1 + (m : Int)) D.now E (by omega) d4 d5 (by omega) (by omega)
            have hs := Hs.out
            generalize c.noraw.at (1 + (m : Int)) D.now E = x at hAt hX hs
            unfold Ar.val at hAt
            have hSt2 : Hid (D.step c.kind x = ((D.step c.kind x).1, nlS E (1 + (m : Int)) L' B (k + 1))) := Lib.hid (by rw [hs])
            have hnow := step_now (k := c.kind) d2 hX
            rw [← hs] at hnow
            have hK9 : Hid (∀ W, Calls Try.prog 13 #[.int .i64 c.kind, .int .i64 9] W fun e w' => e = .returned (.int .i64 (umod c.kind 9)) ∧ w' = W) := fun W => mod_calls c.kind 9 g1.k0 g1.k1 (by omega) (by omega) W
            have hu0 := umod_nn c.kind 9 (by omega)
            have hu1 := umod_lt c.kind 9 (by omega)
            generalize umod c.kind 9 = u at hK9 hnow hu0 hu1
            generalize (D.step c.kind x).1 = er at hSt2 hnow
            have Hnow := Lib.hid hnow
            have HX := Lib.hid hX
            have kc := KC.out
            obtain ⟨c0, c1, c2, c3, c4, c5⟩ := kc
            clear hs hnow hX Hs
            go_wp2_with fail
            refine (hAt.out _).mono ?_
            clear c0 c1 c2 c3 c4 c5
            rintro e W2 ⟨rfl, hf2⟩
            have hBW : Hid (Both w1 W2 p lb2 q ob hb D A) := (hB.out.keep ((Fr.refl [] wr).alloc _)).keep hf2
            have hC2 : Hid (W2.heap[wr.heap.size]? = some (.cells (ccells c.noraw) 36 (0, 0))) := hf2.at (heap_alloc_new _ _)
            obtain ⟨cb, hcb⟩ : ∃ cb, cb = wr.heap.size := ⟨_, rfl⟩
            rw [← hcb] at hC2 ⊢
            have e0 : W2.cell? ⟨cb, 0, none⟩ = some (.int .i64 c.kind) := cellB hC2.out 0
            have lcb := lt_of_heap hC2.out
            clear hcb hf2 hB
            go_wp2_with fail
            obtain ⟨W3, hW3⟩ : ∃ W3, W3 = W2.alloc (.cells (acells x) 34) := ⟨_, rfl⟩
            have hW3' := hW3
            simp only [acells] at hW3'
            rw [← hW3']
            have hB3 : Hid (Both w1 W3 p lb2 q ob hb D A) := by rw [hW3]; exact hBW.out.keep ((Fr.refl [] _).alloc _)
            have hD3 : Hid (W3.heap[W2.heap.size]? = some (.cells (acells x) 34 (0, 0))) := by rw [hW3]; exact heap_alloc_new _ _
            have hC3 : Hid (W3.heap[cb]? = some (.cells (ccells c.noraw) 36 (0, 0))) := by rw [hW3]; exact allocB hC2.out _
            obtain ⟨d, hd⟩ : ∃ d, d = W2.heap.size := ⟨_, rfl⟩
            rw [← hd] at hD3 ⊢
            clear hW3 hW3' hd e0 hC2 hBW lcb
            obtain ⟨m1, _⟩ := hB3.out.notin_type hD3.out (by decide) (by decide) (by decide) (by decide) (by decide)
            obtain ⟨m2, _⟩ := hB3.out.notin_type hC3.out (by decide) (by decide) (by decide) (by decide) (by decide)
            refine (bDo hB3.out d2 (by omega) g1.k0 g1.k1 HX.out hSt2.out).mono ?_
            rintro e w4 ⟨lb4', rfl, hB4', hf4⟩
            have HB4 := Lib.hid hB4'
            have hD4 : Hid (w4.heap[d]? = some (.cells (acells x) 34 (0, 0))) := (hf4.block d (lt_of_heap hD3.out) m1).trans hD3.out
            have hC4 : Hid (w4.heap[cb]? = some (.cells (ccells c.noraw) 36 (0, 0))) := (hf4.block cb (lt_of_heap hC3.out) m2).trans hC3.out
            have e0 : w4.cell? ⟨cb, 0, none⟩ = some (.int .i64 c.kind) := cellB hC4.out 0
            have y1 : w4.cell? ⟨d, 1, none⟩ = some (.int .u64 x.now) := cellB hD4.out 1
            have y3 : w4.cell? ⟨d, 3, none⟩ = some (.int .i64 x.events) := cellB hD4.out 3
            have xo := HX.out
            obtain ⟨_, _, xn0, xn1, _, _, xe0, xe1⟩ := xo
            clear hB4' hf4 hD3 hC3 hB3 m1 m2 hSt2 HX hD4 hC4
            have z1 := hz2.out.ok
            have z2 : (nlS E (1 + (m : Int)) L' B (k + 1)).events ≤ 4000 := by have := hz2.out.ev; omega
            have z3 := Lib.hid (show (nlS E (1 + (m : Int)) L' B (k + 1)).Arm E (nlS E (1 + (m : Int)) L' B (k + 1)).now = (17, nlS E (1 + (m : Int)) L' B (k + 1)) by rw [arm_busy hz2.out.e0 hz2.out.M, late_now z1]; rfl)
            have hnow := Hnow.out
            clear hz2 Hnow NL
            generalize hFe : nlS E (1 + (m : Int)) L' B (k + 1) = F at *
            have HFe := Lib.hid hFe
            clear hFe
            by_cases c1 : er = 0
            · have hb1 : (er == 0) = true := by simp [c1]
              by_cases c2 : u < 8
              · rw [if_pos ⟨c1, c2⟩] at hnow
                have hb2 : decide (u < 8) = true := decide_eq_true c2
                have Hn := Lib.hid hnow
                clear c1 hnow
                have hz3 : Hid (F.Arm E x.now = (17, F)) := Lib.hid (by rw [← Hn.out]; exact z3.out)
                by_cases c7 : u = 7
                · have hb7 : (u == 7) = true := by simp [c7]
                  clear c7
                  by_cases ce : x.events = E
                  · have hbe : (x.events == E) = true := by simp [ce]
                    clear ce
                    go_wp2_with fail
                    refine (hK9.out _).mono ?_
                    rintro e w4 ⟨rfl, rfl⟩
                    go_wp2_with fail
                    refine (hK9.out _).mono ?_
                    rintro e w4 ⟨rfl, rfl⟩
                    go_wp2_with fail
                    refine (bArm HB4.out z1 (by omega) hz3.out (by omega) (by omega) (by omega) (by omega)).mono ?_
                    clear e0 y1 y3
                    rintro e w5 ⟨rfl, lb5, hB5⟩
                    have HB5 := Lib.hid hB5
                    clear hB5
                    go_wp2_with fail
                    go_roundw
                    case rel => exact ⟨k + 1, lb5, by omega, by go_num, by rw [HFe.out, Hn.out], by rw [HFe.out]; exact HB5⟩
                    case measure => simp [intOf]; omega
                  · have hbe : (x.events == E) = false := by simp [ce]
                    clear ce
                    go_wp2_with fail
                    refine (hK9.out _).mono ?_
                    rintro e w4 ⟨rfl, rfl⟩
                    go_wp2_with fail
                    refine (hK9.out _).mono ?_
                    rintro e w4 ⟨rfl, rfl⟩
                    go_wp2_with fail
                    go_roundw
                    case rel => exact ⟨k + 1, lb4', by omega, by go_num, by rw [HFe.out, Hn.out], by rw [HFe.out]; exact HB4⟩
                    case measure => simp [intOf]; omega
                · have hb7 : (u == 7) = false := by simp [c7]
                  clear c7
                  go_wp2_with fail
                  refine (hK9.out _).mono ?_
                  rintro e w4 ⟨rfl, rfl⟩
                  go_wp2_with fail
                  refine (hK9.out _).mono ?_
                  rintro e w4 ⟨rfl, rfl⟩
                  go_wp2_with fail
                  go_roundw
                  case rel => exact ⟨k + 1, lb4', by omega, by go_num, by rw [HFe.out, Hn.out], by rw [HFe.out]; exact HB4⟩
                  case measure => simp [intOf]; omega
              · rw [if_neg (fun h => c2 h.2)] at hnow
                have hb2 : decide (u < 8) = false := decide_eq_false c2
                have Hn := Lib.hid hnow
                clear c1 hnow
                have hz3 : Hid (F.Arm E D.now = (17, F)) := Lib.hid (by rw [← Hn.out]; exact z3.out)
                have hb7 : (u == 7) = false := by simp; omega
                go_wp2_with fail
                refine (hK9.out _).mono ?_
                rintro e w4 ⟨rfl, rfl⟩
                go_wp2_with fail
                refine (hK9.out _).mono ?_
                rintro e w4 ⟨rfl, rfl⟩
                go_wp2_with fail
                go_roundw
                case rel => exact ⟨k + 1, lb4', by omega, by go_num, by rw [HFe.out, Hn.out], by rw [HFe.out]; exact HB4⟩
                case measure => simp [intOf]; omega
            · rw [if_neg (fun h => c1 h.1)] at hnow
              have hb1 : (er == 0) = false := by simp [c1]
              have Hn := Lib.hid hnow
              clear c1 hnow
              have hz3 : Hid (F.Arm E D.now = (17, F)) := Lib.hid (by rw [← Hn.out]; exact z3.out)
              by_cases c7 : u = 7
              · have hb7 : (u == 7) = true := by simp [c7]
                clear c7
                by_cases ce : x.events = E
                · have hbe : (x.events == E) = true := by simp [ce]
                  clear ce
                  go_wp2_with fail
                  refine (hK9.out _).mono ?_
                  rintro e w4 ⟨rfl, rfl⟩
                  go_wp2_with fail
                  refine (bArm HB4.out z1 (by omega) hz3.out (by omega) (by omega) (by omega) (by omega)).mono ?_
                  clear e0 y1 y3
                  rintro e w5 ⟨rfl, lb5, hB5⟩
                  have HB5 := Lib.hid hB5
                  clear hB5
                  go_wp2_with fail
                  go_roundw
                  case rel => exact ⟨k + 1, lb5, by omega, by go_num, by rw [HFe.out, Hn.out], by rw [HFe.out]; exact HB5⟩
                  case measure => simp [intOf]; omega
                · have hbe : (x.events == E) = false := by simp [ce]
                  clear ce
                  go_wp2_with fail
                  refine (hK9.out _).mono ?_
                  rintro e w4 ⟨rfl, rfl⟩
                  go_wp2_with fail
                  go_roundw
                  case rel => exact ⟨k + 1, lb4', by omega, by go_num, by rw [HFe.out, Hn.out], by rw [HFe.out]; exact HB4⟩
                  case measure => simp [intOf]; omega
              · have hb7 : (u == 7) = false := by simp [c7]
                clear c7
                go_wp2_with fail
                refine (hK9.out _).mono ?_
                rintro e w4 ⟨rfl, rfl⟩
                go_wp2_with fail
                go_roundw
                case rel => exact ⟨k + 1, lb4', by omega, by go_num, by rw [HFe.out, Hn.out], by rw [HFe.out]; exact HB4⟩
                case measure => simp [intOf]; omega
          · have hkn : k = len' := by omega
            subst hkn
            have hz3 : Hid ((nlS E (1 + (m : Int)) L' B k).Arm E (nlS E (1 + (m : Int)) L' B k).now = (17, nlS E (1 + (m : Int)) L' B k)) := Lib.hid (by rw [arm_busy hz.out.e0 hz.out.M, late_now hz.out.ok]; rfl)
            have hz4 : (nlS E (1 + (m : Int)) L' B k).events ≤ 4000 := by have := hz.out.ev; omega
            have hz5 := hz.out.ok
            generalize nlS E (1 + (m : Int)) L' B k = F at *
            have hn0 := hz5.now0
            have hn1 := hz5.now1
            clear NL
            go_wp2_with fail
            refine (bArm hB.out hz5 (by omega) hz3.out (by omega) (by omega) (by omega) (by omega)).mono ?_
            rintro e w5 ⟨rfl, lb5, hB5⟩
            have HB5 := Lib.hid hB5
            clear hB5 hB
            go_wp2_with fail
            refine (HA.out _).mono ?_
            rintro e w' ⟨rfl, hB⟩
            go_wp2_with fail
            go_ret
            exact ⟨rfl, HB5.out.bel.trans (hB.mono HB5.out.bel.size)⟩
      · have hk0 : (kd % 3 == 0) = false := by simp [hk]
        have hk1 : (kd % 3 == 1) = true := by simp [hk]
        have Hk := Lib.hid hk
        clear hk
        go_enter Try.func4, Try.ntmps4
        go_wp2_with fail
        refine (hM.out _).mono ?_
        rintro e w1 ⟨rfl, rfl⟩
        go_wp2_with fail
        refine (hSt.out trivial).mono ?_
        rintro e w2 ⟨p, lb, q, ob, hb, rfl, hB⟩
        have HB := Lib.hid hB
        clear hSt hM hB
        go_wp2_with fail
        refine (bCounts HB.out kA.n HE.out HC.out).mono ?_
        rintro e w3 ⟨rfl, hB⟩
        have HB3 := Lib.hid hB
        have hck := hB.clock
        clear hB HB
        go_wp2_with fail
        refine (hM2.out _).mono ?_
        rintro e w3 ⟨rfl, rfl⟩
        obtain ⟨B, hBe, hBg⟩ := HBP.out
        have HBe := Lib.hid hBe
        clear hBe
        go_wp2_with fail
        refine (bPulse HB3.out kA (by omega) HBe.out (by omega) (by omega) (by omega) (by omega) (by omega) (by omega)).mono ?_
        clear hck
        rintro e w4 ⟨rfl, hB⟩
        have HB4 := Lib.hid hB
        clear hB HB3 HBe
        have hck := HB4.out.clock
        obtain ⟨gN, gO⟩ := hloop.out B hBg
        have NL := HF.out B hBg
        have gn : B.n = A.n := hBg.n
        have gev : B.events ≤ 1800 := by have := hBg.ev; have := kA.n; omega
        have hnow0 : Hid (A.now = (nlS E (1 + (m : Int)) L' B 0).now) := gN.symm
        have GO := Lib.hid gO
        clear gN gO hloop HF hBg HBA HBP HBL
        have GN := Lib.hid gn
        clear gn
        go_wp2_with fail
        clear hck
        go_loopw [21, 22] (fun n c wr => ∃ k lb2 : Nat, k ≤ len' ∧ c = .int .i64 k ∧ n = .int .u64 (nlS E (1 + (m : Int)) L' B k).now ∧ Hid (Both w1 wr p lb2 q ob hb (nlS E (1 + (m : Int)) L' B k) A))
          (fun _ c _ => len' - (intOf c).toNat)
        case atStart => exact ⟨0, lb, by omega, rfl, by rw [hnow0.out], HB4.out⟩
        case round =>
          clear hnow0 HB4
          obtain ⟨k, lb2, hk, rfl, rfl, hB⟩ := hrel
          have hz := Lib.hid (NL.out k (by omega))
          by_cases hlt : k < len'
          · obtain rfl := ha' (by omega)
            clear ha'
            obtain ⟨g0, g1, hcat⟩ := Hat.out k hlt
            have hs : nlS E (1 + (m : Int)) L' B (k + 1) = ((nlS E (1 + (m : Int)) L' B k).step (L' k).kind ((L' k).noraw.at (1 + (m : Int)) (nlS E (1 + (m : Int)) L' B k).now E)).2 := rfl
            have Hs := Lib.hid hs
            clear hs
            have hz2 := Lib.hid (NL.out (k + 1) (by omega))
            generalize nlS E (1 + (m : Int)) L' B k = D at hB hz Hs
            generalize hc : L' k = c at *
            have KC : Hid (CAt wr b (o + k * 6) c) := CAt.below hcat hB.out.bel g0
            clear hcat hc Hat
            have d2 := hz.out.ok
            have d3 : D.events ≤ 3000 := by have := hz.out.ev; omega
            have d4 := d2.now0
            have d5 := d2.now1
            have hAt : Hid (∀ W, Calls Try.prog 14 #[.agg #[.int .i64 c.kind, .int .i64 c.source, .int .u64 c.wait, .int .u64 c.hold, .int .i64 c.events, .bool false], .int .i64 (1 + (m : Int)), .int .u64 D.now, .int .i64 E] W fun e w' => e = .returned (c.noraw.at (1 + (m : Int)) D.now E).val ∧ Fr [] W w') :=
              fun W => at_calls c.noraw g1.noraw (1 + (m : Int)) D.now E (by omega) (by omega) d4 d5 W
            have hX := Cl.at_ok g1.noraw (1 + (m : Int)) D.now E (by omega) d4 d5 (by omega) (by omega)
            have hs := Hs.out
            generalize c.noraw.at (1 + (m : Int)) D.now E = x at hAt hX hs
            unfold Ar.val at hAt
            have hSt2 : Hid (D.step c.kind x = ((D.step c.kind x).1, nlS E (1 + (m : Int)) L' B (k + 1))) := Lib.hid (by rw [hs])
            have hnow := step_now (k := c.kind) d2 hX
            rw [← hs] at hnow
            have hK9 : Hid (∀ W, Calls Try.prog 13 #[.int .i64 c.kind, .int .i64 9] W fun e w' => e = .returned (.int .i64 (umod c.kind 9)) ∧ w' = W) := fun W => mod_calls c.kind 9 g1.k0 g1.k1 (by omega) (by omega) W
            have hu0 := umod_nn c.kind 9 (by omega)
            have hu1 := umod_lt c.kind 9 (by omega)
            generalize umod c.kind 9 = u at hK9 hnow hu0 hu1
            generalize (D.step c.kind x).1 = er at hSt2 hnow
            have Hnow := Lib.hid hnow
            have HX := Lib.hid hX
            have kc := KC.out
            obtain ⟨c0, c1, c2, c3, c4, c5⟩ := kc
            clear hs hnow hX Hs
            go_wp2_with fail
            refine (hAt.out _).mono ?_
            clear c0 c1 c2 c3 c4 c5
            rintro e W2 ⟨rfl, hf2⟩
            have hBW : Hid (Both w1 W2 p lb2 q ob hb D A) := (hB.out.keep ((Fr.refl [] wr).alloc _)).keep hf2
            have hC2 : Hid (W2.heap[wr.heap.size]? = some (.cells (ccells c.noraw) 36 (0, 0))) := hf2.at (heap_alloc_new _ _)
            obtain ⟨cb, hcb⟩ : ∃ cb, cb = wr.heap.size := ⟨_, rfl⟩
            rw [← hcb] at hC2 ⊢
            have e0 : W2.cell? ⟨cb, 0, none⟩ = some (.int .i64 c.kind) := cellB hC2.out 0
            have lcb := lt_of_heap hC2.out
            clear hcb hf2 hB
            go_wp2_with fail
            obtain ⟨W3, hW3⟩ : ∃ W3, W3 = W2.alloc (.cells (acells x) 34) := ⟨_, rfl⟩
            have hW3' := hW3
            simp only [acells] at hW3'
            rw [← hW3']
            have hB3 : Hid (Both w1 W3 p lb2 q ob hb D A) := by rw [hW3]; exact hBW.out.keep ((Fr.refl [] _).alloc _)
            have hD3 : Hid (W3.heap[W2.heap.size]? = some (.cells (acells x) 34 (0, 0))) := by rw [hW3]; exact heap_alloc_new _ _
            have hC3 : Hid (W3.heap[cb]? = some (.cells (ccells c.noraw) 36 (0, 0))) := by rw [hW3]; exact allocB hC2.out _
            obtain ⟨d, hd⟩ : ∃ d, d = W2.heap.size := ⟨_, rfl⟩
            rw [← hd] at hD3 ⊢
            clear hW3 hW3' hd e0 hC2 hBW lcb
            obtain ⟨m1, _⟩ := hB3.out.notin_type hD3.out (by decide) (by decide) (by decide) (by decide) (by decide)
            obtain ⟨m2, _⟩ := hB3.out.notin_type hC3.out (by decide) (by decide) (by decide) (by decide) (by decide)
            refine (bDo hB3.out d2 (by omega) g1.k0 g1.k1 HX.out hSt2.out).mono ?_
            rintro e w4 ⟨lb4', rfl, hB4', hf4⟩
            have HB4 := Lib.hid hB4'
            have hD4 : Hid (w4.heap[d]? = some (.cells (acells x) 34 (0, 0))) := (hf4.block d (lt_of_heap hD3.out) m1).trans hD3.out
            have hC4 : Hid (w4.heap[cb]? = some (.cells (ccells c.noraw) 36 (0, 0))) := (hf4.block cb (lt_of_heap hC3.out) m2).trans hC3.out
            have e0 : w4.cell? ⟨cb, 0, none⟩ = some (.int .i64 c.kind) := cellB hC4.out 0
            have y1 : w4.cell? ⟨d, 1, none⟩ = some (.int .u64 x.now) := cellB hD4.out 1
            have y3 : w4.cell? ⟨d, 3, none⟩ = some (.int .i64 x.events) := cellB hD4.out 3
            have xo := HX.out
            obtain ⟨_, _, xn0, xn1, _, _, xe0, xe1⟩ := xo
            clear hB4' hf4 hD3 hC3 hB3 m1 m2 hSt2 HX hD4 hC4
            have z1 := hz2.out.ok
            have z2 : (nlS E (1 + (m : Int)) L' B (k + 1)).events ≤ 4000 := by have := hz2.out.ev; omega
            have z3 := Lib.hid (show (nlS E (1 + (m : Int)) L' B (k + 1)).Arm E (nlS E (1 + (m : Int)) L' B (k + 1)).now = (17, nlS E (1 + (m : Int)) L' B (k + 1)) by rw [arm_busy hz2.out.e0 hz2.out.M, late_now z1]; rfl)
            have hnow := Hnow.out
            clear hz2 Hnow NL
            generalize hFe : nlS E (1 + (m : Int)) L' B (k + 1) = F at *
            have HFe := Lib.hid hFe
            clear hFe
            by_cases c1 : er = 0
            · have hb1 : (er == 0) = true := by simp [c1]
              by_cases c2 : u < 8
              · rw [if_pos ⟨c1, c2⟩] at hnow
                have hb2 : decide (u < 8) = true := decide_eq_true c2
                have Hn := Lib.hid hnow
                clear c1 hnow
                have hz3 : Hid (F.Arm E x.now = (17, F)) := Lib.hid (by rw [← Hn.out]; exact z3.out)
                by_cases c7 : u = 7
                · have hb7 : (u == 7) = true := by simp [c7]
                  clear c7
                  by_cases ce : x.events = E
                  · have hbe : (x.events == E) = true := by simp [ce]
                    clear ce
                    go_wp2_with fail
                    refine (hK9.out _).mono ?_
                    rintro e w4 ⟨rfl, rfl⟩
                    go_wp2_with fail
                    refine (hK9.out _).mono ?_
                    rintro e w4 ⟨rfl, rfl⟩
                    go_wp2_with fail
                    refine (bArm HB4.out z1 (by omega) hz3.out (by omega) (by omega) (by omega) (by omega)).mono ?_
                    clear e0 y1 y3
                    rintro e w5 ⟨rfl, lb5, hB5⟩
                    have HB5 := Lib.hid hB5
                    clear hB5
                    go_wp2_with fail
                    go_roundw
                    case rel => exact ⟨k + 1, lb5, by omega, by go_num, by rw [HFe.out, Hn.out], by rw [HFe.out]; exact HB5⟩
                    case measure => simp [intOf]; omega
                  · have hbe : (x.events == E) = false := by simp [ce]
                    clear ce
                    go_wp2_with fail
                    refine (hK9.out _).mono ?_
                    rintro e w4 ⟨rfl, rfl⟩
                    go_wp2_with fail
                    refine (hK9.out _).mono ?_
                    rintro e w4 ⟨rfl, rfl⟩
                    go_wp2_with fail
                    go_roundw
                    case rel => exact ⟨k + 1, lb4', by omega, by go_num, by rw [HFe.out, Hn.out], by rw [HFe.out]; exact HB4⟩
                    case measure => simp [intOf]; omega
                · have hb7 : (u == 7) = false := by simp [c7]
                  clear c7
                  go_wp2_with fail
                  refine (hK9.out _).mono ?_
                  rintro e w4 ⟨rfl, rfl⟩
                  go_wp2_with fail
                  refine (hK9.out _).mono ?_
                  rintro e w4 ⟨rfl, rfl⟩
                  go_wp2_with fail
                  go_roundw
                  case rel => exact ⟨k + 1, lb4', by omega, by go_num, by rw [HFe.out, Hn.out], by rw [HFe.out]; exact HB4⟩
                  case measure => simp [intOf]; omega
              · rw [if_neg (fun h => c2 h.2)] at hnow
                have hb2 : decide (u < 8) = false := decide_eq_false c2
                have Hn := Lib.hid hnow
                clear c1 hnow
                have hz3 : Hid (F.Arm E D.now = (17, F)) := Lib.hid (by rw [← Hn.out]; exact z3.out)
                have hb7 : (u == 7) = false := by simp; omega
                go_wp2_with fail
                refine (hK9.out _).mono ?_
                rintro e w4 ⟨rfl, rfl⟩
                go_wp2_with fail
                refine (hK9.out _).mono ?_
                rintro e w4 ⟨rfl, rfl⟩
                go_wp2_with fail
                go_roundw
                case rel => exact ⟨k + 1, lb4', by omega, by go_num, by rw [HFe.out, Hn.out], by rw [HFe.out]; exact HB4⟩
                case measure => simp [intOf]; omega
            · rw [if_neg (fun h => c1 h.1)] at hnow
              have hb1 : (er == 0) = false := by simp [c1]
              have Hn := Lib.hid hnow
              clear c1 hnow
              have hz3 : Hid (F.Arm E D.now = (17, F)) := Lib.hid (by rw [← Hn.out]; exact z3.out)
              by_cases c7 : u = 7
              · have hb7 : (u == 7) = true := by simp [c7]
                clear c7
                by_cases ce : x.events = E
                · have hbe : (x.events == E) = true := by simp [ce]
                  clear ce
                  go_wp2_with fail
                  refine (hK9.out _).mono ?_
                  rintro e w4 ⟨rfl, rfl⟩
                  go_wp2_with fail
                  refine (bArm HB4.out z1 (by omega) hz3.out (by omega) (by omega) (by omega) (by omega)).mono ?_
                  clear e0 y1 y3
                  rintro e w5 ⟨rfl, lb5, hB5⟩
                  have HB5 := Lib.hid hB5
                  clear hB5
                  go_wp2_with fail
                  go_roundw
                  case rel => exact ⟨k + 1, lb5, by omega, by go_num, by rw [HFe.out, Hn.out], by rw [HFe.out]; exact HB5⟩
                  case measure => simp [intOf]; omega
                · have hbe : (x.events == E) = false := by simp [ce]
                  clear ce
                  go_wp2_with fail
                  refine (hK9.out _).mono ?_
                  rintro e w4 ⟨rfl, rfl⟩
                  go_wp2_with fail
                  go_roundw
                  case rel => exact ⟨k + 1, lb4', by omega, by go_num, by rw [HFe.out, Hn.out], by rw [HFe.out]; exact HB4⟩
                  case measure => simp [intOf]; omega
              · have hb7 : (u == 7) = false := by simp [c7]
                clear c7
                go_wp2_with fail
                refine (hK9.out _).mono ?_
                rintro e w4 ⟨rfl, rfl⟩
                go_wp2_with fail
                go_roundw
                case rel => exact ⟨k + 1, lb4', by omega, by go_num, by rw [HFe.out, Hn.out], by rw [HFe.out]; exact HB4⟩
                case measure => simp [intOf]; omega
          · have hkn : k = len' := by omega
            subst hkn
            have hz3 : Hid ((nlS E (1 + (m : Int)) L' B k).Arm E (nlS E (1 + (m : Int)) L' B k).now = (17, nlS E (1 + (m : Int)) L' B k)) := Lib.hid (by rw [arm_busy hz.out.e0 hz.out.M, late_now hz.out.ok]; rfl)
            have hz4 : (nlS E (1 + (m : Int)) L' B k).events ≤ 4000 := by have := hz.out.ev; omega
            have hz5 := hz.out.ok
            generalize nlS E (1 + (m : Int)) L' B k = F at *
            have hn0 := hz5.now0
            have hn1 := hz5.now1
            clear NL
            go_wp2_with fail
            refine (bArm hB.out hz5 (by omega) hz3.out (by omega) (by omega) (by omega) (by omega)).mono ?_
            rintro e w5 ⟨rfl, lb5, hB5⟩
            have HB5 := Lib.hid hB5
            clear hB5 hB
            go_wp2_with fail
            refine (HA.out _).mono ?_
            rintro e w' ⟨rfl, hB⟩
            go_wp2_with fail
            go_ret
            exact ⟨rfl, HB5.out.bel.trans (hB.mono HB5.out.bel.size)⟩
      · have hk0 : (kd % 3 == 0) = false := by simp [hk]
        have hk1 : (kd % 3 == 1) = false := by simp [hk]
        have Hk := Lib.hid hk
        clear hk
        go_enter Try.func4, Try.ntmps4
        go_wp2_with fail
        refine (hM.out _).mono ?_
        rintro e w1 ⟨rfl, rfl⟩
        go_wp2_with fail
        refine (hSt.out trivial).mono ?_
        rintro e w2 ⟨p, lb, q, ob, hb, rfl, hB⟩
        have HB := Lib.hid hB
        clear hSt hM hB
        go_wp2_with fail
        refine (bCounts HB.out kA.n HE.out HC.out).mono ?_
        rintro e w3 ⟨rfl, hB⟩
        have HB3 := Lib.hid hB
        have hck := hB.clock
        clear hB HB
        go_wp2_with fail
        refine (hM2.out _).mono ?_
        rintro e w3 ⟨rfl, rfl⟩
        obtain ⟨B, hBe, hBg⟩ := HBL.out
        have HBe := Lib.hid hBe
        clear hBe
        go_upto_region 13 with (fail)
        go_region_held3 (fun w => w.cell? ⟨q, 7, none⟩ = some (.int .u64 A.now)) (first | exact HB3.out.clock | exact HB3.out.drew.clock | exact HB4.out.clock)
          (first | (go_at_call 24; refine (bSetAlarm HB3.out.drew kA (by omega) HBe.out (by omega) (by omega) (by omega) (by omega)).mono ?_; rintro e w4 ⟨rfl, hB⟩; have HB4 := Lib.hid hB))
        clear hck hB HB3 HBe
        have hck := HB4.out.clock
        obtain ⟨gN, gO⟩ := hloop.out B hBg
        have NL := HF.out B hBg
        have gn : B.n = A.n := hBg.n
        have gev : B.events ≤ 1800 := by have := hBg.ev; have := kA.n; omega
        have hnow0 : Hid (A.now = (nlS E (1 + (m : Int)) L' B 0).now) := gN.symm
        have GO := Lib.hid gO
        clear gN gO hloop HF hBg HBA HBP HBL
        have GN := Lib.hid gn
        clear gn
        go_wp2_with fail
        clear hck
        go_loopw [21, 22] (fun n c wr => ∃ k lb2 : Nat, k ≤ len' ∧ c = .int .i64 k ∧ n = .int .u64 (nlS E (1 + (m : Int)) L' B k).now ∧ Hid (Both w1 wr p lb2 q ob hb (nlS E (1 + (m : Int)) L' B k) A))
          (fun _ c _ => len' - (intOf c).toNat)
        case atStart => exact ⟨0, lb, by omega, rfl, by rw [hnow0.out], HB4.out⟩
        case round =>
          clear hnow0 HB4
          obtain ⟨k, lb2, hk, rfl, rfl, hB⟩ := hrel
          have hz := Lib.hid (NL.out k (by omega))
          by_cases hlt : k < len'
          · obtain rfl := ha' (by omega)
            clear ha'
            obtain ⟨g0, g1, hcat⟩ := Hat.out k hlt
            have hs : nlS E (1 + (m : Int)) L' B (k + 1) = ((nlS E (1 + (m : Int)) L' B k).step (L' k).kind ((L' k).noraw.at (1 + (m : Int)) (nlS E (1 + (m : Int)) L' B k).now E)).2 := rfl
            have Hs := Lib.hid hs
            clear hs
            have hz2 := Lib.hid (NL.out (k + 1) (by omega))
            generalize nlS E (1 + (m : Int)) L' B k = D at hB hz Hs
            generalize hc : L' k = c at *
            have KC : Hid (CAt wr b (o + k * 6) c) := CAt.below hcat hB.out.bel g0
            clear hcat hc Hat
            have d2 := hz.out.ok
            have d3 : D.events ≤ 3000 := by have := hz.out.ev; omega
            have d4 := d2.now0
            have d5 := d2.now1
            have hAt : Hid (∀ W, Calls Try.prog 14 #[.agg #[.int .i64 c.kind, .int .i64 c.source, .int .u64 c.wait, .int .u64 c.hold, .int .i64 c.events, .bool false], .int .i64 (1 + (m : Int)), .int .u64 D.now, .int .i64 E] W fun e w' => e = .returned (c.noraw.at (1 + (m : Int)) D.now E).val ∧ Fr [] W w') :=
              fun W => at_calls c.noraw g1.noraw (1 + (m : Int)) D.now E (by omega) (by omega) d4 d5 W
            have hX := Cl.at_ok g1.noraw (1 + (m : Int)) D.now E (by omega) d4 d5 (by omega) (by omega)
            have hs := Hs.out
            generalize c.noraw.at (1 + (m : Int)) D.now E = x at hAt hX hs
            unfold Ar.val at hAt
            have hSt2 : Hid (D.step c.kind x = ((D.step c.kind x).1, nlS E (1 + (m : Int)) L' B (k + 1))) := Lib.hid (by rw [hs])
            have hnow := step_now (k := c.kind) d2 hX
            rw [← hs] at hnow
            have hK9 : Hid (∀ W, Calls Try.prog 13 #[.int .i64 c.kind, .int .i64 9] W fun e w' => e = .returned (.int .i64 (umod c.kind 9)) ∧ w' = W) := fun W => mod_calls c.kind 9 g1.k0 g1.k1 (by omega) (by omega) W
            have hu0 := umod_nn c.kind 9 (by omega)
            have hu1 := umod_lt c.kind 9 (by omega)
            generalize umod c.kind 9 = u at hK9 hnow hu0 hu1
            generalize (D.step c.kind x).1 = er at hSt2 hnow
            have Hnow := Lib.hid hnow
            have HX := Lib.hid hX
            have kc := KC.out
            obtain ⟨c0, c1, c2, c3, c4, c5⟩ := kc
            clear hs hnow hX Hs
            go_wp2_with fail
            refine (hAt.out _).mono ?_
            clear c0 c1 c2 c3 c4 c5
            rintro e W2 ⟨rfl, hf2⟩
            have hBW : Hid (Both w1 W2 p lb2 q ob hb D A) := (hB.out.keep ((Fr.refl [] wr).alloc _)).keep hf2
            have hC2 : Hid (W2.heap[wr.heap.size]? = some (.cells (ccells c.noraw) 36 (0, 0))) := hf2.at (heap_alloc_new _ _)
            obtain ⟨cb, hcb⟩ : ∃ cb, cb = wr.heap.size := ⟨_, rfl⟩
            rw [← hcb] at hC2 ⊢
            have e0 : W2.cell? ⟨cb, 0, none⟩ = some (.int .i64 c.kind) := cellB hC2.out 0
            have lcb := lt_of_heap hC2.out
            clear hcb hf2 hB
            go_wp2_with fail
            obtain ⟨W3, hW3⟩ : ∃ W3, W3 = W2.alloc (.cells (acells x) 34) := ⟨_, rfl⟩
            have hW3' := hW3
            simp only [acells] at hW3'
            rw [← hW3']
            have hB3 : Hid (Both w1 W3 p lb2 q ob hb D A) := by rw [hW3]; exact hBW.out.keep ((Fr.refl [] _).alloc _)
            have hD3 : Hid (W3.heap[W2.heap.size]? = some (.cells (acells x) 34 (0, 0))) := by rw [hW3]; exact heap_alloc_new _ _
            have hC3 : Hid (W3.heap[cb]? = some (.cells (ccells c.noraw) 36 (0, 0))) := by rw [hW3]; exact allocB hC2.out _
            obtain ⟨d, hd⟩ : ∃ d, d = W2.heap.size := ⟨_, rfl⟩
            rw [← hd] at hD3 ⊢
            clear hW3 hW3' hd e0 hC2 hBW lcb
            obtain ⟨m1, _⟩ := hB3.out.notin_type hD3.out (by decide) (by decide) (by decide) (by decide) (by decide)
            obtain ⟨m2, _⟩ := hB3.out.notin_type hC3.out (by decide) (by decide) (by decide) (by decide) (by decide)
            refine (bDo hB3.out d2 (by omega) g1.k0 g1.k1 HX.out hSt2.out).mono ?_
            rintro e w4 ⟨lb4', rfl, hB4', hf4⟩
            have HB4 := Lib.hid hB4'
            have hD4 : Hid (w4.heap[d]? = some (.cells (acells x) 34 (0, 0))) := (hf4.block d (lt_of_heap hD3.out) m1).trans hD3.out
            have hC4 : Hid (w4.heap[cb]? = some (.cells (ccells c.noraw) 36 (0, 0))) := (hf4.block cb (lt_of_heap hC3.out) m2).trans hC3.out
            have e0 : w4.cell? ⟨cb, 0, none⟩ = some (.int .i64 c.kind) := cellB hC4.out 0
            have y1 : w4.cell? ⟨d, 1, none⟩ = some (.int .u64 x.now) := cellB hD4.out 1
            have y3 : w4.cell? ⟨d, 3, none⟩ = some (.int .i64 x.events) := cellB hD4.out 3
            have xo := HX.out
            obtain ⟨_, _, xn0, xn1, _, _, xe0, xe1⟩ := xo
            clear hB4' hf4 hD3 hC3 hB3 m1 m2 hSt2 HX hD4 hC4
            have z1 := hz2.out.ok
            have z2 : (nlS E (1 + (m : Int)) L' B (k + 1)).events ≤ 4000 := by have := hz2.out.ev; omega
            have z3 := Lib.hid (show (nlS E (1 + (m : Int)) L' B (k + 1)).Arm E (nlS E (1 + (m : Int)) L' B (k + 1)).now = (17, nlS E (1 + (m : Int)) L' B (k + 1)) by rw [arm_busy hz2.out.e0 hz2.out.M, late_now z1]; rfl)
            have hnow := Hnow.out
            clear hz2 Hnow NL
            generalize hFe : nlS E (1 + (m : Int)) L' B (k + 1) = F at *
            have HFe := Lib.hid hFe
            clear hFe
            by_cases c1 : er = 0
            · have hb1 : (er == 0) = true := by simp [c1]
              by_cases c2 : u < 8
              · rw [if_pos ⟨c1, c2⟩] at hnow
                have hb2 : decide (u < 8) = true := decide_eq_true c2
                have Hn := Lib.hid hnow
                clear c1 hnow
                have hz3 : Hid (F.Arm E x.now = (17, F)) := Lib.hid (by rw [← Hn.out]; exact z3.out)
                by_cases c7 : u = 7
                · have hb7 : (u == 7) = true := by simp [c7]
                  clear c7
                  by_cases ce : x.events = E
                  · have hbe : (x.events == E) = true := by simp [ce]
                    clear ce
                    go_wp2_with fail
                    refine (hK9.out _).mono ?_
                    rintro e w4 ⟨rfl, rfl⟩
                    go_wp2_with fail
                    refine (hK9.out _).mono ?_
                    rintro e w4 ⟨rfl, rfl⟩
                    go_wp2_with fail
                    refine (bArm HB4.out z1 (by omega) hz3.out (by omega) (by omega) (by omega) (by omega)).mono ?_
                    clear e0 y1 y3
                    rintro e w5 ⟨rfl, lb5, hB5⟩
                    have HB5 := Lib.hid hB5
                    clear hB5
                    go_wp2_with fail
                    go_roundw
                    case rel => exact ⟨k + 1, lb5, by omega, by go_num, by rw [HFe.out, Hn.out], by rw [HFe.out]; exact HB5⟩
                    case measure => simp [intOf]; omega
                  · have hbe : (x.events == E) = false := by simp [ce]
                    clear ce
                    go_wp2_with fail
                    refine (hK9.out _).mono ?_
                    rintro e w4 ⟨rfl, rfl⟩
                    go_wp2_with fail
                    refine (hK9.out _).mono ?_
                    rintro e w4 ⟨rfl, rfl⟩
                    go_wp2_with fail
                    go_roundw
                    case rel => exact ⟨k + 1, lb4', by omega, by go_num, by rw [HFe.out, Hn.out], by rw [HFe.out]; exact HB4⟩
                    case measure => simp [intOf]; omega
                · have hb7 : (u == 7) = false := by simp [c7]
                  clear c7
                  go_wp2_with fail
                  refine (hK9.out _).mono ?_
                  rintro e w4 ⟨rfl, rfl⟩
                  go_wp2_with fail
                  refine (hK9.out _).mono ?_
                  rintro e w4 ⟨rfl, rfl⟩
                  go_wp2_with fail
                  go_roundw
                  case rel => exact ⟨k + 1, lb4', by omega, by go_num, by rw [HFe.out, Hn.out], by rw [HFe.out]; exact HB4⟩
                  case measure => simp [intOf]; omega
              · rw [if_neg (fun h => c2 h.2)] at hnow
                have hb2 : decide (u < 8) = false := decide_eq_false c2
                have Hn := Lib.hid hnow
                clear c1 hnow
                have hz3 : Hid (F.Arm E D.now = (17, F)) := Lib.hid (by rw [← Hn.out]; exact z3.out)
                have hb7 : (u == 7) = false := by simp; omega
                go_wp2_with fail
                refine (hK9.out _).mono ?_
                rintro e w4 ⟨rfl, rfl⟩
                go_wp2_with fail
                refine (hK9.out _).mono ?_
                rintro e w4 ⟨rfl, rfl⟩
                go_wp2_with fail
                go_roundw
                case rel => exact ⟨k + 1, lb4', by omega, by go_num, by rw [HFe.out, Hn.out], by rw [HFe.out]; exact HB4⟩
                case measure => simp [intOf]; omega
            · rw [if_neg (fun h => c1 h.1)] at hnow
              have hb1 : (er == 0) = false := by simp [c1]
              have Hn := Lib.hid hnow
              clear c1 hnow
              have hz3 : Hid (F.Arm E D.now = (17, F)) := Lib.hid (by rw [← Hn.out]; exact z3.out)
              by_cases c7 : u = 7
              · have hb7 : (u == 7) = true := by simp [c7]
                clear c7
                by_cases ce : x.events = E
                · have hbe : (x.events == E) = true := by simp [ce]
                  clear ce
                  go_wp2_with fail
                  refine (hK9.out _).mono ?_
                  rintro e w4 ⟨rfl, rfl⟩
                  go_wp2_with fail
                  refine (bArm HB4.out z1 (by omega) hz3.out (by omega) (by omega) (by omega) (by omega)).mono ?_
                  clear e0 y1 y3
                  rintro e w5 ⟨rfl, lb5, hB5⟩
                  have HB5 := Lib.hid hB5
                  clear hB5
                  go_wp2_with fail
                  go_roundw
                  case rel => exact ⟨k + 1, lb5, by omega, by go_num, by rw [HFe.out, Hn.out], by rw [HFe.out]; exact HB5⟩
                  case measure => simp [intOf]; omega
                · have hbe : (x.events == E) = false := by simp [ce]
                  clear ce
                  go_wp2_with fail
                  refine (hK9.out _).mono ?_
                  rintro e w4 ⟨rfl, rfl⟩
                  go_wp2_with fail
                  go_roundw
                  case rel => exact ⟨k + 1, lb4', by omega, by go_num, by rw [HFe.out, Hn.out], by rw [HFe.out]; exact HB4⟩
                  case measure => simp [intOf]; omega
              · have hb7 : (u == 7) = false := by simp [c7]
                clear c7
                go_wp2_with fail
                refine (hK9.out _).mono ?_
                rintro e w4 ⟨rfl, rfl⟩
                go_wp2_with fail
                go_roundw
                case rel => exact ⟨k + 1, lb4', by omega, by go_num, by rw [HFe.out, Hn.out], by rw [HFe.out]; exact HB4⟩
                case measure => simp [intOf]; omega
          · have hkn : k = len' := by omega
            subst hkn
            have hz3 : Hid ((nlS E (1 + (m : Int)) L' B k).Arm E (nlS E (1 + (m : Int)) L' B k).now = (17, nlS E (1 + (m : Int)) L' B k)) := Lib.hid (by rw [arm_busy hz.out.e0 hz.out.M, late_now hz.out.ok]; rfl)
            have hz4 : (nlS E (1 + (m : Int)) L' B k).events ≤ 4000 := by have := hz.out.ev; omega
            have hz5 := hz.out.ok
            generalize nlS E (1 + (m : Int)) L' B k = F at *
            have hn0 := hz5.now0
            have hn1 := hz5.now1
            clear NL
            go_wp2_with fail
            refine (bArm hB.out hz5 (by omega) hz3.out (by omega) (by omega) (by omega) (by omega)).mono ?_
            rintro e w5 ⟨rfl, lb5, hB5⟩
            have HB5 := Lib.hid hB5
            clear hB5 hB
            go_wp2_with fail
            refine (HA.out _).mono ?_
            rintro e w' ⟨rfl, hB⟩
            go_wp2_with fail
            go_ret
            exact ⟨rfl, HB5.out.bel.trans (hB.mono HB5.out.bel.size)⟩
end Go.Proofs.Ytjdbhlmkcbgkjaa.Wk
