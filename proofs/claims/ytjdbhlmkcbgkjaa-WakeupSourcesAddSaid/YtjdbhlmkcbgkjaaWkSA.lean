import Derived.Test.YtjdbhlmkcbgkjaaWkSM
namespace Go.Proofs.Ytjdbhlmkcbgkjaa.Wk
open Go.RowKit Go.Proofs.YtjdbhlmkcbgkjaaW.PrintWords
set_option linter.unusedVariables false
set_option linter.unusedSimpArgs false
attribute [local go_sem ↓] Go.wp_at_zero Go.wp_at_succ

theorem sumN_mono (f : Nat → Int) : ∀ k s : Nat, s ≤ k → (∀ i, i < k → 0 ≤ f i) → 0 ≤ sumN f s ∧ sumN f s ≤ sumN f k
  | 0, s, h, _ => by
    obtain rfl : s = 0 := by omega
    exact ⟨Int.le_refl _, Int.le_refl _⟩
  | k + 1, s, h, hf => by
    by_cases e : s = k + 1
    · subst e
      have ih := sumN_mono f k k (Nat.le_refl _) (fun i hi => hf i (by omega))
      have := hf k (by omega)
      refine ⟨?_, Int.le_refl _⟩
      unfold sumN; omega
    · have ih := sumN_mono f k s (by omega) (fun i hi => hf i (by omega))
      have := hf k (by omega)
      refine ⟨ih.1, ?_⟩
      show _ ≤ sumN f k + f k
      omega
theorem sumN_one (f : Nat → Int) (k s : Nat) (h : s < k) (hf : ∀ i, i < k → 0 ≤ f i) : f s ≤ sumN f k := by
  have h1 := sumN_mono f k (s + 1) h hf
  have h2 := sumN_mono f k s (by omega) hf
  have : sumN f (s + 1) = sumN f s + f s := rfl
  omega
theorem Rel.le {A : St} {M : Nat → St} {k s : Nat} (h : Rel A M k) (hs : s < k) : 0 ≤ (M s).events ∧ (M s).events ≤ A.events := by
  refine ⟨(h.one s hs).ok.ev0, ?_⟩
  rw [h.ev]
  exact sumN_one (fun s => (M s).events) k s hs (fun i hi => (h.one i hi).ok.ev0)
theorem Rel.cntle {A : St} {M : Nat → St} {k s : Nat} (h : Rel A M k) (hs : s < k) : (M s).cnt ≤ 1 := by
  have h1 : (M s).cnt ≤ (M s).n := cntK_le _ _
  rw [(h.one s hs).n] at h1
  exact h1
theorem rel_new (k : Nat) (hk : k ≤ 32) : Rel (St.new k) (fun _ => St.new 1) k :=
  ⟨rfl, fun s hs => ⟨rfl, rfl, rfl, rfl, rfl, St.new_ok 1 (by omega)⟩, rfl, by
    show (0 : Int) = _
    have : ∀ k, sumN (fun _ => (0 : Int)) k = 0 := fun k => by
      induction k with
      | zero => rfl
      | succ k ih => unfold sumN; rw [ih]; rfl
    exact (this k).symm, St.new_ok k hk⟩
def clp (c : Cl) (u : Int) : Cl := ⟨u, c.source, c.wait, c.hold, c.events, false⟩
theorem clp_at (c : Cl) (hc : c.Ok) (u : Int) (hu : umod u 9 ≠ 5) (u0 : 0 ≤ u) (u1 : u < 9) (n now : Int) (hn : 0 < n) (n1 : n < 1000) (t0 : 0 ≤ now) (t1 : now ≤ 1000000) :
    (clp c u).Ok ∧ ((clp c u).at n now 0).source = umod c.source n ∧ ((clp c u).at n now 0).now = now + c.wait % 10 ∧ 0 ≤ ((clp c u).at n now 0).other ∧ ((clp c u).at n now 0).other ≤ 12 ∧ ((clp c u).at n now 0).Ok := by
  have hk : (clp c u).Ok := ⟨by show -9223372036854775808 ≤ u; omega, by show u < 9223372036854775808; omega, hc.s0, hc.s1, hc.w0, hc.w1, hc.h0, hc.h1, hc.e0, hc.e1⟩
  refine ⟨hk, ?_, ?_, ?_, ?_, Cl.at_ok hk n now 0 (by omega) t0 (by omega) (by omega) (by omega)⟩
  · unfold Cl.at clp; simp [hn]
  · unfold Cl.at clp; simp
  · unfold Cl.at clp; simp [hu]; omega
  · unfold Cl.at clp; simp [hu]; omega

set_option maxHeartbeats 12800000 in
set_option maxRecDepth 100000 in
theorem adds_calls (v : Int) (v0 : -9223372036854775808 ≤ v) (v1 : v < 9223372036854775808) (a : Option Addr) (len cap : Nat) (hmax : len ≤ 9223372036854775807) (L : Nat → Cl) (w : World) (hL : CallsAt w a len L) :
    Calls Try.prog 9 #[.int .i64 v, .slice a len cap] w fun e w' => e = .returned (.bool true) ∧ Below w.heap.size w w' := by
  have HA := Lib.hid awake_calls
  by_cases hbig : 40 < len
  · have hd2 : decide ((40 : Int) < len) = true := decide_eq_true (by omega)
    clear hL
    go_enter Try.func9, Try.ntmps9
    go_wp2_with fail
    refine (HA.out _).mono ?_
    rintro e w' ⟨rfl, hB⟩
    go_wp2_with fail
    go_ret
    exact ⟨rfl, hB⟩
  · have hd2 : decide ((40 : Int) < len) = false := decide_eq_false (by omega)
    obtain ⟨m, hmn, hm4⟩ := umod_nat v 4 (by omega)
    have hm3 : m ≤ 3 := by omega
    have hM : Hid (∀ W, Calls Try.prog 13 #[.int .i64 v, .int .i64 4] W fun e w' => e = .returned (.int .i64 m) ∧ w' = W) := fun W => by
      have h := mod_calls v 4 v0 v1 (by omega) (by omega) W
      rw [hmn] at h
      exact h
    clear hmn hm4
    obtain ⟨b, o, ha, hat⟩ := hL
    have Hat := Lib.hid hat
    clear hat
    have HN : Hid (∀ W, Calls Try.prog 11 #[.int .i64 (1 + (m : Int))] W fun e w' => ∃ p lb, W.heap.size ≤ p ∧ W.heap.size ≤ lb ∧ e = .returned (.tuple #[.pointer (some ⟨p, 0, none⟩), .int .i64 0]) ∧ PMem w' p lb (St.new (m + 1)) ∧ Fr [] W w') := fun W => by
      have h := new_calls (m + 1) (by omega) W
      have e : ((m + 1 : Nat) : Int) = 1 + (m : Int) := by omega
      rw [e] at h
      exact h
    have HN1 : Hid (∀ W, Calls Try.prog 11 #[.int .i64 1] W fun e w' => ∃ p lb, W.heap.size ≤ p ∧ W.heap.size ≤ lb ∧ e = .returned (.tuple #[.pointer (some ⟨p, 0, none⟩), .int .i64 0]) ∧ PMem w' p lb (St.new 1) ∧ Fr [] W w') := fun W => new_calls 1 (by omega) W
    have hlen : len ≤ 40 := by omega
    have HRN := Lib.hid (rel_new (m + 1) (by omega))
    obtain ⟨i0, hi, hzz⟩ := Option.map_eq_some_iff.1 (show (Try.prog.info? 24).map (fun i => (i.zero, i.size, i.bytes)) = some (some (.pointer none), 1, 8) by kernel_rfl)
    simp only [Prod.mk.injEq] at hzz
    have Hi := Lib.hid hi
    have Hz := Lib.hid hzz
    clear hi hzz
    go_enter Try.func9, Try.ntmps9
    go_wp2_with fail
    refine (hM.out _).mono ?_
    rintro e w2 ⟨rfl, rfl⟩
    go_wp2_with fail
    refine (HN.out _).mono ?_
    rintro e w3 ⟨p, lb, hp, hl, rfl, hm, f3⟩
    have HB : Hid (Many w2 w3 p lb (St.new (m + 1)) 0 (fun _ => 0) (fun _ => 0) (fun _ => St.new 1) (.slice none 0 0)) := Lib.hid ⟨⟨hm, f3.below (Below.refl _ _) (Nat.le_refl _) (by simp), hp, hl⟩, fun s hs => absurd hs (by omega), fun s hs => absurd hs (by omega), fun s r hs => absurd hs (by omega), World.ownsRow_nil _ _ _ _⟩
    clear hm f3 hp hl HN hM
    go_wp2_with fail
    go_loopw [8, 9] (fun vs c wr => ∃ (s : Nat) (P L : Nat → Nat), s ≤ m + 1 ∧ c = .int .i64 s ∧ Hid (Many w2 wr p lb (St.new (m + 1)) s P L (fun _ => St.new 1) vs))
      (fun _ c _ => 5 - (intOf c).toNat)
    case atStart => exact ⟨0, _, _, by omega, rfl, HB⟩
    case round =>
      obtain ⟨s, P, Lb, hs, rfl, hB⟩ := hrel
      clear HB
      by_cases hlt : s < m + 1
      · go_wp2_with fail
        refine (HN1.out _).mono ?_
        rintro e w4 ⟨q, lq, hq, hlq, rfl, hm4, hf4⟩
        have own4 := ((hB.out.fr0 hf4).own).alloc (.cells #[.pointer (some ⟨q, 0, none⟩)] 24)
        have Own4 := Lib.hid own4
        have hsz4 : w2.heap.size ≤ w4.heap.size := Nat.le_trans hB.out.a.bel.size hf4.size
        have Hm4 := Lib.hid hm4
        clear own4 hm4
        have hnews : Hid (∀ j u, ([Value.pointer (some ⟨q, 0, none⟩)] : List Value)[j]? = some u → (w4.alloc (.cells #[.pointer (some ⟨q, 0, none⟩)] 24)).cell? ((⟨w4.heap.size, 0, none⟩ : Addr).add j) = some u) := fun j u hu => World.news_of_block (cs := #[.pointer (some ⟨q, 0, none⟩)]) (t := 24) (fr := (0, 0)) (heap_alloc_new w4 _) j u (by simpa using hu)
        go_wp2_with (at_builtin; refine wpList_append_own_at (w4.alloc (.cells #[.pointer (some ⟨q, 0, none⟩)] 24)) rfl (.tmp 58) (.tmp 60) 57 rfl w2.heap.size 24 i0 (.pointer none) 1 8 Try.underlying57 Hi.out Hz.out.1 Hz.out.2.1 Hz.out.2.2 rfl (by omega) _ s (ptrs P s) rfl Own4.out ⟨w4.heap.size, 0, none⟩ 1 1 [.pointer (some ⟨q, 0, none⟩)] rfl rfl hnews.out (by simp [Value.oneCell']) (by simp only [maxLen]; omega) (by omega) (by simp; omega) ?_; intro v1 w5 ho5 hg5 _ _)
        have hP := Lib.hid (hB.out.push hf4 hq hlq Hm4.out ho5 hg5)
        clear hB hf4 hq hlq Hm4 ho5 hg5 Own4 hnews hsz4
        go_roundw
        case rel =>
          refine ⟨s + 1, _, _, by omega, by go_num, Lib.hid (hP.out.same fun r hr => ?_)⟩
          unfold upd; split <;> rfl
        case measure => simp [intOf]; omega
      · have hkn : s = m + 1 := by omega
        subst hkn
        obtain ⟨g, gc, rfl⟩ := hB.out.form (by omega)
        clear HN1 Hi Hz
        go_wp2_with fail
        go_loopw [12, 13] (fun t c wr => ∃ (i lb2 : Nat) (L2 : Nat → Nat) (A : St) (M : Nat → St), i ≤ len ∧ c = .int .i64 i ∧ t = .int .u64 A.now ∧ A.now ≤ 9 * i ∧ A.events ≤ i * 34 ∧ Hid (Rel A M (m + 1)) ∧ Hid (Many w2 wr p lb2 A (m + 1) P L2 M (.slice (some ⟨g, 0, none⟩) (m + 1) gc)))
          (fun _ c _ => len - (intOf c).toNat)
        case atStart => exact ⟨0, lb, Lb, St.new (m + 1), fun _ => St.new 1, by omega, rfl, rfl, by show (0 : Int) ≤ _; omega, by show (0 : Int) ≤ _; omega, HRN, hB⟩
        case round =>
          clear hB HRN
          obtain ⟨i, lb2, L2, A, M, hi, rfl, rfl, hnow, hev, hR, hB⟩ := hrel
          by_cases hlt : i < len
          · obtain rfl := ha (by omega)
            clear ha
            obtain ⟨g0, g1, hcat⟩ := Hat.out i hlt
            generalize hc : L i = c at *
            have KC : Hid (CAt wr b (o + i * 6) c) := CAt.below hcat hB.out.a.bel g0
            clear hcat hc Hat
            have an0 := hR.out.ok.now0
            have ae0 := hR.out.ok.ev0
            have hw0 : 0 ≤ c.wait % 10 := by omega
            have hw1 : c.wait % 10 < 10 := by omega
            have hw9 := Lib.hid (umod_nn c.source (1 + (m : Int)) (by omega))
            obtain ⟨j, hj, hjm⟩ := umod_nat c.source (1 + (m : Int)) (by omega)
            have Hj := Lib.hid hj
            have hK9 : Hid (∀ W, Calls Try.prog 13 #[.int .i64 c.kind, .int .i64 9] W fun e w' => e = .returned (.int .i64 (umod c.kind 9)) ∧ w' = W) := fun W => mod_calls c.kind 9 g1.k0 g1.k1 (by omega) (by omega) W
            have hu0 := umod_nn c.kind 9 (by omega)
            have hu1 := umod_lt c.kind 9 (by omega)
            generalize umod c.kind 9 = u0 at hK9 hu0 hu1
            have kc := KC.out
            obtain ⟨c0, c1, c2, c3, c4, c5⟩ := kc
            clear hj hw9
            by_cases h5 : 5 ≤ u0
            · have hb5 : decide (5 ≤ u0) = true := decide_eq_true h5
              have humod : umod 6 9 = 6 := umod_small (by omega) (by omega)
              obtain ⟨hcc, hxs, hxn, hxo0, hxo1, hX⟩ := clp_at c g1 6 (by rw [humod]; omega) (by omega) (by omega) (1 + (m : Int)) A.now (by omega) (by omega) an0 (by omega)
              rw [Hj.out] at hxs
              have SR := step_rel hR.out (u := 6) (x := (clp c 6).at (1 + (m : Int)) A.now 0) (by omega) hxs (by omega) (by rw [hxn]; omega) (by rw [hxn]; omega) hxo0 (by omega) (by omega) (fun s hs => by have := hR.out.le hs; omega)
              have hAt : Hid (∀ W, Calls Try.prog 14 #[.agg #[.int .i64 6, .int .i64 c.source, .int .u64 c.wait, .int .u64 c.hold, .int .i64 c.events, .bool false], .int .i64 (1 + (m : Int)), .int .u64 A.now, .int .i64 0] W fun e w' => e = .returned ((clp c 6).at (1 + (m : Int)) A.now 0).val ∧ Fr [] W w') :=
                fun W => at_calls (clp c 6) hcc (1 + (m : Int)) A.now 0 (by omega) (by omega) an0 (by omega) W
              obtain ⟨cc, hcce⟩ : ∃ cc, cc = clp c 6 := ⟨_, rfl⟩
              have hcck : ccells cc = #[.int .i64 6, .int .i64 c.source, .int .u64 c.wait, .int .u64 c.hold, .int .i64 c.events, .bool false] := by rw [hcce]; rfl
              generalize (clp c 6).at (1 + (m : Int)) A.now 0 = x at *
              unfold Ar.val at hAt
              have hcckH := Lib.hid hcck
              clear hcce hcck
              have xn0 : 0 ≤ x.now := hX.n0
              have xn1 : x.now ≤ 1000 := by omega
              have xs0 := hX.s0
              have xs1 := hX.s1
              have Hxn := Lib.hid hxn
              have Hxs := Lib.hid hxs
              have HX := Lib.hid hX
              have HSR := Lib.hid SR
              have hkept := step_kept (k := 6) hR.out.ok hX (by omega)
              have hevB : (A.step 6 x).2.events ≤ i * 34 + 34 := by have := hkept.ev1; have := hR.out.n; omega
              have hevB0 : 0 ≤ (A.step 6 x).2.events := hkept.ok.ev0
              have hAn : (A.step 6 x).2.n ≤ 32 := hkept.ok.n
              have hStep : Hid (A.step 6 x = (0, (A.step 6 x).2)) := Lib.hid (Prod.ext SR.a rfl)
              have HB1 := Lib.hid (fun (s : Nat) (hs : s < m + 1) (h5 : 6 < 5) (he : (s : Int) = x.source) => SR.b s hs h5 he)
              have HRel := Lib.hid SR.rel
              have HNow := Lib.hid SR.now
              clear hkept SR hX hxn hxs hxo0 hxo1
              generalize hA' : (A.step 6 x).2 = A' at *
              generalize hNd : (fun s => oneS (M s) 6 x s) = N at *
              have HNd := Lib.hid hNd
              clear hA' hNd humod HSR
              go_wp2_with fail
              refine (hK9.out _).mono ?_
              rintro e w4 ⟨rfl, rfl⟩
              go_wp2_with fail
              refine (hAt.out _).mono ?_
              clear c0 c1 c2 c3 c4 c5
              rintro e W2 ⟨rfl, hf2⟩
              have hBW : Hid (Many w2 W2 p lb2 A (m + 1) P L2 M (.slice (some ⟨g, 0, none⟩) (m + 1) gc)) := (hB.out.fr0 ((Fr.refl [] wr).alloc _)).fr0 hf2
              have hC2 : Hid (W2.heap[wr.heap.size]? = some (.cells (ccells cc) 36 (0, 0))) := Lib.hid (by rw [hcckH.out]; exact hf2.at (heap_alloc_new _ _))
              obtain ⟨cb, hcb⟩ : ∃ cb, cb = wr.heap.size := ⟨_, rfl⟩
              rw [← hcb] at hC2 ⊢
              have CK : Hid (∀ (W : World) (bb : Nat), W.heap[bb]? = some (.cells (ccells cc) 36 (0, 0)) → W.cell? ⟨bb, 0, none⟩ = some (.int .i64 6)) := fun _ _ h => by rw [hcckH.out] at h; exact cellB h 0
              have e0 : W2.cell? ⟨cb, 0, none⟩ = some (.int .i64 6) := CK.out _ _ hC2.out
              have lcb := lt_of_heap hC2.out
              clear hcb hf2 hB hAt
              go_wp2_with fail
              obtain ⟨W3, hW3⟩ : ∃ W3, W3 = W2.alloc (.cells (acells x) 34) := ⟨_, rfl⟩
              have hW3' := hW3
              simp only [acells] at hW3'
              rw [← hW3']
              have hB3 : Hid (Many w2 W3 p lb2 A (m + 1) P L2 M (.slice (some ⟨g, 0, none⟩) (m + 1) gc)) := by rw [hW3]; exact hBW.out.fr0 ((Fr.refl [] _).alloc _)
              have hD3 : Hid (W3.heap[W2.heap.size]? = some (.cells (acells x) 34 (0, 0))) := by rw [hW3]; exact heap_alloc_new _ _
              have hC3 : Hid (W3.heap[cb]? = some (.cells (ccells cc) 36 (0, 0))) := by rw [hW3]; exact allocB hC2.out _
              obtain ⟨d, hd⟩ : ∃ d, d = W2.heap.size := ⟨_, rfl⟩
              rw [← hd] at hD3 ⊢
              clear hW3 hW3' hd e0 hC2 hBW KC lcb
              have m1 := hB3.out.a.notin_type hD3.out (by decide) (by decide)
              have m2 := hB3.out.a.notin_type hC3.out (by decide) (by decide)
              refine (do_calls p lb2 A 6 (by omega) (by omega) x HX.out W3 hR.out.ok (by omega) hB3.out.a.pm).mono ?_
              rintro e w4 ⟨lb4, hl4, rfl, hm4, hf4⟩
              rw [hStep.out] at hm4 ⊢
              have hB4 := Lib.hid (hB3.out.didA hl4 hm4 hf4)
              have hD4 : Hid (w4.heap[d]? = some (.cells (acells x) 34 (0, 0))) := (hf4.block d (lt_of_heap hD3.out) m1).trans hD3.out
              have hC4 : Hid (w4.heap[cb]? = some (.cells (ccells cc) 36 (0, 0))) := (hf4.block cb (lt_of_heap hC3.out) m2).trans hC3.out
              have y1 : w4.cell? ⟨d, 1, none⟩ = some (.int .u64 x.now) := cellB hD4.out 1
              clear hl4 hm4 hf4 hD3 hC3 hB3 m1 m2 hStep
              go_wp2_with fail
              clear y1
              go_loopw [16, 17, 18] (fun ev ac c wr => ∃ (s : Nat) (L3 : Nat → Nat), s ≤ m + 1 ∧ c = .int .i64 s ∧ ev = .int .i64 (sumN (fun r => (N r).events) s) ∧ ac = .int .i64 (sumN (fun r => ((N r).cnt : Int)) s) ∧ Hid (Many w2 wr p lb4 A' (m + 1) P L3 (fun r => if r < s then N r else M r) (.slice (some ⟨g, 0, none⟩) (m + 1) gc)) ∧ Hid (wr.heap[cb]? = some (.cells (ccells cc) 36 (0, 0))) ∧ Hid (wr.heap[d]? = some (.cells (acells x) 34 (0, 0))))
                (fun _ _ c _ => 5 - (intOf c).toNat)
              case atStart => exact ⟨0, L2, by omega, rfl, rfl, rfl, Lib.hid (hB4.out.same fun r hr => by rw [if_neg (by omega)]), hC4, hD4⟩
              case round =>
                clear hB4 hC4 hD4
                obtain ⟨s, L3, hs, rfl, rfl, rfl, hB, hC, hD⟩ := hrel
                have nev : ∀ r, r < m + 1 → 0 ≤ (N r).events := fun r hr => (HRel.out.one r hr).ok.ev0
                have hse := sumN_mono (fun r => (N r).events) (m + 1) s hs nev
                have ncn : ∀ r, r < m + 1 → 0 ≤ ((N r).cnt : Int) := fun r hr => by omega
                have hsc := sumN_mono (fun r => ((N r).cnt : Int)) (m + 1) s hs ncn
                have htot := Lib.hid HRel.out.ev
                have htoc := Lib.hid HRel.out.cnt
                have hse1 : sumN (fun r => (N r).events) s ≤ 5000 := by have := htot.out; omega
                have hcl : A'.cnt ≤ 32 := by have : A'.cnt ≤ A'.n := cntK_le _ _; omega
                have hsc1 : sumN (fun r => ((N r).cnt : Int)) s ≤ 32 := by have := htoc.out; omega
                have hse0 := hse.1
                have hsc0 := hsc.1
                clear hse hsc nev ncn
                by_cases hlt2 : s < m + 1
                · have hone := hR.out.one s hlt2
                  have honeN := HRel.out.one s hlt2
                  have hle := hR.out.le hlt2
                  have hleN := HRel.out.le hlt2
                  have hcN := HRel.out.cntle hlt2
                  have hss : sumN (fun r => (N r).events) (s + 1) = sumN (fun r => (N r).events) s + (N s).events := rfl
                  have hsq : sumN (fun r => ((N r).cnt : Int)) (s + 1) = sumN (fun r => ((N r).cnt : Int)) s + (N s).cnt := rfl
                  have Hss := Lib.hid hss
                  have Hsq := Lib.hid hsq
                  have HNs : Hid (N s = oneS (M s) 6 x s) := Lib.hid (by rw [← HNd.out])
                  have hb : Only w2 wr (P s) (L3 s) (M s) := by
                    have h := hB.out.b s hlt2
                    simp only [Nat.lt_irrefl, if_false] at h
                    exact h
                  have Hb := Lib.hid hb
                  have hcell := hB.out.cell hlt2
                  have hokM := hone.ok
                  have hokN := honeN.ok
                  have nn := hokN.n
                  have hE : Hid ((M s).Advance x.now = (0, (M s).adv x.now)) := Lib.hid (by unfold St.Advance; rw [late_same (by rw [hone.now, Hxn.out]; omega) (by omega)]; rfl)
                  have hsb : (s : Int) < 5 := by omega
                  clear hss hsq hb hone honeN
                  generalize sumN (fun r => (N r).events) s = se at *
                  generalize sumN (fun r => ((N r).cnt : Int)) s = sc at *
                  have hok2 := hokM.adv xn0 (by omega : x.now ≤ 1152921504606846976)
                  have hbd := adv_bounds (M s) x.now
                  have hmn := hokM.n
                  generalize hM1 : (M s).adv x.now = M1 at hE hok2 hbd
                  have HM1 := Lib.hid hM1
                  clear hM1
                  have cx0 : wr.cell? ⟨cb, 0, none⟩ = some (.int .i64 6) := CK.out _ _ hC.out
                  have mm1 := Hb.out.notin_type hD.out (by decide) (by decide)
                  have mm2 := Hb.out.notin_type hC.out (by decide) (by decide)
                  go_wp2_with fail
                  refine (advanceM_calls (P s) (L3 s) (M s) x.now (by omega) (by omega) _ hokM (by omega) Hb.out.pm).mono ?_
                  clear hcell cx0
                  rintro e w6 ⟨rfl, hm6, hf6⟩
                  rw [hE.out] at hm6 ⊢
                  have hB6 := Lib.hid (hB.out.didB hlt2 (Or.inl rfl) hm6 hf6)
                  have hD6 : Hid (w6.heap[d]? = some (.cells (acells x) 34 (0, 0))) := (hf6.block d (lt_of_heap hD.out) mm1).trans hD.out
                  have hC6 : Hid (w6.heap[cb]? = some (.cells (ccells cc) 36 (0, 0))) := (hf6.block cb (lt_of_heap hC.out) mm2).trans hC.out
                  have Hm6 := Lib.hid hm6
                  clear hm6 hf6 hB hD hC mm1 mm2 Hb hE
                  have hcell : w6.cell? ⟨g, s, none⟩ = some (.pointer (some ⟨P s, 0, none⟩)) := hB6.out.cell hlt2
                  have cx0 : w6.cell? ⟨cb, 0, none⟩ = some (.int .i64 6) := CK.out _ _ hC6.out
                  have dx0 : w6.cell? ⟨d, 0, none⟩ = some (.int .i64 x.source) := cellB hD6.out 0
                  have hcn32 : (N s).cnt ≤ 32 := by omega
                  have hNe : N s = M1 := by rw [HNs.out, ← HM1.out]; unfold oneS; rw [if_neg (fun h => absurd h.1 (by decide))]
                  have hm8 : Hid (PMem w6 (P s) (L3 s) (N s)) := by rw [hNe]; exact Hm6
                  have hB8 : Hid (Many w2 w6 p lb4 A' (m + 1) P (upd L3 s (L3 s)) (upd (fun r => if r < s then N r else M r) s (N s)) (.slice (some ⟨g, 0, none⟩) (m + 1) gc)) := by rw [hNe]; exact hB6
                  clear hNe
                  go_wp2_with fail
                  refine (counts_calls (P s) (L3 s) (N s) _ nn hm8.out).mono ?_
                  clear hcell cx0 dx0
                  rintro e w9 ⟨rfl, hf9⟩
                  have hB9 := Lib.hid (hB8.out.fr0 hf9)
                  have hC9 := Lib.hid (hf9.at hC6.out)
                  have hD9 := Lib.hid (hf9.at hD6.out)
                  generalize (N s).events = ne at *
                  generalize (N s).cnt = nc at *
                  clear hf9
                  go_wp2_with fail
                  go_roundw
                  case rel =>
                    refine ⟨s + 1, _, by omega, by go_num, by rw [Hss.out], by rw [Hsq.out], Lib.hid (hB9.out.same fun r hr => ?_), hC9, hD9⟩
                    unfold upd
                    by_cases e : r = s
                    · subst e
                      simp
                    · by_cases e2 : r < s
                      · simp [e, e2, show r < s + 1 by omega]
                      · simp [e, e2, show ¬ r < s + 1 by omega]
                  case measure => simp [intOf]; omega
                · have hkn : s = m + 1 := by omega
                  subst hkn
                  have hB5 := Lib.hid (hB.out.same (N := N) fun r hr => by rw [if_pos hr])
                  have htot2 : A'.events = sumN (fun r => (N r).events) (m + 1) := htot.out
                  have htoc2 : (A'.cnt : Int) = sumN (fun r => ((N r).cnt : Int)) (m + 1) := htoc.out
                  generalize sumN (fun r => (N r).events) (m + 1) = se at *
                  generalize sumN (fun r => ((N r).cnt : Int)) (m + 1) = sc at *
                  have hCo : Hid (Calls Try.prog 17 #[.pointer (some ⟨p, 0, none⟩)] wr fun e w' => e = .returned (.tuple #[.int .i64 se, .int .i64 sc]) ∧ Fr [] wr w') := by
                    have h := counts_calls p lb4 A' wr hAn hB5.out.a.pm
                    rw [htot2, htoc2] at h
                    exact h
                  have Hev9 := Lib.hid hevB
                  clear htot2 htoc2 hB hC hD htot htoc
                  go_wp2_with fail
                  refine hCo.out.mono ?_
                  rintro e w9 ⟨rfl, hf9⟩
                  have hB9 := Lib.hid (hB5.out.fr0 hf9)
                  clear hB5 hf9 hCo
                  go_wp2_with fail
                  go_roundw
                  case rel => ((repeat apply Exists.intro); exact ⟨⟨i + 1, lb4, L3, A', N, by omega, by go_num, by rw [HNow.out], by rw [HNow.out, Hxn.out]; omega, by have := Hev9.out; omega, HRel, hB9⟩, rfl⟩)
                  case measure => simp [intOf]; omega
            · have hb5 : decide (5 ≤ u0) = false := decide_eq_false h5
              have hlt5 : u0 < 5 := by omega
              have humod : umod u0 9 = u0 := umod_small (by omega) (by omega)
              obtain ⟨hcc, hxs, hxn, hxo0, hxo1, hX⟩ := clp_at c g1 u0 (by rw [humod]; omega) (by omega) (by omega) (1 + (m : Int)) A.now (by omega) (by omega) an0 (by omega)
              rw [Hj.out] at hxs
              have SR := step_rel hR.out (u := u0) (x := (clp c u0).at (1 + (m : Int)) A.now 0) (by omega) hxs (by omega) (by rw [hxn]; omega) (by rw [hxn]; omega) hxo0 (by omega) (by omega) (fun s hs => by have := hR.out.le hs; omega)
              have hAt : Hid (∀ W, Calls Try.prog 14 #[.agg #[.int .i64 u0, .int .i64 c.source, .int .u64 c.wait, .int .u64 c.hold, .int .i64 c.events, .bool false], .int .i64 (1 + (m : Int)), .int .u64 A.now, .int .i64 0] W fun e w' => e = .returned ((clp c u0).at (1 + (m : Int)) A.now 0).val ∧ Fr [] W w') :=
                fun W => at_calls (clp c u0) hcc (1 + (m : Int)) A.now 0 (by omega) (by omega) an0 (by omega) W
              obtain ⟨cc, hcce⟩ : ∃ cc, cc = clp c u0 := ⟨_, rfl⟩
              have hcck : ccells cc = #[.int .i64 u0, .int .i64 c.source, .int .u64 c.wait, .int .u64 c.hold, .int .i64 c.events, .bool false] := by rw [hcce]; rfl
              generalize (clp c u0).at (1 + (m : Int)) A.now 0 = x at *
              unfold Ar.val at hAt
              have hcckH := Lib.hid hcck
              clear hcce hcck
              have xn0 : 0 ≤ x.now := hX.n0
              have xn1 : x.now ≤ 1000 := by omega
              have xs0 := hX.s0
              have xs1 := hX.s1
              have Hxn := Lib.hid hxn
              have Hxs := Lib.hid hxs
              have HX := Lib.hid hX
              have HSR := Lib.hid SR
              have hkept := step_kept (k := u0) hR.out.ok hX (by omega)
              have hevB : (A.step u0 x).2.events ≤ i * 34 + 34 := by have := hkept.ev1; have := hR.out.n; omega
              have hevB0 : 0 ≤ (A.step u0 x).2.events := hkept.ok.ev0
              have hAn : (A.step u0 x).2.n ≤ 32 := hkept.ok.n
              have hStep : Hid (A.step u0 x = (0, (A.step u0 x).2)) := Lib.hid (Prod.ext SR.a rfl)
              have HB1 := Lib.hid (fun (s : Nat) (hs : s < m + 1) (h5 : u0 < 5) (he : (s : Int) = x.source) => SR.b s hs h5 he)
              have HRel := Lib.hid SR.rel
              have HNow := Lib.hid SR.now
              clear hkept SR hX hxn hxs hxo0 hxo1
              generalize hA' : (A.step u0 x).2 = A' at *
              generalize hNd : (fun s => oneS (M s) u0 x s) = N at *
              have HNd := Lib.hid hNd
              clear hA' hNd humod HSR
              go_wp2_with fail
              refine (hK9.out _).mono ?_
              rintro e w4 ⟨rfl, rfl⟩
              go_wp2_with fail
              refine (hAt.out _).mono ?_
              clear c0 c1 c2 c3 c4 c5
              rintro e W2 ⟨rfl, hf2⟩
              have hBW : Hid (Many w2 W2 p lb2 A (m + 1) P L2 M (.slice (some ⟨g, 0, none⟩) (m + 1) gc)) := (hB.out.fr0 ((Fr.refl [] wr).alloc _)).fr0 hf2
              have hC2 : Hid (W2.heap[wr.heap.size]? = some (.cells (ccells cc) 36 (0, 0))) := Lib.hid (by rw [hcckH.out]; exact hf2.at (heap_alloc_new _ _))
              obtain ⟨cb, hcb⟩ : ∃ cb, cb = wr.heap.size := ⟨_, rfl⟩
              rw [← hcb] at hC2 ⊢
              have CK : Hid (∀ (W : World) (bb : Nat), W.heap[bb]? = some (.cells (ccells cc) 36 (0, 0)) → W.cell? ⟨bb, 0, none⟩ = some (.int .i64 u0)) := fun _ _ h => by rw [hcckH.out] at h; exact cellB h 0
              have e0 : W2.cell? ⟨cb, 0, none⟩ = some (.int .i64 u0) := CK.out _ _ hC2.out
              have lcb := lt_of_heap hC2.out
              clear hcb hf2 hB hAt
              go_wp2_with fail
              obtain ⟨W3, hW3⟩ : ∃ W3, W3 = W2.alloc (.cells (acells x) 34) := ⟨_, rfl⟩
              have hW3' := hW3
              simp only [acells] at hW3'
              rw [← hW3']
              have hB3 : Hid (Many w2 W3 p lb2 A (m + 1) P L2 M (.slice (some ⟨g, 0, none⟩) (m + 1) gc)) := by rw [hW3]; exact hBW.out.fr0 ((Fr.refl [] _).alloc _)
              have hD3 : Hid (W3.heap[W2.heap.size]? = some (.cells (acells x) 34 (0, 0))) := by rw [hW3]; exact heap_alloc_new _ _
              have hC3 : Hid (W3.heap[cb]? = some (.cells (ccells cc) 36 (0, 0))) := by rw [hW3]; exact allocB hC2.out _
              obtain ⟨d, hd⟩ : ∃ d, d = W2.heap.size := ⟨_, rfl⟩
              rw [← hd] at hD3 ⊢
              clear hW3 hW3' hd e0 hC2 hBW KC lcb
              have m1 := hB3.out.a.notin_type hD3.out (by decide) (by decide)
              have m2 := hB3.out.a.notin_type hC3.out (by decide) (by decide)
              refine (do_calls p lb2 A u0 (by omega) (by omega) x HX.out W3 hR.out.ok (by omega) hB3.out.a.pm).mono ?_
              rintro e w4 ⟨lb4, hl4, rfl, hm4, hf4⟩
              rw [hStep.out] at hm4 ⊢
              have hB4 := Lib.hid (hB3.out.didA hl4 hm4 hf4)
              have hD4 : Hid (w4.heap[d]? = some (.cells (acells x) 34 (0, 0))) := (hf4.block d (lt_of_heap hD3.out) m1).trans hD3.out
              have hC4 : Hid (w4.heap[cb]? = some (.cells (ccells cc) 36 (0, 0))) := (hf4.block cb (lt_of_heap hC3.out) m2).trans hC3.out
              have y1 : w4.cell? ⟨d, 1, none⟩ = some (.int .u64 x.now) := cellB hD4.out 1
              clear hl4 hm4 hf4 hD3 hC3 hB3 m1 m2 hStep
              go_wp2_with fail
              clear y1
              go_loopw [16, 17, 18] (fun ev ac c wr => ∃ (s : Nat) (L3 : Nat → Nat), s ≤ m + 1 ∧ c = .int .i64 s ∧ ev = .int .i64 (sumN (fun r => (N r).events) s) ∧ ac = .int .i64 (sumN (fun r => ((N r).cnt : Int)) s) ∧ Hid (Many w2 wr p lb4 A' (m + 1) P L3 (fun r => if r < s then N r else M r) (.slice (some ⟨g, 0, none⟩) (m + 1) gc)) ∧ Hid (wr.heap[cb]? = some (.cells (ccells cc) 36 (0, 0))) ∧ Hid (wr.heap[d]? = some (.cells (acells x) 34 (0, 0))))
                (fun _ _ c _ => 5 - (intOf c).toNat)
              case atStart => exact ⟨0, L2, by omega, rfl, rfl, rfl, Lib.hid (hB4.out.same fun r hr => by rw [if_neg (by omega)]), hC4, hD4⟩
              case round =>
                clear hB4 hC4 hD4
                obtain ⟨s, L3, hs, rfl, rfl, rfl, hB, hC, hD⟩ := hrel
                have nev : ∀ r, r < m + 1 → 0 ≤ (N r).events := fun r hr => (HRel.out.one r hr).ok.ev0
                have hse := sumN_mono (fun r => (N r).events) (m + 1) s hs nev
                have ncn : ∀ r, r < m + 1 → 0 ≤ ((N r).cnt : Int) := fun r hr => by omega
                have hsc := sumN_mono (fun r => ((N r).cnt : Int)) (m + 1) s hs ncn
                have htot := Lib.hid HRel.out.ev
                have htoc := Lib.hid HRel.out.cnt
                have hse1 : sumN (fun r => (N r).events) s ≤ 5000 := by have := htot.out; omega
                have hcl : A'.cnt ≤ 32 := by have : A'.cnt ≤ A'.n := cntK_le _ _; omega
                have hsc1 : sumN (fun r => ((N r).cnt : Int)) s ≤ 32 := by have := htoc.out; omega
                have hse0 := hse.1
                have hsc0 := hsc.1
                clear hse hsc nev ncn
                by_cases hlt2 : s < m + 1
                · have hone := hR.out.one s hlt2
                  have honeN := HRel.out.one s hlt2
                  have hle := hR.out.le hlt2
                  have hleN := HRel.out.le hlt2
                  have hcN := HRel.out.cntle hlt2
                  have hss : sumN (fun r => (N r).events) (s + 1) = sumN (fun r => (N r).events) s + (N s).events := rfl
                  have hsq : sumN (fun r => ((N r).cnt : Int)) (s + 1) = sumN (fun r => ((N r).cnt : Int)) s + (N s).cnt := rfl
                  have Hss := Lib.hid hss
                  have Hsq := Lib.hid hsq
                  have HNs : Hid (N s = oneS (M s) u0 x s) := Lib.hid (by rw [← HNd.out])
                  have hb : Only w2 wr (P s) (L3 s) (M s) := by
                    have h := hB.out.b s hlt2
                    simp only [Nat.lt_irrefl, if_false] at h
                    exact h
                  have Hb := Lib.hid hb
                  have hcell := hB.out.cell hlt2
                  have hokM := hone.ok
                  have hokN := honeN.ok
                  have nn := hokN.n
                  have hE : Hid ((M s).Advance x.now = (0, (M s).adv x.now)) := Lib.hid (by unfold St.Advance; rw [late_same (by rw [hone.now, Hxn.out]; omega) (by omega)]; rfl)
                  have hsb : (s : Int) < 5 := by omega
                  clear hss hsq hb hone honeN
                  generalize sumN (fun r => (N r).events) s = se at *
                  generalize sumN (fun r => ((N r).cnt : Int)) s = sc at *
                  have hok2 := hokM.adv xn0 (by omega : x.now ≤ 1152921504606846976)
                  have hbd := adv_bounds (M s) x.now
                  have hmn := hokM.n
                  generalize hM1 : (M s).adv x.now = M1 at hE hok2 hbd
                  have HM1 := Lib.hid hM1
                  clear hM1
                  have cx0 : wr.cell? ⟨cb, 0, none⟩ = some (.int .i64 u0) := CK.out _ _ hC.out
                  have mm1 := Hb.out.notin_type hD.out (by decide) (by decide)
                  have mm2 := Hb.out.notin_type hC.out (by decide) (by decide)
                  go_wp2_with fail
                  refine (advanceM_calls (P s) (L3 s) (M s) x.now (by omega) (by omega) _ hokM (by omega) Hb.out.pm).mono ?_
                  clear hcell cx0
                  rintro e w6 ⟨rfl, hm6, hf6⟩
                  rw [hE.out] at hm6 ⊢
                  have hB6 := Lib.hid (hB.out.didB hlt2 (Or.inl rfl) hm6 hf6)
                  have hD6 : Hid (w6.heap[d]? = some (.cells (acells x) 34 (0, 0))) := (hf6.block d (lt_of_heap hD.out) mm1).trans hD.out
                  have hC6 : Hid (w6.heap[cb]? = some (.cells (ccells cc) 36 (0, 0))) := (hf6.block cb (lt_of_heap hC.out) mm2).trans hC.out
                  have Hm6 := Lib.hid hm6
                  clear hm6 hf6 hB hD hC mm1 mm2 Hb hE
                  have hcell : w6.cell? ⟨g, s, none⟩ = some (.pointer (some ⟨P s, 0, none⟩)) := hB6.out.cell hlt2
                  have cx0 : w6.cell? ⟨cb, 0, none⟩ = some (.int .i64 u0) := CK.out _ _ hC6.out
                  have dx0 : w6.cell? ⟨d, 0, none⟩ = some (.int .i64 x.source) := cellB hD6.out 0
                  have hcn32 : (N s).cnt ≤ 32 := by omega
                  have hb55 : decide (u0 < 5) = true := decide_eq_true hlt5
                  by_cases hsx : (s : Int) = x.source
                  · rw [← hsx] at dx0
                    have hNe : N s = (M1.step u0 { x with source := 0 }).2 := by rw [HNs.out, ← HM1.out]; unfold oneS; rw [if_pos ⟨hlt5, hsx⟩]
                    have hEr : (M1.step u0 { x with source := 0 }).1 = 0 := by rw [← HM1.out]; exact HB1.out s hlt2 hlt5 hsx
                    have hSt : Hid (M1.step u0 { x with source := 0 } = (0, N s)) := Lib.hid (Prod.ext hEr hNe.symm)
                    have hY : Ar.Ok { x with source := 0 } := ⟨by show (-9223372036854775808 : Int) ≤ 0; omega, by show (0 : Int) < _; omega, HX.out.n0, HX.out.n1, HX.out.o0, HX.out.o1, HX.out.e0, HX.out.e1⟩
                    have HY := Lib.hid hY
                    have dx1 : w6.cell? ⟨d, 1, none⟩ = some (.int .u64 x.now) := cellB hD6.out 1
                    have dx2 : w6.cell? ⟨d, 2, none⟩ = some (.int .u64 x.other) := cellB hD6.out 2
                    have dx3 : w6.cell? ⟨d, 3, none⟩ = some (.int .i64 x.events) := cellB hD6.out 3
                    have Hsx := Lib.hid hsx
                    clear hsx hNe hEr hY
                    go_upto_region 35 with (fail)
                    have hx1 : (0 : Int) ≤ (s : Int) := Int.natCast_nonneg _
                    have hx2 : (s : Int) < ((m + 1 : Nat) : Int) := by omega
                    have hx3 : (s : Int) < (m : Int) + 1 := by omega
                    obtain ⟨W7, hW7⟩ : ∃ W7, W7 = w6.alloc (.cells (acells { x with source := 0 }) 34) := ⟨_, rfl⟩
                    have hW7' := hW7
                    simp only [acells] at hW7'
                    rw [← hW7']
                    obtain ⟨y, hy⟩ : ∃ y, y = w6.heap.size := ⟨_, rfl⟩
                    rw [← hy]
                    have hY7 : Hid (W7.heap[y]? = some (.cells (acells { x with source := 0 }) 34 (0, 0))) := by rw [hW7, hy]; exact heap_alloc_new _ _
                    have hB7 : Hid (Many w2 W7 p lb4 A' (m + 1) P (upd L3 s (L3 s)) (upd (fun r => if r < s then N r else M r) s M1) (.slice (some ⟨g, 0, none⟩) (m + 1) gc)) := by rw [hW7]; exact hB6.out.fr0 ((Fr.refl [] _).alloc _)
                    have hD7 : Hid (W7.heap[d]? = some (.cells (acells x) 34 (0, 0))) := by rw [hW7]; exact allocB hD6.out _
                    have hC7 : Hid (W7.heap[cb]? = some (.cells (ccells cc) 36 (0, 0))) := by rw [hW7]; exact allocB hC6.out _
                    have hb7 : Hid (Only w2 W7 (P s) (L3 s) M1) := by
                      have h := hB7.out.b s hlt2
                      rw [upd_eq, upd_eq] at h
                      exact h
                    clear hW7 hW7' hy hcell cx0 dx0 dx1 dx2 dx3 hB6 hD6 hC6 Hm6
                    have mm1 := hb7.out.notin_type hD7.out (by decide) (by decide)
                    have mm2 := hb7.out.notin_type hC7.out (by decide) (by decide)
                    have mm3 := hb7.out.notin_type hY7.out (by decide) (by decide)
                    have ld := lt_of_heap hD7.out
                    have lc := lt_of_heap hC7.out
                    have ly := lt_of_heap hY7.out
                    go_region_held3 (fun w => w.cell? ⟨g, s, none⟩ = some (.pointer (some ⟨P s, 0, none⟩)) ∧ w.cell? ⟨cb, 0, none⟩ = some (.int .i64 u0) ∧ w.cell? ⟨y, 0, none⟩ = some (.int .i64 0) ∧ w.cell? ⟨y, 1, none⟩ = some (.int .u64 x.now) ∧ w.cell? ⟨y, 2, none⟩ = some (.int .u64 x.other) ∧ w.cell? ⟨y, 3, none⟩ = some (.int .i64 x.events))
                      (first | with_reducible exact ⟨hB8.out.cell hlt2, CK.out _ _ hC8.out, cellB hY8.out 0, cellB hY8.out 1, cellB hY8.out 2, cellB hY8.out 3⟩ | exact ⟨hB7.out.cell hlt2, CK.out _ _ hC7.out, cellB hY7.out 0, cellB hY7.out 1, cellB hY7.out 2, cellB hY7.out 3⟩ | exact ⟨hB8.out.cell hlt2, CK.out _ _ hC8.out, cellB hY8.out 0, cellB hY8.out 1, cellB hY8.out 2, cellB hY8.out 3⟩)
                      (first | (go_at_call 15; refine (do_calls (P s) (L3 s) M1 u0 (by omega) (by omega) { x with source := 0 } HY.out _ hok2 (by omega) hb7.out.pm.drew).mono ?_; rintro e w8 ⟨l8, hl8, rfl, hm8, hf8⟩; have hl8 : l8 = L3 s ∨ W7.heap.size ≤ l8 := hl8; rw [hSt.out] at hm8 ⊢; have hf8 := hf8.undrew; have hB8 := Lib.hid (hB7.out.didB hlt2 (by rw [upd_eq]; exact hl8) hm8 (by rw [upd_eq]; exact hf8)); have hD8 : Hid (w8.heap[d]? = some (.cells (acells x) 34 (0, 0))) := (hf8.block d ld mm1).trans hD7.out; have hC8 : Hid (w8.heap[cb]? = some (.cells (ccells cc) 36 (0, 0))) := (hf8.block cb lc mm2).trans hC7.out; have hY8 : Hid (w8.heap[y]? = some (.cells (acells { x with source := 0 }) 34 (0, 0))) := (hf8.block y ly mm3).trans hY7.out; have hm8 := Lib.hid hm8))
                    have hcell : w8.cell? ⟨g, s, none⟩ = some (.pointer (some ⟨P s, 0, none⟩)) := hB8.out.cell hlt2
                    have hB8' := Lib.hid (hB8.out.same (N := upd (fun r => if r < s then N r else M r) s (N s)) fun r hr => by unfold upd; split <;> rfl)
                    clear hf8 hl8 hB7 hD7 hC7 hY7 hb7 mm1 mm2 mm3 ld lc ly HY hSt hY8
                    go_wp2_with fail
                    refine (counts_calls (P s) l8 (N s) _ nn hm8.out).mono ?_
                    clear hcell
                    rintro e w9 ⟨rfl, hf9⟩
                    have hB9 := Lib.hid (hB8'.out.fr0 hf9)
                    have hC9 := Lib.hid (hf9.at hC8.out)
                    have hD9 := Lib.hid (hf9.at hD8.out)
                    generalize (N s).events = ne at *
                    generalize (N s).cnt = nc at *
                    clear hf9
                    go_wp2_with fail
                    go_roundw
                    case rel =>
                      refine ⟨s + 1, _, by omega, by go_num, by rw [Hss.out], by rw [Hsq.out], Lib.hid (hB9.out.same fun r hr => ?_), hC9, hD9⟩
                      unfold upd
                      by_cases e : r = s
                      · subst e
                        simp
                      · by_cases e2 : r < s
                        · simp [e, e2, show r < s + 1 by omega]
                        · simp [e, e2, show ¬ r < s + 1 by omega]
                    case measure => simp [intOf]; omega
                  · have hbe : ((s : Int) == x.source) = false := by simp [hsx]
                    have hNe : N s = M1 := by rw [HNs.out, ← HM1.out]; unfold oneS; rw [if_neg (fun h => hsx h.2)]
                    have hm8 : Hid (PMem w6 (P s) (L3 s) (N s)) := by rw [hNe]; exact Hm6
                    have hB8 : Hid (Many w2 w6 p lb4 A' (m + 1) P (upd L3 s (L3 s)) (upd (fun r => if r < s then N r else M r) s (N s)) (.slice (some ⟨g, 0, none⟩) (m + 1) gc)) := by rw [hNe]; exact hB6
                    clear hNe
                    clear hsx
                    go_wp2_with fail
                    refine (counts_calls (P s) (L3 s) (N s) _ nn hm8.out).mono ?_
                    clear hcell cx0 dx0
                    rintro e w9 ⟨rfl, hf9⟩
                    have hB9 := Lib.hid (hB8.out.fr0 hf9)
                    have hC9 := Lib.hid (hf9.at hC6.out)
                    have hD9 := Lib.hid (hf9.at hD6.out)
                    generalize (N s).events = ne at *
                    generalize (N s).cnt = nc at *
                    clear hf9
                    go_wp2_with fail
                    go_roundw
                    case rel =>
                      refine ⟨s + 1, _, by omega, by go_num, by rw [Hss.out], by rw [Hsq.out], Lib.hid (hB9.out.same fun r hr => ?_), hC9, hD9⟩
                      unfold upd
                      by_cases e : r = s
                      · subst e
                        simp
                      · by_cases e2 : r < s
                        · simp [e, e2, show r < s + 1 by omega]
                        · simp [e, e2, show ¬ r < s + 1 by omega]
                    case measure => simp [intOf]; omega
                · have hkn : s = m + 1 := by omega
                  subst hkn
                  have hB5 := Lib.hid (hB.out.same (N := N) fun r hr => by rw [if_pos hr])
                  have htot2 : A'.events = sumN (fun r => (N r).events) (m + 1) := htot.out
                  have htoc2 : (A'.cnt : Int) = sumN (fun r => ((N r).cnt : Int)) (m + 1) := htoc.out
                  generalize sumN (fun r => (N r).events) (m + 1) = se at *
                  generalize sumN (fun r => ((N r).cnt : Int)) (m + 1) = sc at *
                  have hCo : Hid (Calls Try.prog 17 #[.pointer (some ⟨p, 0, none⟩)] wr fun e w' => e = .returned (.tuple #[.int .i64 se, .int .i64 sc]) ∧ Fr [] wr w') := by
                    have h := counts_calls p lb4 A' wr hAn hB5.out.a.pm
                    rw [htot2, htoc2] at h
                    exact h
                  have Hev9 := Lib.hid hevB
                  clear htot2 htoc2 hB hC hD htot htoc
                  go_wp2_with fail
                  refine hCo.out.mono ?_
                  rintro e w9 ⟨rfl, hf9⟩
                  have hB9 := Lib.hid (hB5.out.fr0 hf9)
                  clear hB5 hf9 hCo
                  go_wp2_with fail
                  go_roundw
                  case rel => ((repeat apply Exists.intro); exact ⟨⟨i + 1, lb4, L3, A', N, by omega, by go_num, by rw [HNow.out], by rw [HNow.out, Hxn.out]; omega, by have := Hev9.out; omega, HRel, hB9⟩, rfl⟩)
                  case measure => simp [intOf]; omega
          · have hkn : i = len := by omega
            subst hkn
            go_wp2_with fail
            refine (HA.out _).mono ?_
            rintro e w9 ⟨rfl, hB9⟩
            go_wp2_with fail
            go_ret
            exact ⟨rfl, hB.out.a.bel.trans (hB9.mono hB.out.a.bel.size)⟩
end Go.Proofs.Ytjdbhlmkcbgkjaa.Wk
