import Derived.Test.YtjdbhlmkcbgkjaaWkNE
namespace Go.Proofs.Ytjdbhlmkcbgkjaa.Wk
open Go.RowKit Go.Proofs.YtjdbhlmkcbgkjaaW.PrintWords
set_option linter.unusedVariables false
set_option linter.unusedSimpArgs false
attribute [local go_sem ↓] Go.wp_at_zero Go.wp_at_succ

/-! ### The program's side alone -/
structure Only (w0 w : World) (p lb : Nat) (A : St) : Prop where
  pm : PMem w p lb A
  bel : Below w0.heap.size w0 w
  hp : w0.heap.size ≤ p
  hl : w0.heap.size ≤ lb
theorem Only.keep {w0 w w' : World} {p lb : Nat} {A : St} (h : Only w0 w p lb A) (hf : Fr [] w w') : Only w0 w' p lb A :=
  ⟨h.pm.keep hf (by simp) (by simp), hf.below h.bel h.bel.size (by simp), h.hp, h.hl⟩
theorem Only.drew {w0 w : World} {p lb : Nat} {A : St} (h : Only w0 w p lb A) : Only w0 w.drew p lb A := h.keep ((Fr.refl _ _).drew)
theorem Only.did {w0 w w' : World} {p lb lb' : Nat} {A C : St} (h : Only w0 w p lb A) (hl : lb' = lb ∨ w.heap.size ≤ lb') (hm : PMem w' p lb' C) (hf : Fr [p, lb] w w') : Only w0 w' p lb' C := by
  refine ⟨hm, hf.below h.bel h.bel.size ?_, h.hp, ?_⟩
  · have := h.hp; have := h.hl; simp; omega
  · have := h.hl; have := h.bel.size; omega
theorem oDo {w0 w : World} {p lb : Nat} {A : St} (h : Only w0 w p lb A) (hA : A.Ok) (he : A.events ≤ 900000000) {kind : Int} (k0 : -9223372036854775808 ≤ kind) (k1 : kind < 9223372036854775808) {a : Ar} (ha : a.Ok) {r : Int} {C : St} (hE : A.step kind a = (r, C)) :
    Calls Try.prog 15 #[.pointer (some ⟨p, 0, none⟩), .int .i64 kind, .agg #[.int .i64 a.source, .int .u64 a.now, .int .u64 a.other, .int .i64 a.events]] w fun e w' => ∃ lb', e = .returned (.int .i64 r) ∧ Only w0 w' p lb' C ∧ Fr [p, lb] w w' ∧ (lb' = lb ∨ w.heap.size ≤ lb') := by
  refine (do_calls p lb A kind k0 k1 a ha w hA he h.pm).mono ?_
  rintro e w' ⟨lb', hl, rfl, hm, hf⟩
  rw [hE] at hm ⊢
  exact ⟨lb', rfl, h.did hl hm hf, hf, hl⟩
theorem oCounts {w0 w : World} {p lb : Nat} {A : St} (h : Only w0 w p lb A) (hn : A.n ≤ 32) {ev : Int} {c : Nat} (h1 : A.events = ev) (h2 : A.cnt = c) : Calls Try.prog 17 #[.pointer (some ⟨p, 0, none⟩)] w fun e w' => e = .returned (.tuple #[.int .i64 ev, .int .i64 c]) ∧ Only w0 w' p lb A ∧ Fr [] w w' := by
  refine (counts_calls p lb A w hn h.pm).mono ?_
  rintro e w' ⟨rfl, hf⟩
  rw [h1, h2]
  exact ⟨rfl, h.keep hf, hf⟩
theorem Only.notin {w0 w : World} {p lb : Nat} {A : St} (h : Only w0 w p lb A) {b : Nat} (hb0 : b < w0.heap.size) : b ∉ [p, lb] := by
  have := h.hp; have := h.hl
  simp; omega
theorem Only.notin_type {w0 w : World} {p lb : Nat} {A : St} (h : Only w0 w p lb A) {d : Nat} {cs : Array Value} {T : TypeId} (hd : w.heap[d]? = some (.cells cs T (0, 0))) (h1 : T ≠ 60) (h2 : T ≠ 63) : d ∉ [p, lb] := by
  obtain ⟨⟨⟨cap, g1⟩, cs, g2, _⟩, _, _, _⟩ := h
  have := ne_of_type hd g1 h1; have := ne_of_type hd g2 h2
  simp; omega

set_option maxHeartbeats 6400000 in
set_option maxRecDepth 100000 in
theorem grow_calls (v : Int) (v0 : -9223372036854775808 ≤ v) (v1 : v < 9223372036854775808) (a : Option Addr) (len cap : Nat) (hmax : len ≤ 9223372036854775807) (L : Nat → Cl) (w : World) (hL : CallsAt w a len L) :
    Calls Try.prog 8 #[.int .i64 v, .slice a len cap] w fun e w' => e = .returned (.bool true) ∧ Below w.heap.size w w' := by
  have HA := Lib.hid awake_calls
  by_cases hbig : 40 < len
  · have hd2 : decide ((40 : Int) < len) = true := decide_eq_true (by omega)
    clear hL
    go_enter Try.func8, Try.ntmps8
    go_wp2_with fail
    refine (HA.out _).mono ?_
    rintro e w' ⟨rfl, hB⟩
    go_wp2_with fail
    go_ret
    exact ⟨rfl, hB⟩
  · have hd2 : decide ((40 : Int) < len) = false := decide_eq_false (by omega)
    obtain ⟨n, hmn, hn5⟩ := umod_nat v 5 (by omega)
    have hn : n ≤ 4 := by omega
    have hM : Hid (∀ W, Calls Try.prog 13 #[.int .i64 v, .int .i64 5] W fun e w' => e = .returned (.int .i64 n) ∧ w' = W) := fun W => by
      have h := mod_calls v 5 v0 v1 (by omega) (by omega) W
      rw [hmn] at h
      exact h
    clear hmn hn5
    obtain ⟨b, o, ha, hat⟩ := hL
    have Hat := Lib.hid hat
    have HK := Lib.hid (agree_kept n (by omega) L len (by omega) (fun i hi => (hat i hi).2.1))
    clear hat
    have HN := Lib.hid (fun W => new_calls n (by omega) W)
    have hlen : len ≤ 40 := by omega
    go_enter Try.func8, Try.ntmps8
    go_wp2_with fail
    refine (hM.out _).mono ?_
    rintro e w2 ⟨rfl, rfl⟩
    go_wp2_with fail
    refine (HN.out _).mono ?_
    rintro e w3 ⟨p, lb, hp, hl, rfl, hm, f3⟩
    have HB : Hid (Only w2 w3 p lb (agreeS n L 0)) := Lib.hid ⟨hm, f3.below (Below.refl _ _) (Nat.le_refl _) (by simp), hp, hl⟩
    clear hm f3 hp hl HN hM
    go_wp2_with fail
    go_loopw [8, 9, 10] (fun t e c wr => ∃ k lb2 : Nat, k ≤ len ∧ c = .int .i64 k ∧ t = .int .u64 (agreeS n L k).now ∧ e = .int .i64 (agreeS n L k).events ∧ Hid (Only w2 wr p lb2 (agreeS n L k)))
      (fun _ _ c _ => len - (intOf c).toNat)
    case atStart => exact ⟨0, lb, by omega, rfl, rfl, rfl, HB⟩
    case round =>
      obtain ⟨k, lb2, hk, rfl, rfl, rfl, hB⟩ := hrel
      clear HB
      by_cases hlt : k < len
      · obtain rfl := ha (by omega)
        clear ha
        obtain ⟨g0, g1, hcat⟩ := Hat.out k hlt
        obtain ⟨o1, o2, o3⟩ := HK.out k (by omega)
        obtain ⟨z1, z2, z3⟩ := HK.out (k + 1) (by omega)
        have hs : agreeS n L (k + 1) = ((agreeS n L k).call (L k) n).2 := rfl
        have Hs := Lib.hid hs
        clear hs
        generalize agreeS n L k = A at hB o1 o2 o3 Hs ⊢
        generalize hc : L k = c at *
        have KC : Hid (CAt wr b (o + k * 6) c) := CAt.below hcat hB.out.bel g0
        have gW : b < wr.heap.size := Nat.lt_of_lt_of_le g0 hB.out.bel.size
        have nn1 := hB.out.notin g0
        clear hcat hc Hat
        have d4 := o1.now0
        have d5 := o1.now1
        have d6 := o1.ev0
        have hAt : Hid (∀ W, Calls Try.prog 14 #[.agg #[.int .i64 c.kind, .int .i64 c.source, .int .u64 c.wait, .int .u64 c.hold, .int .i64 c.events, .bool c.raw], .int .i64 n, .int .u64 A.now, .int .i64 A.events] W fun e w' => e = .returned (c.at n A.now A.events).val ∧ Fr [] W w') :=
          fun W => at_calls c g1 n A.now A.events (by omega) (by omega) d4 d5 W
        have hX := Cl.at_ok g1 n A.now A.events (by omega) d4 d5 (by omega) (by omega)
        have hs := Hs.out
        unfold St.call at hs
        generalize c.at n A.now A.events = x at hAt hX hs
        unfold Ar.val at hAt
        have hSt : Hid (A.step c.kind x = ((A.step c.kind x).1, agreeS n L (k + 1))) := Lib.hid (by rw [hs])
        have hnow := step_now (k := c.kind) o1 hX
        have hkept := step_kept (k := c.kind) o1 hX (by omega)
        have herr := step_err A c.kind x
        rw [← hs] at hnow hkept herr
        have hK9 : Hid (∀ W, Calls Try.prog 13 #[.int .i64 c.kind, .int .i64 9] W fun e w' => e = .returned (.int .i64 (umod c.kind 9)) ∧ w' = W) := fun W => mod_calls c.kind 9 g1.k0 g1.k1 (by omega) (by omega) W
        have hu0 := umod_nn c.kind 9 (by omega)
        have hu1 := umod_lt c.kind 9 (by omega)
        generalize umod c.kind 9 = u at hK9 hnow hu0 hu1
        generalize (A.step c.kind x).1 = er at hSt hnow herr
        obtain ⟨_, _, q1, q2⟩ := hkept
        rw [o2] at q2
        have hcl : (agreeS n L (k + 1)).cnt ≤ n := by have : (agreeS n L (k + 1)).cnt ≤ (agreeS n L (k + 1)).n := cntK_le _ _; omega
        generalize hF : agreeS n L (k + 1) = F at *
        have HF := Lib.hid hF
        obtain ⟨ev, hev⟩ : ∃ e, F.events = e := ⟨_, rfl⟩
        obtain ⟨cn, hcn⟩ : ∃ e, F.cnt = e := ⟨_, rfl⟩
        rw [hev] at q1 q2 z3
        rw [hcn] at hcl
        have Hev := Lib.hid hev
        have Hcn := Lib.hid hcn
        have Hnow := Lib.hid hnow
        have Herr := Lib.hid herr
        have HX := Lib.hid hX
        have O2 := Lib.hid o2
        have t1 : decide (ev < A.events) = false := decide_eq_false (by omega)
        have t2 : decide (A.events + (n : Int) + 2 < ev) = false := decide_eq_false (by omega)
        have t3 : decide (n < cn) = false := decide_eq_false (by omega)
        have zn := z1.n
        clear hs hX Hs hF hev hcn hnow herr o2 z2
        have kc := KC.out
        obtain ⟨c0, c1, c2, c3, c4, c5⟩ := kc
        go_wp2_with fail
        refine (hAt.out _).mono ?_
        clear c0 c1 c2 c3 c4 c5
        rintro e W2 ⟨rfl, hf2⟩
        have hBW : Hid (Only w2 W2 p lb2 A) := hB.out.keep hf2
        have hKC2 : Hid (CAt W2 b (o + k * 6) c) := KC.out.keep hf2 gW (by simp)
        have gW2 : b < W2.heap.size := Nat.lt_of_lt_of_le gW hf2.size
        clear hf2 hB KC gW hAt
        go_upto_region 12 with (fail)
        obtain ⟨W3, hW3⟩ : ∃ W3, W3 = W2.alloc (.cells (acells x) 34) := ⟨_, rfl⟩
        have hW3' := hW3
        simp only [acells] at hW3'
        rw [← hW3']
        have hB3 : Hid (Only w2 W3 p lb2 A) := by rw [hW3]; exact hBW.out.keep ((Fr.refl [] _).alloc _)
        have hD3 : Hid (W3.heap[W2.heap.size]? = some (.cells (acells x) 34 (0, 0))) := by rw [hW3]; exact heap_alloc_new _ _
        have hKC3 : Hid (CAt W3 b (o + k * 6) c) := by rw [hW3]; exact hKC2.out.keep ((Fr.refl [] _).alloc _) gW2 (by simp)
        have gW3 : b < W3.heap.size := by rw [hW3]; simp; omega
        obtain ⟨d, hd⟩ : ∃ d, d = W2.heap.size := ⟨_, rfl⟩
        rw [← hd] at hD3 ⊢
        clear hW3 hW3' hd hKC2 hBW gW2
        have m1 := hB3.out.notin_type hD3.out (by decide) (by decide)
        have ld := lt_of_heap hD3.out
        go_region_held3 (fun w => w.cell? ⟨b, o + k * 6, none⟩ = some (.int .i64 c.kind) ∧ w.cell? ⟨d, 0, none⟩ = some (.int .i64 x.source) ∧ w.cell? ⟨d, 1, none⟩ = some (.int .u64 x.now) ∧ w.cell? ⟨d, 2, none⟩ = some (.int .u64 x.other) ∧ w.cell? ⟨d, 3, none⟩ = some (.int .i64 x.events))
          (first | with_reducible exact do_cells hD4.out hKC4.out | with_reducible exact do_cells (drewB hD4.out) (CAt.drew hKC4.out) | with_reducible exact do_cells hD3.out hKC3.out | with_reducible exact do_cells (drewB hD3.out) (CAt.drew hKC3.out))
          (first
            | (go_at_call 15; refine (oDo hB3.out.drew o1 (by omega) g1.k0 g1.k1 HX.out hSt.out).mono ?_; rintro e w4 ⟨lb4, rfl, hB4, hf4, _⟩; have hf4 := hf4.undrew; have HB4 := Lib.hid hB4; have hD4 : Hid (w4.heap[d]? = some (.cells (acells x) 34 (0, 0))) := (hf4.block d ld m1).trans hD3.out; have hKC4 : Hid (CAt w4 b (o + k * 6) c) := hKC3.out.keep hf4 gW3 nn1))
        have y1 : w4.cell? ⟨d, 1, none⟩ = some (.int .u64 x.now) := cellB hD4.out 1
        have y2 : w4.cell? ⟨b, o + k * 6, none⟩ = some (.int .i64 c.kind) := hKC4.out.1
        have xn0 := HX.out.n0
        have xn1 := HX.out.n1
        clear hB3 hD3 hKC3 gW3 m1 ld hf4 hB4 hD4 hKC4 hSt HX nn1
        by_cases c1 : er = 0
        · have hb1 : (er == 0) = true := by simp [c1]
          have hb3 : (er != 0) = false := by simp [c1]
          by_cases c2 : u < 8
          · have hb2 : decide (u < 8) = true := decide_eq_true c2
            have Hn : Hid (F.now = x.now) := Lib.hid (by rw [Hnow.out, if_pos ⟨c1, c2⟩])
            clear c1 c2
            go_wp2_with fail
            refine (hK9.out _).mono ?_
            rintro e w5 ⟨rfl, rfl⟩
            go_wp2_with fail
            refine (oCounts HB4.out zn Hev.out Hcn.out).mono ?_
            clear y1 y2
            rintro e w6 ⟨rfl, hB6, _⟩
            have HB6 := Lib.hid hB6
            clear HB4 hB6
            go_wp2_with fail
            go_roundw
            case rel => exact ⟨k + 1, lb4, by omega, by go_num, by rw [HF.out, Hn.out], by rw [HF.out, Hev.out], by rw [HF.out]; exact HB6⟩
            case measure => simp [intOf]; omega
          · have hb2 : decide (u < 8) = false := decide_eq_false c2
            have Hn : Hid (F.now = A.now) := Lib.hid (by rw [Hnow.out, if_neg (fun h => c2 h.2)])
            clear c1 c2
            go_wp2_with fail
            refine (hK9.out _).mono ?_
            rintro e w5 ⟨rfl, rfl⟩
            go_wp2_with fail
            refine (oCounts HB4.out zn Hev.out Hcn.out).mono ?_
            clear y1 y2
            rintro e w6 ⟨rfl, hB6, _⟩
            have HB6 := Lib.hid hB6
            clear HB4 hB6
            go_wp2_with fail
            go_roundw
            case rel => exact ⟨k + 1, lb4, by omega, by go_num, by rw [HF.out, Hn.out], by rw [HF.out, Hev.out], by rw [HF.out]; exact HB6⟩
            case measure => simp [intOf]; omega
        · have hb1 : (er == 0) = false := by simp [c1]
          have hb3 : (er != 0) = true := by simp [c1]
          have Hn : Hid (F.now = A.now) := Lib.hid (by rw [Hnow.out, if_neg (fun h => c1 h.1)])
          have hFA : F = A := by
            rcases Herr.out with h | h
            · exact absurd h c1
            · exact h.2
          have hee : A.events = ev := by rw [← hFA]; exact Hev.out
          have Hee := Lib.hid hee
          have hb4 : (ev != A.events) = false := by simp [hee]
          clear c1 hFA hee
          go_wp2_with fail
          refine (oCounts HB4.out zn Hev.out Hcn.out).mono ?_
          clear y1 y2
          rintro e w6 ⟨rfl, hB6, _⟩
          have HB6 := Lib.hid hB6
          clear HB4 hB6
          go_wp2_with fail
          go_roundw
          case rel => exact ⟨k + 1, lb4, by omega, by go_num, by rw [HF.out, Hn.out], by first | rw [HF.out, Hev.out] | rw [HF.out, Hev.out, Hee.out], by rw [HF.out]; exact HB6⟩
          case measure => simp [intOf]; omega
      · have hkn : k = len := by omega
        subst hkn
        go_wp2_with fail
        refine (HA.out _).mono ?_
        rintro e w9 ⟨rfl, hB9⟩
        go_wp2_with fail
        go_ret
        exact ⟨rfl, hB.out.bel.trans (hB9.mono hB.out.bel.size)⟩
end Go.Proofs.Ytjdbhlmkcbgkjaa.Wk
