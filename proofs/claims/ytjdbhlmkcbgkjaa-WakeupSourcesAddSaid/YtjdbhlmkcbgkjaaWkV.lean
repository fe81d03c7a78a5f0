import Derived.Test.YtjdbhlmkcbgkjaaWkU
namespace Go.Proofs.Ytjdbhlmkcbgkjaa.Wk
open Go.RowKit Go.Proofs.YtjdbhlmkcbgkjaaW.PrintWords
set_option linter.unusedVariables false
set_option linter.unusedSimpArgs false
attribute [local go_sem ↓] Go.wp_at_zero Go.wp_at_succ

/-! ### One call of the list, at every world -/
def CAt (w : World) (b o : Nat) (c : Cl) : Prop := w.cell? ⟨b, o, none⟩ = some (.int .i64 c.kind) ∧ w.cell? ⟨b, o + 1, none⟩ = some (.int .i64 c.source) ∧ w.cell? ⟨b, o + 2, none⟩ = some (.int .u64 c.wait) ∧
    w.cell? ⟨b, o + 3, none⟩ = some (.int .u64 c.hold) ∧ w.cell? ⟨b, o + 4, none⟩ = some (.int .i64 c.events) ∧ w.cell? ⟨b, o + 5, none⟩ = some (.bool c.raw)
theorem Fr.cell {S : List Nat} {w w' : World} (hf : Fr S w w') {b o : Nat} (hb : b < w.heap.size) (hS : b ∉ S) : w'.cell? ⟨b, o, none⟩ = w.cell? ⟨b, o, none⟩ := World.cell?_of_block (a := ⟨b, o, none⟩) (hf.block b hb hS)
theorem CAt.keep {S : List Nat} {w w' : World} {b o : Nat} {c : Cl} (h : CAt w b o c) (hf : Fr S w w') (hb : b < w.heap.size) (hS : b ∉ S) : CAt w' b o c := by
  obtain ⟨c0, c1, c2, c3, c4, c5⟩ := h
  exact ⟨(hf.cell hb hS).trans c0, (hf.cell hb hS).trans c1, (hf.cell hb hS).trans c2, (hf.cell hb hS).trans c3, (hf.cell hb hS).trans c4, (hf.cell hb hS).trans c5⟩
theorem CAt.below {w w' : World} {b o : Nat} {c : Cl} (h : CAt w b o c) (hb : Below w.heap.size w w') (g0 : b < w.heap.size) : CAt w' b o c := by
  obtain ⟨c0, c1, c2, c3, c4, c5⟩ := h
  have k : ∀ j, w'.cell? ⟨b, j, none⟩ = w.cell? ⟨b, j, none⟩ := fun j => hb.cell (p := ⟨b, j, none⟩) g0
  exact ⟨(k _).trans c0, (k _).trans c1, (k _).trans c2, (k _).trans c3, (k _).trans c4, (k _).trans c5⟩
theorem CAt.drew {w : World} {b o : Nat} {c : Cl} (h : CAt w b o c) : CAt w.drew b o c := h
theorem PMem.drew {w : World} {p lb : Nat} {A : St} (h : PMem w p lb A) : PMem w.drew p lb A := h.keep (S := []) ((Fr.refl _ _).drew) (by simp) (by simp)
theorem RMem.drew {w : World} {q ob hb : Nat} {A : St} (h : RMem w q ob hb A) : RMem w.drew q ob hb A := h.keep (S := []) ((Fr.refl _ _).drew) (by simp) (by simp) (by simp)
theorem Fr.undrew {S : List Nat} {w w' : World} (h : Fr S w.drew w') : Fr S w w' := (Fr.refl S w).drew.trans h
theorem at_cells2 {w : World} {q ob hb oc hc b o : Nat} {al : Int} {B : St} {C : Cl} (h : w.heap[q]? = some (.cells (rcells B ob hb oc hc al) 41 (0, 0))) (k : CAt w b o C) :
    w.cell? ⟨q, 4, none⟩ = some (.int .i64 B.events) ∧ w.cell? ⟨q, 7, none⟩ = some (.int .u64 B.now) ∧ w.cell? ⟨b, o, none⟩ = some (.int .i64 C.kind) ∧ w.cell? ⟨b, o + 1, none⟩ = some (.int .i64 C.source) ∧ w.cell? ⟨b, o + 2, none⟩ = some (.int .u64 C.wait) ∧
    w.cell? ⟨b, o + 3, none⟩ = some (.int .u64 C.hold) ∧ w.cell? ⟨b, o + 4, none⟩ = some (.int .i64 C.events) ∧ w.cell? ⟨b, o + 5, none⟩ = some (.bool C.raw) :=
  ⟨cellB h 4, cellB h 7, k.1, k.2.1, k.2.2.1, k.2.2.2.1, k.2.2.2.2.1, k.2.2.2.2.2⟩
theorem do_cells {w : World} {d b o : Nat} {x : Ar} {C : Cl} (h : w.heap[d]? = some (.cells (acells x) 34 (0, 0))) (k : CAt w b o C) :
    w.cell? ⟨b, o, none⟩ = some (.int .i64 C.kind) ∧ w.cell? ⟨d, 0, none⟩ = some (.int .i64 x.source) ∧ w.cell? ⟨d, 1, none⟩ = some (.int .u64 x.now) ∧ w.cell? ⟨d, 2, none⟩ = some (.int .u64 x.other) ∧ w.cell? ⟨d, 3, none⟩ = some (.int .i64 x.events) :=
  ⟨k.1, cellB h 0, cellB h 1, cellB h 2, cellB h 3⟩
theorem at_done {w0 wr wx : World} {p lb q ob hb b o d : Nat} {A : St} {c : Cl} {x : Ar} (KC : CAt wr b o c) (hB : Both w0 wr p lb q ob hb A A) (gW : b < wr.heap.size) (hF : Fr [] wr wx) (hd : wx.heap[d]? = some (.cells (acells x) 34 (0, 0))) :
    ∃ d', Value.pointer (some ⟨d, 0, none⟩) = .pointer (some ⟨d', 0, none⟩) ∧ Hid (wx.heap[d']? = some (.cells (acells x) 34 (0, 0))) ∧ Hid (CAt wx b o c) ∧ Hid (Both w0 wx p lb q ob hb A A) ∧ b < wx.heap.size :=
  ⟨d, rfl, hd, KC.keep hF gW (by simp), hB.keep hF, Nat.lt_of_lt_of_le gW hF.size⟩
theorem Both.notin {w0 w : World} {p lb q ob hb : Nat} {A B : St} (h : Both w0 w p lb q ob hb A B) {b : Nat} (hb0 : b < w0.heap.size) : b ∉ [p, lb] ∧ b ∉ [q, ob, hb] := by
  have := h.hp; have := h.hl; have := h.hq; have := h.ho; have := h.hh
  simp; omega
theorem Both.notin_type {w0 w : World} {p lb q ob hb : Nat} {A B : St} (h : Both w0 w p lb q ob hb A B) {d : Nat} {cs : Array Value} {T : TypeId} (hd : w.heap[d]? = some (.cells cs T (0, 0))) (h1 : T ≠ 60) (h2 : T ≠ 63) (h3 : T ≠ 41) (h4 : T ≠ 4) (h5 : T ≠ 32) : d ∉ [p, lb] ∧ d ∉ [q, ob, hb] := by
  obtain ⟨⟨⟨cap, g1⟩, cs, g2, _⟩, ⟨⟨oc, hc, al, _, _, _, g3⟩, ⟨cs2, g4, _⟩, ds, g5, _⟩, _, _, _, _, _, _⟩ := h
  have := ne_of_type hd g1 h1; have := ne_of_type hd g2 h2; have := ne_of_type hd g3 h3; have := ne_of_type hd g4 h4; have := ne_of_type hd g5 h5
  simp; omega

def newE (n : Int) : Int := if n < 0 ∨ 32 < n then 1 else 0
theorem newAny_calls (n : Int) (n0 : -9223372036854775808 ≤ n) (n1 : n < 9223372036854775808) (w : World) :
    Calls Try.prog 11 #[.int .i64 n] w fun e w' => ∃ a, e = .returned (.tuple #[.pointer a, .int .i64 (newE n)]) ∧ Fr [] w w' := by
  by_cases h : n < 0 ∨ 32 < n
  · refine (new_bad n h n0 n1 w).mono ?_
    rintro e w' ⟨rfl, rfl⟩
    exact ⟨none, by unfold newE; rw [if_pos h], Fr.refl _ _⟩
  · obtain ⟨m, rfl⟩ := Int.eq_ofNat_of_zero_le (show 0 ≤ n by omega)
    refine (new_calls m (by omega) w).mono ?_
    rintro e w' ⟨p, lb, _, _, rfl, _, hf⟩
    exact ⟨_, by unfold newE; rw [if_neg h], hf⟩
theorem rnewAny_calls (n : Int) (n0 : -9223372036854775808 ≤ n) (n1 : n < 9223372036854775808) (w : World) :
    Calls Try.prog 12 #[.int .i64 n] w fun e w' => ∃ a, e = .returned (.tuple #[.pointer a, .int .i64 (newE n)]) ∧ Fr [] w w' := by
  by_cases h : n < 0 ∨ 32 < n
  · refine (rnew_bad n h n0 n1 w).mono ?_
    rintro e w' ⟨rfl, rfl⟩
    exact ⟨none, by unfold newE; rw [if_pos h], Fr.refl _ _⟩
  · obtain ⟨m, rfl⟩ := Int.eq_ofNat_of_zero_le (show 0 ≤ n by omega)
    refine (rnew_calls m (by omega) w).mono ?_
    rintro e w' ⟨q, ob, hb, _, _, _, rfl, _, hf⟩
    exact ⟨_, by unfold newE; rw [if_neg h], hf⟩
theorem umod_nat (v n : Int) (h : 0 < n) : ∃ m : Nat, umod v n = m ∧ (m : Int) < n := by
  obtain ⟨m, hm⟩ := Int.eq_ofNat_of_zero_le (umod_nn v n h)
  have := umod_lt v n h
  exact ⟨m, hm, by omega⟩

def agreeS (n : Nat) (L : Nat → Cl) : Nat → St
  | 0 => St.new n
  | i + 1 => ((agreeS n L i).call (L i) n).2
theorem agree_kept (n : Nat) (hn : n ≤ 32) (L : Nat → Cl) (len : Nat) (hlen : len ≤ 1000) (hL : ∀ i, i < len → (L i).Ok) : ∀ i, i ≤ len → (agreeS n L i).Ok ∧ (agreeS n L i).n = n ∧ (agreeS n L i).events ≤ i * 34
  | 0, _ => ⟨St.new_ok n hn, rfl, by show (0 : Int) ≤ _; omega⟩
  | i + 1, hi => by
    obtain ⟨h1, h2, h3⟩ := agree_kept n hn L len hlen hL i (by omega)
    have hk := call_kept h1 (by omega) (hL i (by omega)) n (by omega)
    refine ⟨hk.ok, hk.n.trans h2, ?_⟩
    have := hk.ev1
    show ((agreeS n L i).call (L i) n).2.events ≤ _
    omega

set_option maxHeartbeats 3200000 in
set_option maxRecDepth 100000 in
theorem agree_calls (v : Int) (v0 : -9223372036854775808 ≤ v) (v1 : v < 9223372036854775808) (a : Option Addr) (len cap : Nat) (hmax : len ≤ 9223372036854775807) (L : Nat → Cl) (w : World) (hL : CallsAt w a len L) :
    Calls Try.prog 3 #[.int .i64 v, .slice a len cap] w fun e w' => e = .returned (.bool true) ∧ Below w.heap.size w w' := by
  have HA := Lib.hid awake_calls
  by_cases hbig : 50 < len
  · have hd2 : decide ((50 : Int) < len) = true := decide_eq_true (by omega)
    clear hL
    go_enter Try.func3, Try.ntmps3
    go_wp2_with fail
    refine (HA.out _).mono ?_
    rintro e w' ⟨rfl, hB⟩
    go_wp2_with fail
    go_ret
    exact ⟨rfl, hB⟩
  · have hd2 : decide ((50 : Int) < len) = false := decide_eq_false (by omega)
    obtain ⟨n, hmn, hn5⟩ := umod_nat v 5 (by omega)
    have hn : n ≤ 4 := by omega
    have hM : Hid (∀ W, Calls Try.prog 13 #[.int .i64 v, .int .i64 5] W fun e w' => e = .returned (.int .i64 n) ∧ w' = W) := fun W => by
      have h := mod_calls v 5 v0 v1 (by omega) (by omega) W
      rw [hmn] at h
      exact h
    clear hmn hn5
    have HNA := Lib.hid (newAny_calls v v0 v1)
    have HRA := Lib.hid (rnewAny_calls v v0 v1)
    generalize newE v = ne at HNA HRA
    obtain ⟨b, o, ha, hat⟩ := hL
    have Hat := Lib.hid hat
    have HK := Lib.hid (agree_kept n (by omega) L len (by omega) (fun i hi => (hat i hi).2.1))
    clear hat
    have HN := Lib.hid (fun W => new_calls n (by omega) W)
    have HR := Lib.hid (fun W => rnew_calls n (by omega) W)
    have hlen : len ≤ 50 := by omega
    go_enter Try.func3, Try.ntmps3
    go_wp2_with fail
    refine (HNA.out _).mono ?_
    rintro e w1 ⟨a1, rfl, f1⟩
    go_wp2_with fail
    refine (HRA.out _).mono ?_
    rintro e w2 ⟨a2, rfl, f2⟩
    go_wp2_with fail
    refine (hM.out _).mono ?_
    rintro e w2 ⟨rfl, rfl⟩
    go_wp2_with fail
    refine (HN.out _).mono ?_
    rintro e w3 ⟨p, lb, hp, hl, rfl, hm, f3⟩
    go_wp2_with fail
    refine (HR.out _).mono ?_
    rintro e w4 ⟨q, ob, hb, hq, ho, hh, rfl, hr, f4⟩
    have f2' := f1.trans f2
    have f3' := f2'.trans f3
    have hB : Both w w4 p lb q ob hb (agreeS n L 0) (agreeS n L 0) :=
      ⟨hm.keep f4 (by simp) (by simp), hr, (f3'.trans f4).below (Below.refl _ _) (Nat.le_refl _) (by simp), Nat.le_trans f2'.size hp, Nat.le_trans f2'.size hl, Nat.le_trans f3'.size hq, Nat.le_trans f3'.size ho, Nat.le_trans f3'.size hh⟩
    clear hm hr f1 f2 f3 f4 f2' f3' hp hl hq ho hh HNA HRA HN HR hM
    have HB := Lib.hid hB
    clear hB
    go_wp2_with fail
    go_loopw [14] (fun c wr => ∃ k lb2 : Nat, k ≤ len ∧ c = .int .i64 k ∧ Hid (Both w wr p lb2 q ob hb (agreeS n L k) (agreeS n L k)))
      (fun c _ => len - (intOf c).toNat)
    case atStart => exact ⟨0, lb, by omega, rfl, HB.out⟩
    case round =>
      obtain ⟨k, lb2, hk, rfl, hB⟩ := hrel
      clear HB
      by_cases hlt : k < len
      · obtain rfl := ha (by omega)
        clear ha
        obtain ⟨g0, g1, hcat⟩ := Hat.out k hlt
        obtain ⟨o1, o2, o3⟩ := HK.out k (by omega)
        have hs : agreeS n L (k + 1) = ((agreeS n L k).call (L k) n).2 := rfl
        have Hs := Lib.hid hs
        clear hs
        generalize agreeS n L k = A at hB o1 o2 o3 Hs
        have O2 := Lib.hid o2
        clear o2
        generalize hc : L k = c at *
        have KC : Hid (CAt wr b (o + k * 6) c) := CAt.below hcat hB.out.bel g0
        have gW : b < wr.heap.size := Nat.lt_of_lt_of_le g0 hB.out.bel.size
        obtain ⟨nn1, nn2⟩ := hB.out.notin g0
        clear hcat hc Hat
        have hAt : Hid (∀ W, Calls Try.prog 14 #[.agg #[.int .i64 c.kind, .int .i64 c.source, .int .u64 c.wait, .int .u64 c.hold, .int .i64 c.events, .bool c.raw], .int .i64 n, .int .u64 A.now, .int .i64 A.events] W fun e w' => e = .returned (c.at n A.now A.events).val ∧ Fr [] W w') :=
          fun W => at_calls c g1 n A.now A.events (by omega) (by omega) o1.now0 o1.now1 W
        have hX := Cl.at_ok g1 n A.now A.events (by omega) o1.now0 o1.now1 (by have := o1.ev0; omega) (by omega)
        have hs := Hs.out
        unfold St.call at hs
        generalize c.at n A.now A.events = x at hAt hX hs
        unfold Ar.val at hAt
        have Hs := Lib.hid hs
        clear hs
        have hDo : Hid (∀ lb W, PMem W p lb A → Calls Try.prog 15 #[.pointer (some ⟨p, 0, none⟩), .int .i64 c.kind, .agg #[.int .i64 x.source, .int .u64 x.now, .int .u64 x.other, .int .i64 x.events]] W fun e w' => ∃ lb', (lb' = lb ∨ W.heap.size ≤ lb') ∧ e = .returned (.int .i64 (A.step c.kind x).1) ∧ PMem w' p lb' (A.step c.kind x).2 ∧ Fr [p, lb] W w') :=
          fun lb W hm => do_calls p lb A c.kind g1.k0 g1.k1 x hX W o1 (by omega) hm
        have hWa : Hid (∀ W, RMem W q ob hb A → Calls Try.prog 16 #[.pointer (some ⟨q, 0, none⟩), .int .i64 c.kind, .agg #[.int .i64 x.source, .int .u64 x.now, .int .u64 x.other, .int .i64 x.events]] W fun e w' => e = .returned (.int .i64 (A.step c.kind x).1) ∧ RMem w' q ob hb (A.step c.kind x).2 ∧ Fr [q, ob, hb] W w') :=
          fun W hm => want_calls q ob hb A c.kind g1.k0 g1.k1 x hX W o1 (by omega) hm
        rw [← Hs.out] at hDo hWa
        generalize (A.step c.kind x).1 = er at hDo hWa
        obtain ⟨z1, z2, z3⟩ := HK.out (k + 1) (by omega)
        have hCo := Lib.hid (fun p lb W hm => counts_calls p lb (agreeS n L (k + 1)) W (by omega) hm)
        have hCr := Lib.hid (fun q ob hb W hm => rcounts_calls q ob hb (agreeS n L (k + 1)) W (by omega) hm)
        have hMo := Lib.hid (fun p lb W hm => must_calls p lb (agreeS n L (k + 1)) W (by omega) hm)
        have hMr := Lib.hid (fun q ob hb W hm => rmust_calls q ob hb (agreeS n L (k + 1)) W (by omega) hm)
        generalize hSk : agreeS n L (k + 1) = B at hDo hWa hCo hCr hMo hMr
        have HSk := Lib.hid hSk
        generalize B.events = ev at hCo hCr
        generalize B.cnt = cn at hCo hCr
        generalize B.must = mu at hMo hMr
        clear hSk hX Hs O2 z1 z2 z3
        obtain ⟨oc, hc2, al, al0, al1, al2, hR⟩ := hB.out.rm.obj
        have HR := Lib.hid hR
        clear hR al2
        go_upto_region 13 with (fail)
        go_cut [15] (fun s15 wx => ∃ d, s15 = .pointer (some ⟨d, 0, none⟩) ∧ Hid (wx.heap[d]? = some (.cells (acells x) 34 (0, 0))) ∧ Hid (CAt wx b (o + k * 6) c) ∧ Hid (Both w wx p lb2 q ob hb A A) ∧ b < wx.heap.size)
        case first =>
          go_region_held3 (fun w => w.cell? ⟨q, 4, none⟩ = some (.int .i64 A.events) ∧ w.cell? ⟨q, 7, none⟩ = some (.int .u64 A.now) ∧ w.cell? ⟨b, o + k * 6, none⟩ = some (.int .i64 c.kind) ∧ w.cell? ⟨b, o + k * 6 + 1, none⟩ = some (.int .i64 c.source) ∧ w.cell? ⟨b, o + k * 6 + 2, none⟩ = some (.int .u64 c.wait) ∧
            w.cell? ⟨b, o + k * 6 + 3, none⟩ = some (.int .u64 c.hold) ∧ w.cell? ⟨b, o + k * 6 + 4, none⟩ = some (.int .i64 c.events) ∧ w.cell? ⟨b, o + k * 6 + 5, none⟩ = some (.bool c.raw))
            (exact at_cells2 (C := c) (B := A) (ob := ob) (hb := hb) (oc := oc) (hc := hc2) (al := al) (Fr.at (by (repeat (first | exact Fr.refl _ _ | refine Fr.drew ?_ | refine Fr.alloc ?_ _ | refine Fr.setCell ?_ (Or.inr (by simp)) _ | refine Fr.trans ?_ hf2))) HR.out) (KC.out.keep (S := []) (by (repeat (first | exact Fr.refl _ _ | refine Fr.drew ?_ | refine Fr.alloc ?_ _ | refine Fr.setCell ?_ (Or.inr (by simp)) _ | refine Fr.trans ?_ hf2))) gW (by simp)))
            (first | (go_at_call 14; refine (hAt.out _).mono ?_; rintro e W2 ⟨rfl, hf2⟩; (try (have QD : W2.heap[wr.heap.size]? = some (.cells #[.int .i64 0, .int .u64 0, .int .u64 0, .int .i64 0] 34 (0, 0)) := hf2.at (heap_alloc_new _ _); have d0 : W2.cell? ⟨wr.heap.size, 0, none⟩ = some (.int .i64 0) := cellB QD 0; have d1 : W2.cell? ⟨wr.heap.size, 1, none⟩ = some (.int .u64 0) := cellB QD 1; have d2 : W2.cell? ⟨wr.heap.size, 2, none⟩ = some (.int .u64 0) := cellB QD 2; have d3 : W2.cell? ⟨wr.heap.size, 3, none⟩ = some (.int .i64 0) := cellB QD 3; have y0 := frozenB QD 0; have y1 := frozenB QD 1; have y2 := frozenB QD 2; have y3 := frozenB QD 3))))
          all_goals
            go_wp2_with fail
            go_meet
            first
              | (refine at_done (d := wr.heap.size) KC.out hB.out gW ?_ (by rw [setB (setB (setB (setB QD _ _) _ _) _ _) _ _]; rfl); (repeat (first | exact Fr.refl _ _ | refine Fr.drew ?_ | refine Fr.alloc ?_ _ | refine Fr.setCell ?_ (Or.inr (by simp)) _ | refine Fr.trans ?_ hf2)))
              | (refine at_done (d := W2.heap.size) KC.out hB.out gW ?_ (heap_alloc_new _ _); (repeat (first | exact Fr.refl _ _ | refine Fr.drew ?_ | refine Fr.alloc ?_ _ | refine Fr.setCell ?_ (Or.inr (by simp)) _ | refine Fr.trans ?_ hf2)))
        case rest =>
          obtain ⟨d, rfl, hd, hKC, hB3, gW3⟩ := hcut
          clear hB HR hAt KC gW
          obtain ⟨mm1, mm2⟩ := hB3.out.notin_type hd.out (by decide) (by decide) (by decide) (by decide) (by decide)
          have ld := lt_of_heap hd.out
          go_upto_region 14 with (fail)
          go_region_held3 (fun w => w.cell? ⟨b, o + k * 6, none⟩ = some (.int .i64 c.kind) ∧ w.cell? ⟨d, 0, none⟩ = some (.int .i64 x.source) ∧ w.cell? ⟨d, 1, none⟩ = some (.int .u64 x.now) ∧ w.cell? ⟨d, 2, none⟩ = some (.int .u64 x.other) ∧ w.cell? ⟨d, 3, none⟩ = some (.int .i64 x.events))
            (first | with_reducible exact do_cells hd5.out hKC5.out | with_reducible exact do_cells (drewB hd5.out) (CAt.drew hKC5.out) | with_reducible exact do_cells hd4.out hKC4.out | with_reducible exact do_cells (drewB hd4.out) (CAt.drew hKC4.out) | with_reducible exact do_cells hd.out hKC.out | with_reducible exact do_cells (drewB hd.out) (CAt.drew hKC.out))
            (first
              | (go_at_call 15; refine (hDo.out _ _ hB3.out.pm.drew).mono ?_; rintro e w4 ⟨lb4, hl4, rfl, hm4, hf4⟩; have hf4 := hf4.undrew; have hB4 := Lib.hid (hB3.out.did hl4 hm4 hf4); have hd4 : Hid (w4.heap[d]? = some (.cells (acells x) 34 (0, 0))) := (hf4.block d ld mm1).trans hd.out; have hKC4 : Hid (CAt w4 b (o + k * 6) c) := hKC.out.keep hf4 gW3 nn1; have hs4 := hf4.size)
              | (go_at_call 16; refine (hWa.out _ hB4.out.rm).mono ?_; rintro e w5 ⟨rfl, hm5, hf5⟩; have hB5 := Lib.hid (hB4.out.wanted hm5 hf5); have hd5 : Hid (w5.heap[d]? = some (.cells (acells x) 34 (0, 0))) := (hf5.block d (by omega) mm2).trans hd4.out; have hKC5 : Hid (CAt w5 b (o + k * 6) c) := hKC4.out.keep hf5 (by omega) nn2))
          all_goals
            clear hd hd4 hd5 hKC hKC4 hKC5 hB3 hB4 hf4 hm4 hm5 hf5 mm1 mm2 nn1 nn2 ld hDo hWa
            have hEq : Hid (Both w w5 p lb4 q ob hb B B) := hB5
            clear hB5
            go_wp2_with fail
            refine (hCo.out _ _ _ hEq.out.pm).mono ?_
            rintro e w6 ⟨rfl, hf6⟩
            have hB6 := Lib.hid (hEq.out.keep hf6)
            clear hEq hf6
            go_wp2_with fail
            refine (hCr.out _ _ _ _ hB6.out.rm).mono ?_
            rintro e w7 ⟨rfl, rfl⟩
            clear hCo hCr
            go_wp2_with fail
            refine (hMo.out _ _ _ hB6.out.pm).mono ?_
            rintro e w8 ⟨rfl, hf8⟩
            have hB8 := Lib.hid (hB6.out.keep hf8)
            clear hB6 hf8
            go_wp2_with fail
            refine (hMr.out _ _ _ _ hB8.out.rm).mono ?_
            rintro e w9 ⟨rfl, rfl⟩
            clear hMo hMr
            go_wp2_with fail
            go_roundw
            case rel => exact ⟨k + 1, lb4, by omega, by go_num, by rw [HSk.out]; exact hB8⟩
            case measure => simp [intOf]; omega
      · have hkn : k = len := by omega
        subst hkn
        go_wp2_with fail
        refine (HA.out _).mono ?_
        rintro e w9 ⟨rfl, hB9⟩
        go_wp2_with fail
        go_ret
        exact ⟨rfl, hB.out.bel.trans (hB9.mono hB.out.bel.size)⟩
end Go.Proofs.Ytjdbhlmkcbgkjaa.Wk
