import Derived.Test.YtjdbhlmkcbgkjaaWkT
namespace Go.Proofs.Ytjdbhlmkcbgkjaa.Wk
open Go.RowKit Go.Proofs.YtjdbhlmkcbgkjaaW.PrintWords
set_option linter.unusedVariables false
set_option linter.unusedSimpArgs false
attribute [local go_sem ↓] Go.wp_at_zero Go.wp_at_succ

def ccells (c : Cl) : Array Value := #[.int .i64 c.kind, .int .i64 c.source, .int .u64 c.wait, .int .u64 c.hold, .int .i64 c.events, .bool c.raw]
def acells (x : Ar) : Array Value := #[.int .i64 x.source, .int .u64 x.now, .int .u64 x.other, .int .i64 x.events]
theorem at_cells {w : World} {q ob hb oc hc c : Nat} {al : Int} {B : St} {C : Cl} (h : w.heap[q]? = some (.cells (rcells B ob hb oc hc al) 41 (0, 0))) (k : w.heap[c]? = some (.cells (ccells C) 36 (0, 0))) :
    w.cell? ⟨q, 4, none⟩ = some (.int .i64 B.events) ∧ w.cell? ⟨q, 7, none⟩ = some (.int .u64 B.now) ∧ w.cell? ⟨c, 0, none⟩ = some (.int .i64 C.kind) ∧ w.cell? ⟨c, 1, none⟩ = some (.int .i64 C.source) ∧ w.cell? ⟨c, 2, none⟩ = some (.int .u64 C.wait) ∧
    w.cell? ⟨c, 3, none⟩ = some (.int .u64 C.hold) ∧ w.cell? ⟨c, 4, none⟩ = some (.int .i64 C.events) ∧ w.cell? ⟨c, 5, none⟩ = some (.bool C.raw) :=
  ⟨cellB h 4, cellB h 7, cellB k 0, cellB k 1, cellB k 2, cellB k 3, cellB k 4, cellB k 5⟩

set_option maxHeartbeats 3200000 in
set_option maxRecDepth 100000 in
theorem lstart_calls (n : Nat) (hn : n ≤ 32) (a : Option Addr) (len cap : Nat) (hlen : len ≤ 1000) (L : Nat → Cl) (w : World) (hL : CallsAt w a len L) :
    Calls Try.prog 21 #[.int .i64 n, .slice a len cap] w fun e w' => ∃ p lb q ob hb, e = .returned (.tuple #[.pointer (some ⟨p, 0, none⟩), .pointer (some ⟨q, 0, none⟩), .bool true]) ∧ Both w w' p lb q ob hb (startS n L len) (startS n L len) := by
  have HL := Lib.hid hL
  obtain ⟨b, o, ha, hat⟩ := hL
  have Hat := Lib.hid hat
  have HK := Lib.hid (start_kept n hn L len hlen (fun i hi => (hat i hi).2.1))
  clear hat
  have hN := fun W => new_calls n hn W
  have hR := fun W => rnew_calls n hn W
  go_enter Try.func21, Try.ntmps21
  go_wp2_with fail
  refine (hN _).mono ?_
  rintro e w1 ⟨p, lb, hp, hl, rfl, hm, hf⟩
  clear hN
  go_wp2_with fail
  refine (hR _).mono ?_
  rintro e w2 ⟨q, ob, hb, hq, ho, hh, rfl, hr, hf2⟩
  clear hR
  have hB : Both w w2 p lb q ob hb (startS n L 0) (startS n L 0) :=
    ⟨hm.keep hf2 (by simp) (by simp), hr, hf2.below (hf.below (Below.refl _ _) (Nat.le_refl _) (by simp)) hf.size (by simp), hp, hl, Nat.le_trans hf.size hq, Nat.le_trans hf.size ho, Nat.le_trans hf.size hh⟩
  clear hm hr hf hf2 hp hl hq ho hh
  have HB := Lib.hid hB
  clear hB
  go_wp2_with fail
  go_loopw [11] (fun c wr => ∃ k lb2 : Nat, k ≤ len ∧ c = .int .i64 k ∧ Hid (Both w wr p lb2 q ob hb (startS n L k) (startS n L k)))
      (fun c _ => len - (intOf c).toNat)
  case atStart => exact ⟨0, lb, by omega, rfl, HB.out⟩
  case round =>
    obtain ⟨k, lb2, hk, rfl, hB⟩ := hrel
    clear HB
    by_cases hlt : k < len
    · obtain rfl := ha (by omega)
      obtain ⟨g0, g1, c0, c1, c2, c3, c4, c5⟩ := Hat.out k hlt
      obtain ⟨o1, o2, o3⟩ := HK.out k (by omega)
      have hs : startS n L (k + 1) = ((startS n L k).call (L k).noraw n).2 := rfl
      have Hs := Lib.hid hs
      clear hs
      generalize startS n L k = A at hB o1 o2 o3 Hs
      have O2 := Lib.hid o2
      clear o2
      have k0 : wr.cell? ⟨b, o + k * 6, none⟩ = some (.int .i64 (L k).kind) := (hB.out.bel.cell (p := ⟨b, _, none⟩) g0).trans c0
      have k1 : wr.cell? ⟨b, o + k * 6 + 1, none⟩ = some (.int .i64 (L k).source) := (hB.out.bel.cell (p := ⟨b, _, none⟩) g0).trans c1
      have k2 : wr.cell? ⟨b, o + k * 6 + 2, none⟩ = some (.int .u64 (L k).wait) := (hB.out.bel.cell (p := ⟨b, _, none⟩) g0).trans c2
      have k3 : wr.cell? ⟨b, o + k * 6 + 3, none⟩ = some (.int .u64 (L k).hold) := (hB.out.bel.cell (p := ⟨b, _, none⟩) g0).trans c3
      have k4 : wr.cell? ⟨b, o + k * 6 + 4, none⟩ = some (.int .i64 (L k).events) := (hB.out.bel.cell (p := ⟨b, _, none⟩) g0).trans c4
      have k5 : wr.cell? ⟨b, o + k * 6 + 5, none⟩ = some (.bool (L k).raw) := (hB.out.bel.cell (p := ⟨b, _, none⟩) g0).trans c5
      clear c0 c1 c2 c3 c4 c5
      have hcn := (g1.noraw).k0
      generalize hc : L k = c at *
      go_upto_region 10 with (fail)
      clear ha HL Hat
      have hAt : Hid (∀ W, Calls Try.prog 14 #[.agg #[.int .i64 c.kind, .int .i64 c.source, .int .u64 c.wait, .int .u64 c.hold, .int .i64 c.events, .bool false], .int .i64 n, .int .u64 A.now, .int .i64 A.events] W fun e w' => e = .returned (c.noraw.at n A.now A.events).val ∧ Fr [] W w') :=
        fun W => at_calls c.noraw g1.noraw n A.now A.events (by omega) (by omega) o1.now0 o1.now1 W
      have hX := Cl.at_ok g1.noraw n A.now A.events (by omega) o1.now0 o1.now1 (by have := o1.ev0; omega) (by omega)
      have hs := Hs.out
      unfold St.call at hs
      rw [show c.noraw.kind = c.kind from rfl] at hs
      generalize c.noraw.at n A.now A.events = x at hAt hX hs
      unfold Ar.val at hAt
      have Hs := Lib.hid hs
      clear hs
      have hDo : Hid (∀ lb W, PMem W p lb A → Calls Try.prog 15 #[.pointer (some ⟨p, 0, none⟩), .int .i64 c.kind, .agg #[.int .i64 x.source, .int .u64 x.now, .int .u64 x.other, .int .i64 x.events]] W fun e w' => ∃ lb', (lb' = lb ∨ W.heap.size ≤ lb') ∧ e = .returned (.int .i64 (A.step c.kind x).1) ∧ PMem w' p lb' (A.step c.kind x).2 ∧ Fr [p, lb] W w') :=
        fun lb W hm => do_calls p lb A c.kind g1.k0 g1.k1 x hX W o1 (by omega) hm
      have hWa : Hid (∀ W, RMem W q ob hb A → Calls Try.prog 16 #[.pointer (some ⟨q, 0, none⟩), .int .i64 c.kind, .agg #[.int .i64 x.source, .int .u64 x.now, .int .u64 x.other, .int .i64 x.events]] W fun e w' => e = .returned (.int .i64 (A.step c.kind x).1) ∧ RMem w' q ob hb (A.step c.kind x).2 ∧ Fr [q, ob, hb] W w') :=
        fun W hm => want_calls q ob hb A c.kind g1.k0 g1.k1 x hX W o1 (by omega) hm
      rw [← Hs.out] at hDo hWa
      generalize (A.step c.kind x).1 = er at hDo hWa
      generalize hSk : startS n L (k + 1) = B at hDo hWa ⊢
      have HSk := Lib.hid hSk
      clear hSk
      obtain ⟨cb, hcb⟩ : ∃ cb, cb = wr.heap.size := ⟨_, rfl⟩
      rw [← hcb]
      obtain ⟨W, hW⟩ : ∃ W, W = wr.alloc (.cells (ccells c.noraw) 36) := ⟨_, rfl⟩
      have hW' := hW
      simp only [ccells, Cl.noraw] at hW'
      rw [← hW']
      have HC : Hid (W.heap[cb]? = some (.cells (ccells c.noraw) 36 (0, 0))) := by rw [hW, hcb]; exact heap_alloc_new _ _
      have hBW : Hid (Both w W p lb2 q ob hb A A) := by rw [hW]; exact hB.out.keep ((Fr.refl _ _).alloc _)
      clear hW hW' hB k0 k1 k2 k3 k4 k5 hcb hX Hs O2
      obtain ⟨oc, hc2, al, al0, al1, al2, hR⟩ := hBW.out.rm.obj
      have HR := Lib.hid hR
      have hqs : q < W.heap.size := lt_of_heap hR
      have hcs : cb < W.heap.size := lt_of_heap HC.out
      clear hR al2
      go_cut [13] (fun s13 wx => ∃ d, s13 = .pointer (some ⟨d, 0, none⟩) ∧ Hid (wx.heap[d]? = some (.cells (acells x) 34 (0, 0))) ∧ Hid (wx.heap[cb]? = some (.cells (ccells c.noraw) 36 (0, 0))) ∧ Hid (Both w wx p lb2 q ob hb A A))
      case first =>
        go_region_held3 (fun w => w.cell? ⟨q, 4, none⟩ = some (.int .i64 A.events) ∧ w.cell? ⟨q, 7, none⟩ = some (.int .u64 A.now) ∧ w.cell? ⟨cb, 0, none⟩ = some (.int .i64 c.kind) ∧ w.cell? ⟨cb, 1, none⟩ = some (.int .i64 c.source) ∧ w.cell? ⟨cb, 2, none⟩ = some (.int .u64 c.wait) ∧
          w.cell? ⟨cb, 3, none⟩ = some (.int .u64 c.hold) ∧ w.cell? ⟨cb, 4, none⟩ = some (.int .i64 c.events) ∧ w.cell? ⟨cb, 5, none⟩ = some (.bool false))
          (exact at_cells (C := c.noraw) (B := A) (ob := ob) (hb := hb) (oc := oc) (hc := hc2) (al := al) (by (repeat (first | with_reducible exact HC.out | with_reducible exact HR.out | with_reducible exact QC.out | with_reducible exact QR.out | with_reducible refine drewB ?_ | (with_reducible refine alloc_at _ _ ?_; simp; done) | with_reducible refine allocB ?_ _ | (with_reducible refine setB_ne ?_ _ _ ?_; rotate_left; simp; omega)))) (by (repeat (first | with_reducible exact HC.out | with_reducible exact HR.out | with_reducible exact QC.out | with_reducible exact QR.out | with_reducible refine drewB ?_ | (with_reducible refine alloc_at _ _ ?_; simp; done) | with_reducible refine allocB ?_ _ | (with_reducible refine setB_ne ?_ _ _ ?_; rotate_left; simp; omega)))))
          (first | (go_at_call 14; refine (hAt.out _).mono ?_; rintro e W2 ⟨rfl, hf2⟩; have QC : Hid (W2.heap[cb]? = some (.cells (ccells c.noraw) 36 (0, 0))) := hf2.at (by (repeat (first | with_reducible exact HC.out | with_reducible exact HR.out | with_reducible exact QC.out | with_reducible exact QR.out | with_reducible refine drewB ?_ | (with_reducible refine alloc_at _ _ ?_; simp; done) | with_reducible refine allocB ?_ _ | (with_reducible refine setB_ne ?_ _ _ ?_; rotate_left; simp; omega)))); (try (have QD : W2.heap[W.heap.size]? = some (.cells #[.int .i64 0, .int .u64 0, .int .u64 0, .int .i64 0] 34 (0, 0)) := hf2.at (heap_alloc_new _ _); have d0 : W2.cell? ⟨W.heap.size, 0, none⟩ = some (.int .i64 0) := cellB QD 0; have d1 : W2.cell? ⟨W.heap.size, 1, none⟩ = some (.int .u64 0) := cellB QD 1; have d2 : W2.cell? ⟨W.heap.size, 2, none⟩ = some (.int .u64 0) := cellB QD 2; have d3 : W2.cell? ⟨W.heap.size, 3, none⟩ = some (.int .i64 0) := cellB QD 3; have y0 := frozenB QD 0; have y1 := frozenB QD 1; have y2 := frozenB QD 2; have y3 := frozenB QD 3)); have QR : Hid (W2.heap[q]? = some (.cells (rcells A ob hb oc hc2 al) 41 (0, 0))) := hf2.at (by (repeat (first | with_reducible exact HC.out | with_reducible exact HR.out | with_reducible exact QC.out | with_reducible exact QR.out | with_reducible refine drewB ?_ | (with_reducible refine alloc_at _ _ ?_; simp; done) | with_reducible refine allocB ?_ _ | (with_reducible refine setB_ne ?_ _ _ ?_; rotate_left; simp; omega))))))
        all_goals
          go_wp2_with fail
          go_meet
          first
            | exact ⟨W.heap.size, rfl, Lib.hid (by rw [setB (setB (setB (setB QD _ _) _ _) _ _) _ _]; rfl), Lib.hid (by (repeat (first | with_reducible exact HC.out | with_reducible exact HR.out | with_reducible exact QC.out | with_reducible exact QR.out | with_reducible refine drewB ?_ | (with_reducible refine alloc_at _ _ ?_; simp; done) | with_reducible refine allocB ?_ _ | (with_reducible refine setB_ne ?_ _ _ ?_; rotate_left; simp; omega)))), Lib.hid (hBW.out.keep (by (repeat (first | exact Fr.refl _ _ | refine Fr.drew ?_ | refine Fr.alloc ?_ _ | refine Fr.setCell ?_ (Or.inr (by simp)) _ | refine Fr.trans ?_ hf2))))⟩
            | exact ⟨W2.heap.size, rfl, Lib.hid (heap_alloc_new _ _), Lib.hid (by (repeat (first | with_reducible exact HC.out | with_reducible exact HR.out | with_reducible exact QC.out | with_reducible exact QR.out | with_reducible refine drewB ?_ | (with_reducible refine alloc_at _ _ ?_; simp; done) | with_reducible refine allocB ?_ _ | (with_reducible refine setB_ne ?_ _ _ ?_; rotate_left; simp; omega)))), Lib.hid (hBW.out.keep (by (repeat (first | exact Fr.refl _ _ | refine Fr.drew ?_ | refine Fr.alloc ?_ _ | refine Fr.setCell ?_ (Or.inr (by simp)) _ | refine Fr.trans ?_ hf2))))⟩
      case rest =>
        obtain ⟨d, rfl, hd, hc3, hB3⟩ := hcut
        clear hBW HC HR hqs hcs hAt
        have hne : ∀ B cs T, wc.heap[B]? = some (.cells cs T (0, 0)) → T ≠ 60 → T ≠ 63 → B ∉ [p, lb2] := fun B cs T h hT1 hT2 => by
          obtain ⟨⟨cap, h1⟩, ds, h2, _⟩ := hB3.out.pm
          have := ne_of_type h h1 hT1
          have := ne_of_type h h2 hT2
          simp; omega
        have n1 := hne d _ _ hd.out (by decide) (by decide)
        have n2 := hne cb _ _ hc3.out (by decide) (by decide)
        clear hne
        have d0 : wc.cell? ⟨d, 0, none⟩ = some (.int .i64 x.source) := cellB hd.out 0
        have d1 : wc.cell? ⟨d, 1, none⟩ = some (.int .u64 x.now) := cellB hd.out 1
        have d2 : wc.cell? ⟨d, 2, none⟩ = some (.int .u64 x.other) := cellB hd.out 2
        have d3 : wc.cell? ⟨d, 3, none⟩ = some (.int .i64 x.events) := cellB hd.out 3
        have e0 : wc.cell? ⟨cb, 0, none⟩ = some (.int .i64 c.kind) := cellB hc3.out 0
        go_wp2_with fail
        refine (hDo.out _ _ hB3.out.pm).mono ?_
        clear d0 d1 d2 d3 e0
        rintro e w4 ⟨lb4, hl4, rfl, hm4, hf4⟩
        have hB4 := Lib.hid (hB3.out.did hl4 hm4 hf4)
        have hd4 : w4.heap[d]? = some (.cells (acells x) 34 (0, 0)) := (hf4.block d (lt_of_heap hd.out) n1).trans hd.out
        have hc4 : w4.heap[cb]? = some (.cells (ccells c.noraw) 36 (0, 0)) := (hf4.block cb (lt_of_heap hc3.out) n2).trans hc3.out
        have d0 : w4.cell? ⟨d, 0, none⟩ = some (.int .i64 x.source) := cellB hd4 0
        have d1 : w4.cell? ⟨d, 1, none⟩ = some (.int .u64 x.now) := cellB hd4 1
        have d2 : w4.cell? ⟨d, 2, none⟩ = some (.int .u64 x.other) := cellB hd4 2
        have d3 : w4.cell? ⟨d, 3, none⟩ = some (.int .i64 x.events) := cellB hd4 3
        have e0 : w4.cell? ⟨cb, 0, none⟩ = some (.int .i64 c.kind) := cellB hc4 0
        clear hd4 hc4 hl4 hm4 hf4 hB3 hd hc3 n1 n2
        go_wp2_with fail
        refine (hWa.out _ hB4.out.rm).mono ?_
        clear d0 d1 d2 d3 e0
        rintro e w5 ⟨rfl, hm5, hf5⟩
        have hB5 := Lib.hid (hB4.out.wanted hm5 hf5)
        clear hB4 hm5 hf5 hDo hWa
        go_wp2_with fail
        go_roundw
        case rel => exact ⟨k + 1, lb4, by omega, by go_num, by rw [HSk.out]; exact hB5⟩
        case measure => simp [intOf]; omega
    · have hkn : k = len := by omega
      subst hkn
      go_wp2_with fail
      go_ret3
      exact ⟨p, lb2, q, ob, hb, rfl, hB.out⟩
end Go.Proofs.Ytjdbhlmkcbgkjaa.Wk
