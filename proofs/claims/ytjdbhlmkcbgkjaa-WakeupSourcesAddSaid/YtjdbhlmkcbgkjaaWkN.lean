import Derived.Test.YtjdbhlmkcbgkjaaWkM
import Derived.Deep.RegionHeld3
import Derived.Deep.DeepCutAuto
import Derived.Deep.DrawnRows
namespace Go.Proofs.Ytjdbhlmkcbgkjaa.Wk
open Go.RowKit Go.Proofs.YtjdbhlmkcbgkjaaW.PrintWords
set_option linter.unusedVariables false
set_option linter.unusedSimpArgs false

theorem heap_drew0 (w : World) : w.drew.heap = w.heap := rfl
theorem step_clone {P : Program} {ops : Array Oper} {o : Oper} {a : Act} {K : Act → World → Prop} {Q : Exit → Act → World → Prop} {E : Prop} {W : World} (w0 : World) (hgd : o.guard = none) (s x : Operand) (t e : TypeId) (z : Value) (bytes : Nat)
    (ho : o.op = .call { callee := .builtin .append, args := #[s, x], argTypes := #[t, t] })
    (ht : P.underlying t = some (.slice e)) (hinfo : (P.info? e).map (fun i => (i.zero, i.size, i.bytes)) = some (some z, 1, bytes)) (hzs : z.cells.size = 1) (hb : bytes ≤ 100)
    (B n c src : Nat) (cs : Array Value) (hs : a.eval s = .slice (some ⟨B, 0, none⟩) 0 0) (hx : a.eval x = .slice (some ⟨src, 0, none⟩) n c)
    (hB : W.heap[B]? = some (.cells #[] e (0, 0))) (hsrc : W.heap[src]? = some (.cells cs e (0, 0))) (hn : n ≤ 1000)
    (hcs : ∀ j, j < n → ∃ u, cs[j]? = some u ∧ u.oneCell' = true) (hF : Fr [] w0 W) (hB0 : w0.heap.size ≤ B)
    (h : ∀ g c' ds W2, W2.heap[g]? = some (.cells ds e (0, 0)) → (∀ j, j < n → ds[j]? = cs[j]?) → Fr [] w0 W2 → Fr [B] W W2 → w0.heap.size ≤ g → g < W2.heap.size → (g = B ∨ g = W.heap.size) → K (a.put o.dst (.slice (some ⟨g, 0, none⟩) n c')) W2) :
    if Region.wanted o (yielded ops a.tmps) = true then Oper.wp P o a W K Q else E := by
  obtain ⟨i0, hi, hzz⟩ := Option.map_eq_some_iff.1 hinfo
  simp only [Prod.mk.injEq] at hzz
  obtain ⟨hz0, hz1, hz2⟩ := hzz
  have hw : Region.wanted o (yielded ops a.tmps) = true := by simp [Region.wanted, hgd]
  rw [if_pos hw]
  have hsz : n ≤ cs.size := by
    cases n with
    | zero => omega
    | succ m =>
      obtain ⟨u, hu, _⟩ := hcs m (by omega)
      have := (Array.getElem?_eq_some_iff.1 hu).1
      omega
  have hown : W.ownsRow w0.heap.size e 1 (.slice (some ⟨B, 0, none⟩) 0 0) 0 [] := ⟨by simp, .inr ⟨B, 0, #[], rfl, hB0, hB, Nat.le_refl _, by decide, by simp, by simp⟩⟩
  have hbb : n * bytes ≤ 1000 * 100 := Nat.mul_le_mul hn hb
  obtain ⟨v', w', hr, h2, h3, h4, h5⟩ := run_append_own_at (P := P) W w0.heap.size t o.type e i0 z 1 bytes ht hi hz0 hz1 hz2 hzs (by omega) _ 0 [] hown ⟨src, 0, none⟩ n c (cs.toList.take n) (by simp; omega) (by
    intro j u hu
    refine World.news_of_block hsrc j u ?_
    rw [List.getElem?_take] at hu
    split at hu
    · exact hu
    · cases hu) (by
    intro u hu
    obtain ⟨j, hj, rfl⟩ := List.mem_iff_getElem.1 hu
    have hj2 : j < n := by simp at hj; omega
    obtain ⟨u, h1, h2⟩ := hcs j hj2
    obtain ⟨hh, he⟩ := Array.getElem?_eq_some_iff.1 h1
    have : (cs.toList.take n)[j] = u := by simpa using he
    rw [this]; exact h2) (by simp only [maxLen]; omega) (by rw [Nat.zero_add]; omega) hF.size
  unfold Oper.wp execOp
  simp only [ho, resolve, invoke, builtin, Sem.run_bind, Sem.run_pure, Result.andThen_ok, List.map_toArray, List.map_cons, List.map_nil, hs, hx, hr]
  have hF2 : Fr [B] W w' := (Fr.refl [B] W).grown h3 (by intro k hk; injection hk with hk; left; simp; exact hk.symm)
  rcases h2.2 with ⟨rfl, h0⟩ | ⟨g, c', cur, rfl, hgb, hgh, _, _, _, htk⟩
  · have := (h4.1 rfl).1
    cases this
  · rw [Nat.zero_add]
    refine h g c' cur w' hgh ?_ (hF.new hF2 (by intro x hx; simp at hx; omega)) hF2 hgb (lt_of_heap hgh) (by simpa [Value.ownBlock] using h5)
    intro j hj
    have h1 : (cur.toList.take ((0 + n) * 1))[j]? = ([] ++ cs.toList.take n)[j]? := by rw [htk]
    rw [List.nil_append, List.getElem?_take_of_lt (by omega), List.getElem?_take_of_lt hj] at h1
    simpa using h1

theorem drewB {w : World} {B : Nat} {o : Option Obj} (h : w.heap[B]? = o) : w.drew.heap[B]? = o := h
theorem alloc_at (w : World) {B : Nat} (o : Obj) (h : w.heap.size = B) : (w.alloc o).heap[B]? = some o := by subst h; exact heap_alloc_new w o
theorem frB {S : Nat} {w w' : World} {B : Nat} {o : Obj} (h : Fr [S] w w') (hne : B ≠ S) (hB : w.heap[B]? = some o) : w'.heap[B]? = some o := (h.block B (lt_of_heap hB) (by simpa using hne)).trans hB

theorem cells_of_R {w : World} {q ob hb oc hc : Nat} {al : Int} {A : St} (h : w.heap[q]? = some (.cells (rcells A ob hb oc hc al) 41 (0, 0))) :
    w.cell? ⟨q, 0, none⟩ = some (.slice (some ⟨ob, 0, none⟩) A.n oc) ∧ w.cell? ⟨q, 1, none⟩ = some (.slice (some ⟨hb, 0, none⟩) A.n hc) ∧ w.cell? ⟨q, 2, none⟩ = some (.int .u64 al) ∧ w.cell? ⟨q, 3, none⟩ = some (.bool A.set) ∧ w.cell? ⟨q, 4, none⟩ = some (.int .i64 A.events) :=
  ⟨cellB h 0, cellB h 1, cellB h 2, cellB h 3, cellB h 4⟩

/-! ### The copy of Arm: what hangs on the list and the alarm alone -/
structure Core (B C : St) : Prop where
  n : B.n = C.n
  on : B.on = C.on
  hold : B.hold = C.hold
  ev : B.events = C.events
  alarm : B.alarm = C.alarm
  set : B.set = C.set
theorem Core.adv1 {B C : St} (h : Core B C) (t : Int) (i : Nat) : Core (adv1 B t i) (adv1 C t i) := by
  have hd : B.due t i = C.due t i := by unfold St.due; rw [h.on, h.hold]
  unfold Wk.adv1
  rw [hd]
  split
  · exact ⟨h.n, by show upd B.on i false = upd C.on i false; rw [h.on], by show upd B.hold i 0 = upd C.hold i 0; rw [h.hold], by show B.events + 1 = C.events + 1; rw [h.ev], h.alarm, h.set⟩
  · exact h
theorem Core.advK {B C : St} (h : Core B C) (t : Int) : ∀ k, Core (advK B t k) (advK C t k)
  | 0 => ⟨h.n, h.on, h.hold, h.ev, h.alarm, h.set⟩
  | k + 1 => (Core.advK h t k).adv1 t k
theorem Core.adv {B C : St} (h : Core B C) (t : Int) : Core (B.adv t) (C.adv t) := by
  have g := h.advK t B.n
  unfold St.adv
  rw [← h.n]
  unfold advL
  rw [g.set, g.alarm]
  split
  · exact ⟨g.n, g.on, g.hold, by show (Wk.advK B t B.n).events + 1 = (Wk.advK C t B.n).events + 1; rw [g.ev], rfl, rfl⟩
  · exact ⟨g.n, g.on, g.hold, g.ev, g.alarm, g.set⟩
theorem Core.cnt {B C : St} (h : Core B C) : B.cnt = C.cnt := by unfold St.cnt; rw [h.on, h.n]
def St.fresh (A : St) : St := { A with armed := false, rem := 0, now := 0 }
theorem St.fresh_core (A : St) : Core A.fresh A := ⟨rfl, rfl, rfl, rfl, rfl, rfl⟩
theorem St.Ok.fresh {A : St} (h : A.Ok) : A.fresh.Ok := ⟨h.n, Int.le_refl _, by show (0 : Int) ≤ _; omega, h.ev0, h.al0, h.al1, h.alz, h.hd0, h.hd1, h.hdz, by show _ ≤ (0 : Int); omega, by show (0 : Int) < _; omega⟩
theorem fresh_mem {W : World} {A : St} {ob hb c k : Nat} {al : Int} {cs ds cs1 ds1 : Array Value} (al0 : 0 ≤ al) (al1 : al ≤ 1152921504606846976) (al2 : A.set = true → al = A.alarm)
    (h3 : ∀ i, i < A.n → cs[i]? = some (.bool (A.on i))) (h5 : ∀ i, i < A.n → ∃ h, ds[i]? = some (.int .u64 h) ∧ 0 ≤ h ∧ h ≤ 2305843009213693953 ∧ (A.on i = true → h = A.hold i))
    (g1 : W.heap[ob]? = some (.cells cs1 4 (0, 0))) (e1 : ∀ j, j < A.n → cs1[j]? = cs[j]?) (g2 : W.heap[hb]? = some (.cells ds1 32 (0, 0))) (e2 : ∀ j, j < A.n → ds1[j]? = ds[j]?) :
    RMem (W.alloc (.cells (rcells A.fresh ob hb c k al) 41)) W.heap.size ob hb A.fresh := by
  refine ⟨⟨c, k, al, al0, al1, al2, heap_alloc_new _ _⟩, ⟨cs1, allocB g1 _, fun i hi => (e1 i hi).trans (h3 i hi)⟩, ds1, allocB g2 _, fun i hi => ?_⟩
  obtain ⟨h, a, b⟩ := h5 i hi
  exact ⟨h, (e2 i hi).trans a, b⟩

attribute [local go_sem ↓] Go.wp_at_zero Go.wp_at_succ

set_option maxHeartbeats 1600000 in
set_option maxRecDepth 100000 in
theorem rarm_calls (q ob hb : Nat) (A : St) (ev t : Int) (e0 : -9223372036854775808 ≤ ev) (e1 : ev < 9223372036854775808) (t0 : 0 ≤ t) (t1 : t < 18446744073709551616) (w : World) (hA : A.Ok) (he : A.events ≤ 900000000) (hm : RMem w q ob hb A) :
    Calls Try.prog 28 #[.pointer (some ⟨q, 0, none⟩), .int .i64 ev, .int .u64 t] w fun e w' => e = .returned (.int .i64 (A.Arm ev t).1) ∧ RMem w' q ob hb (A.Arm ev t).2 ∧ Fr [q, ob, hb] w w' := by
  have hL := rlate_calls q ob hb A t t0 t1 w hA hm
  have hn := hA.n
  unfold St.Arm
  cases hl : A.late t with
  | true =>
    rw [hl] at hL
    rw [if_pos rfl]
    go_enter Try.func28, Try.ntmps28
    go_wp2_with fail
    refine hL.mono ?_
    rintro e w' ⟨rfl, rfl⟩
    clear hL
    go_wp2_with fail
    go_ret
    exact ⟨rfl, hm, Fr.refl _ _⟩
  | false =>
    rw [hl] at hL
    rw [if_neg (by simp)]
    have HM := Lib.hid hm
    obtain ⟨⟨oc, hc, al, al0, al1, al2, h1⟩, ⟨cs, h2, h3⟩, ds, h4, h5⟩ := hm
    have Al2 := Lib.hid al2
    clear al2
    obtain ⟨r, hr⟩ : ∃ r, r = (if (A.adv t).events ≠ ev ∨ 0 < (A.adv t).cnt then ((17 : Int), A) else (0, { A.adv t with armed := true, rem := ev })) := ⟨_, rfl⟩
    rw [← hr]
    have Hr0 := Lib.hid hr
    clear hr
    go_enter Try.func28, Try.ntmps28
    go_wp2_with fail
    refine hL.mono ?_
    rintro e w' ⟨rfl, rfl⟩
    clear hL
    have c0 : w'.cell? ⟨q, 0, none⟩ = some (.slice (some ⟨ob, 0, none⟩) A.n oc) := cellB h1 0
    have c1 : w'.cell? ⟨q, 1, none⟩ = some (.slice (some ⟨hb, 0, none⟩) A.n hc) := cellB h1 1
    have c2 : w'.cell? ⟨q, 2, none⟩ = some (.int .u64 al) := cellB h1 2
    have c3 : w'.cell? ⟨q, 3, none⟩ = some (.bool A.set) := cellB h1 3
    have c4 : w'.cell? ⟨q, 4, none⟩ = some (.int .i64 A.events) := cellB h1 4
    have hqs : q < w'.heap.size := lt_of_heap h1
    have hos : ob < w'.heap.size := lt_of_heap h2
    have hhs : hb < w'.heap.size := lt_of_heap h4
    have H1 := Lib.hid h1
    have H2 := Lib.hid h2
    have H3 := Lib.hid h3
    have H4 := Lib.hid h4
    have H5 := Lib.hid h5
    clear h1 h2 h3 h4 h5
    go_upto_region 3 with (fail)
    have HO : Hid (∀ j, j < A.n → ∃ u, cs[j]? = some u ∧ u.oneCell' = true) := fun j hj => ⟨_, H3.out j hj, rfl⟩
    have HH : Hid (∀ j, j < A.n → ∃ u, ds[j]? = some u ∧ u.oneCell' = true) := fun j hj => by
      obtain ⟨v, hv, _⟩ := H5.out j hj
      exact ⟨_, hv, rfl⟩
    go_cut [7] (fun s7 wx => ∃ q2 o2 h2, s7 = .pointer (some ⟨q2, 0, none⟩) ∧ w'.heap.size ≤ q2 ∧ w'.heap.size ≤ o2 ∧ w'.heap.size ≤ h2 ∧ RMem wx q2 o2 h2 A.fresh ∧ Fr [] w' wx)
    case first =>
      go_region_held3 (fun w => w.cell? ⟨q, 0, none⟩ = some (.slice (some ⟨ob, 0, none⟩) A.n oc) ∧ w.cell? ⟨q, 1, none⟩ = some (.slice (some ⟨hb, 0, none⟩) A.n hc) ∧ w.cell? ⟨q, 2, none⟩ = some (.int .u64 al) ∧ w.cell? ⟨q, 3, none⟩ = some (.bool A.set) ∧ w.cell? ⟨q, 4, none⟩ = some (.int .i64 A.events))
        (exact cells_of_R (by (repeat (first | with_reducible exact H2.out | with_reducible exact H4.out | with_reducible exact H1.out | with_reducible exact Q1.out | with_reducible exact Q2.out | with_reducible exact hg1 | with_reducible exact hg2 | with_reducible refine drewB ?_ | (with_reducible refine alloc_at _ _ ?_; simp; done) | with_reducible refine allocB ?_ _ | (with_reducible refine frB hG1 ?_ ?_; omega) | (with_reducible refine frB hG2 ?_ ?_; omega)))))
        (first
        | (refine step_clone w' (by rfl) (.tmp 13) (.tmp 17) 38 4 (.bool false) 1 (by rfl) Try.underlying38 (by kernel_rfl) rfl (by omega) _ A.n oc ob cs (by rfl) (by rfl) (by (repeat (first | with_reducible exact H2.out | with_reducible exact H4.out | with_reducible exact H1.out | with_reducible exact Q1.out | with_reducible exact Q2.out | with_reducible exact hg1 | with_reducible exact hg2 | with_reducible refine drewB ?_ | (with_reducible refine alloc_at _ _ ?_; simp; done) | with_reducible refine allocB ?_ _ | (with_reducible refine frB hG1 ?_ ?_; omega) | (with_reducible refine frB hG2 ?_ ?_; omega)))) (by (repeat (first | with_reducible exact H2.out | with_reducible exact H4.out | with_reducible exact H1.out | with_reducible exact Q1.out | with_reducible exact Q2.out | with_reducible exact hg1 | with_reducible exact hg2 | with_reducible refine drewB ?_ | (with_reducible refine alloc_at _ _ ?_; simp; done) | with_reducible refine allocB ?_ _ | (with_reducible refine frB hG1 ?_ ?_; omega) | (with_reducible refine frB hG2 ?_ ?_; omega)))) (by omega) HO.out (by (repeat (first | exact Fr.refl _ _ | exact hF1 | exact hF2 | refine Fr.drew ?_ | refine Fr.alloc ?_ _))) (by first | omega | (simp; done) | (simp; omega)) ?_; intro g1 k1 cs1 W1 hg1 hcs1 hF1 hG1 hgw1 hgz1 hgn1; (try simp only [World.size_alloc, heap_drew0] at hgn1); have Hcs1 := Lib.hid hcs1; clear hcs1; have Q1 : Hid (W1.heap[q]? = some (.cells (rcells A ob hb oc hc al) 41 (0, 0))) := frB hG1 (by omega) (by (repeat (first | with_reducible exact H2.out | with_reducible exact H4.out | with_reducible exact H1.out | with_reducible exact Q1.out | with_reducible exact Q2.out | with_reducible exact hg1 | with_reducible exact hg2 | with_reducible refine drewB ?_ | (with_reducible refine alloc_at _ _ ?_; simp; done) | with_reducible refine allocB ?_ _ | (with_reducible refine frB hG1 ?_ ?_; omega) | (with_reducible refine frB hG2 ?_ ?_; omega)))); have qz1 : q < W1.heap.size := lt_of_heap Q1.out)
        | (refine step_clone w' (by rfl) (.tmp 19) (.tmp 23) 39 32 (.int .u64 0) 8 (by rfl) Try.underlying39 (by kernel_rfl) rfl (by omega) _ A.n hc hb ds (by rfl) (by rfl) (by (repeat (first | with_reducible exact H2.out | with_reducible exact H4.out | with_reducible exact H1.out | with_reducible exact Q1.out | with_reducible exact Q2.out | with_reducible exact hg1 | with_reducible exact hg2 | with_reducible refine drewB ?_ | (with_reducible refine alloc_at _ _ ?_; simp; done) | with_reducible refine allocB ?_ _ | (with_reducible refine frB hG1 ?_ ?_; omega) | (with_reducible refine frB hG2 ?_ ?_; omega)))) (by (repeat (first | with_reducible exact H2.out | with_reducible exact H4.out | with_reducible exact H1.out | with_reducible exact Q1.out | with_reducible exact Q2.out | with_reducible exact hg1 | with_reducible exact hg2 | with_reducible refine drewB ?_ | (with_reducible refine alloc_at _ _ ?_; simp; done) | with_reducible refine allocB ?_ _ | (with_reducible refine frB hG1 ?_ ?_; omega) | (with_reducible refine frB hG2 ?_ ?_; omega)))) (by omega) HH.out (by (repeat (first | exact Fr.refl _ _ | exact hF1 | exact hF2 | refine Fr.drew ?_ | refine Fr.alloc ?_ _))) (by first | omega | (simp; done) | (simp; omega)) ?_; intro g2 k2 cs2 W2 hg2 hcs2 hF2 hG2 hgw2 hgz2 hgn2; (try simp only [World.size_alloc, heap_drew0] at hgn2); have Hcs2 := Lib.hid hcs2; clear hcs2; have Q2 : Hid (W2.heap[q]? = some (.cells (rcells A ob hb oc hc al) 41 (0, 0))) := frB hG2 (by omega) (by (repeat (first | with_reducible exact H2.out | with_reducible exact H4.out | with_reducible exact H1.out | with_reducible exact Q1.out | with_reducible exact Q2.out | with_reducible exact hg1 | with_reducible exact hg2 | with_reducible refine drewB ?_ | (with_reducible refine alloc_at _ _ ?_; simp; done) | with_reducible refine allocB ?_ _ | (with_reducible refine frB hG1 ?_ ?_; omega) | (with_reducible refine frB hG2 ?_ ?_; omega)))); have qz2 : q < W2.heap.size := lt_of_heap Q2.out))
      all_goals
        go_wp2_with fail
        go_meet
        first
          | exact ⟨W2.heap.size, g1, g2, rfl, hF2.size, hgw1, hgw2, fresh_mem al0 al1 Al2.out H3.out H5.out (by (repeat (first | with_reducible exact H2.out | with_reducible exact H4.out | with_reducible exact H1.out | with_reducible exact Q1.out | with_reducible exact Q2.out | with_reducible exact hg1 | with_reducible exact hg2 | with_reducible refine drewB ?_ | (with_reducible refine alloc_at _ _ ?_; simp; done) | with_reducible refine allocB ?_ _ | (with_reducible refine frB hG1 ?_ ?_; omega) | (with_reducible refine frB hG2 ?_ ?_; omega)))) Hcs1.out hg2 Hcs2.out, hF2.alloc _⟩
          | exact ⟨W1.heap.size, g1, g2, rfl, hF1.size, hgw1, hgw2, fresh_mem al0 al1 Al2.out H3.out H5.out hg1 Hcs1.out (by (repeat (first | with_reducible exact H2.out | with_reducible exact H4.out | with_reducible exact H1.out | with_reducible exact Q1.out | with_reducible exact Q2.out | with_reducible exact hg1 | with_reducible exact hg2 | with_reducible refine drewB ?_ | (with_reducible refine alloc_at _ _ ?_; simp; done) | with_reducible refine allocB ?_ _ | (with_reducible refine frB hG1 ?_ ?_; omega) | (with_reducible refine frB hG2 ?_ ?_; omega)))) Hcs2.out, hF1.alloc _⟩
    case rest =>
      clear c0 c1 c2 c3 c4 HO HH H1 H2 H3 H4 H5 Al2
      obtain ⟨q2, o2, h2, rfl, hq2, ho2, hh2, hmF, hFx⟩ := hcut
      obtain ⟨hn1, hn2⟩ := late_no hl
      have hS := radvance_calls q2 o2 h2 A.fresh t t0 hn2 wc hA.fresh (by show A.events ≤ _; omega) hmF
      have core := (A.fresh_core).adv t
      have nF : (A.fresh.adv t).n = A.n := adv_n _ _
      have nA : (A.adv t).n = A.n := adv_n _ _
      have hT := fun W (hm : RMem W q ob hb A) => radvance_calls q ob hb A t t0 hn2 W hA (by omega) hm
      have hC := fun W (hm : RMem W q2 o2 h2 (A.fresh.adv t)) => rcounts_calls q2 o2 h2 (A.fresh.adv t) W (by omega) hm
      rw [core.ev, core.cnt] at hC
      have hcB : (A.adv t).cnt ≤ 32 := by have : (A.adv t).cnt ≤ (A.adv t).n := cntK_le _ _; omega
      have hr := Hr0.out
      have Hr := Lib.hid hr
      clear hr core nF hmF Hr0
      generalize A.fresh.adv t = F at hS hC
      generalize A.adv t = B at hT hC Hr nA hcB
      generalize hcm : B.cnt = m at hC Hr hcB
      have Hcm := Lib.hid hcm
      have HnA := Lib.hid nA
      have Hl := Lib.hid hl
      clear hcm nA hl
      have hT3 : Hid (∀ x, x ∈ [q2, o2, h2] → w'.heap.size ≤ x) := by
        intro x hx
        simp at hx
        rcases hx with rfl | rfl | rfl <;> assumption
      go_wp2_with fail
      refine hS.mono ?_
      clear hS
      rintro e w3 ⟨rfl, hm3, hf3⟩
      have hF3 : Fr [] w' w3 := hFx.new hf3 hT3.out
      clear hf3 hFx
      go_wp2_with fail
      refine (hC w3 hm3).mono ?_
      rintro e w4 ⟨rfl, rfl⟩
      clear hC hm3
      have hmq := HM.out.keep hF3 (by simp) (by simp) (by simp)
      by_cases hev : B.events = ev
      · cases m with
        | zero =>
          have hr2 : r = (0, { B with armed := true, rem := ev }) := by
            rw [Hr.out, if_neg]
            rintro (h | h)
            · exact h hev
            · omega
          have Hr2 := Lib.hid hr2
          have Hev := Lib.hid hev
          clear hr2 Hr hev
          go_wp2_with fail
          refine (hT _ hmq).mono ?_
          clear hT hmq
          rintro e w5 ⟨rfl, ⟨⟨oc5, hc5, al5, a0, a1, a2, s1⟩, ⟨cs5, s2, s3⟩, ds5, s4, s5⟩, hf5⟩
          have hF5 := (hF3.mono (T := [q, ob, hb]) (by simp)).trans hf5
          clear hf5 hF3
          have hqo : q ≠ ob := ne_of_type s1 s2 (by decide)
          have hqh : q ≠ hb := ne_of_type s1 s4 (by decide)
          have x5 : w5.cell? ⟨q, 5, none⟩ = some (.bool B.armed) := cellB s1 5
          have x6 : w5.cell? ⟨q, 6, none⟩ = some (.int .i64 B.rem) := cellB s1 6
          have y5 := frozenB s1 5
          have y6 := frozenB s1 6
          have S1 := Lib.hid s1
          have S2 := Lib.hid s2
          have S3 := Lib.hid s3
          have S4 := Lib.hid s4
          have S5 := Lib.hid s5
          have A2 := Lib.hid a2
          clear s1 s2 s3 s4 s5 a2
          go_wp2_with fail
          go_ret
          refine ⟨by rw [Hr2.out]; rfl, ?_, (hF5.setCell (Or.inl (by simp)) _).setCell (Or.inl (by simp)) _⟩
          rw [Hr2.out]
          refine ⟨⟨oc5, hc5, al5, a0, a1, A2.out, ?_⟩, ⟨cs5, setB_ne (setB_ne S2.out _ _ hqo) _ _ hqo, S3.out⟩, ds5, setB_ne (setB_ne S4.out _ _ hqh) _ _ hqh, S5.out⟩
          rw [setB (setB S1.out _ _)]
          rfl
        | succ m =>
          have hr2 : r = (17, A) := by rw [Hr.out, if_pos (Or.inr (by omega))]
          have Hr2 := Lib.hid hr2
          clear hr2 Hr
          go_wp2_with fail
          go_ret
          exact ⟨by rw [Hr2.out]; rfl, by rw [Hr2.out]; exact hmq, hF3.mono (by simp)⟩
      · have hr2 : r = (17, A) := by rw [Hr.out, if_pos (Or.inl hev)]
        have Hr2 := Lib.hid hr2
        clear hr2 Hr
        go_wp2_with fail
        go_ret
        exact ⟨by rw [Hr2.out]; rfl, by rw [Hr2.out]; exact hmq, hF3.mono (by simp)⟩
end Go.Proofs.Ytjdbhlmkcbgkjaa.Wk
