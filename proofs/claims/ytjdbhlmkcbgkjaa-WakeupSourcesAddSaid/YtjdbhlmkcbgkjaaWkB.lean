import Derived.Test.YtjdbhlmkcbgkjaaWkA
namespace Go.Proofs.Ytjdbhlmkcbgkjaa.Wk
open Go.RowKit Go.Proofs.YtjdbhlmkcbgkjaaW.PrintWords
set_option linter.unusedVariables false
set_option linter.unusedSimpArgs false

/-! ### The plain steps -/
def St.due (A : St) (t : Int) (i : Nat) : Bool := A.on i && (decide (0 < A.hold i) && decide (A.hold i - 1 ≤ t))
def adv1 (A : St) (t : Int) (i : Nat) : St := if A.due t i = true then { A with on := upd A.on i false, hold := upd A.hold i 0, events := A.events + 1 } else A
def advK (A : St) (t : Int) : Nat → St
  | 0 => { A with now := t }
  | k + 1 => adv1 (advK A t k) t k
def advL (B : St) (t : Int) : St := if B.set = true ∧ B.alarm ≤ t then { B with set := false, alarm := 0, events := B.events + 1 } else B
def St.adv (A : St) (t : Int) : St := advL (advK A t A.n) t

theorem adv1_n (A : St) (t : Int) (i : Nat) : (adv1 A t i).n = A.n := by unfold adv1; split <;> rfl
theorem advK_n (A : St) (t : Int) : ∀ k, (advK A t k).n = A.n
  | 0 => rfl
  | k + 1 => (adv1_n _ _ _).trans (advK_n A t k)

/-- The list with element k rewritten. -/
def set3 (ds : Array Value) (k : Nat) (o : Bool) (h : Int) : Array Value :=
  ((ds.setIfInBounds (k * 3) (.bool o)).setIfInBounds (k * 3 + 1) (.bool (decide (0 < h)))).setIfInBounds (k * 3 + 2) (.int .u64 (if 0 < h then h - 1 else 0))
theorem LCells.put {A B : St} {ds : Array Value} (h : LCells A ds) (k : Nat) (hk : k < A.n) (o : Bool) (x : Int) (hn : B.n = A.n) (ho : B.on = upd A.on k o) (hh : B.hold = upd A.hold k x) : LCells B (set3 ds k o x) := by
  have s2 : k * 3 + 2 < ds.size := (Array.getElem?_eq_some_iff.1 (h.hv k hk)).1
  constructor
  · intro i hi
    rw [hn] at hi
    rw [ho]
    unfold set3 upd
    by_cases e : i = k
    · subst e
      rw [Array.getElem?_setIfInBounds_ne (by omega), Array.getElem?_setIfInBounds_ne (by omega), Array.getElem?_setIfInBounds_self_of_lt (by omega)]
      simp
    · rw [Array.getElem?_setIfInBounds_ne (by omega), Array.getElem?_setIfInBounds_ne (by omega), Array.getElem?_setIfInBounds_ne (by omega), if_neg e]
      exact h.on i hi
  · intro i hi
    rw [hn] at hi
    unfold St.held
    rw [hh]
    unfold set3 upd
    by_cases e : i = k
    · subst e
      rw [Array.getElem?_setIfInBounds_ne (by omega), Array.getElem?_setIfInBounds_self_of_lt (by simp; omega)]
      simp
    · rw [Array.getElem?_setIfInBounds_ne (by omega), Array.getElem?_setIfInBounds_ne (by omega), Array.getElem?_setIfInBounds_ne (by omega), if_neg e]
      exact h.held i hi
  · intro i hi
    rw [hn] at hi
    unfold St.hv
    rw [hh]
    unfold set3 upd
    by_cases e : i = k
    · subst e
      rw [Array.getElem?_setIfInBounds_self_of_lt (by simp; omega)]
      simp
    · rw [Array.getElem?_setIfInBounds_ne (by omega), Array.getElem?_setIfInBounds_ne (by omega), Array.getElem?_setIfInBounds_ne (by omega), if_neg e]
      exact h.hv i hi
theorem LCells.same {A B : St} {ds : Array Value} (h : LCells A ds) (hn : B.n = A.n) (ho : B.on = A.on) (hh : B.hold = A.hold) : LCells B ds := by
  refine ⟨fun i hi => ?_, fun i hi => ?_, fun i hi => ?_⟩
  · rw [ho]; exact h.on i (hn ▸ hi)
  · unfold St.held; rw [hh]; exact h.held i (hn ▸ hi)
  · unfold St.hv; rw [hh]; exact h.hv i (hn ▸ hi)
theorem set3_heap {w : World} {lb : Nat} {ds : Array Value} (h : w.heap[lb]? = some (.cells ds 63 (0, 0))) (k : Nat) (o : Bool) (x : Int) (a b c : Value) (ha : a = .bool o) (hb : b = .bool (decide (0 < x))) (hc : c = .int .u64 (if 0 < x then x - 1 else 0)) :
    (((w.setCell ⟨lb, k * 3, none⟩ a).setCell ⟨lb, k * 3 + 1, none⟩ b).setCell ⟨lb, k * 3 + 2, none⟩ c).heap[lb]? = some (.cells (set3 ds k o x) 63 (0, 0)) := by
  subst ha hb hc
  exact setB (setB (setB h _ _) _ _) _ _

/-- The four ways of a source at time t. -/
theorem due_cases (A : St) (t : Int) (k : Nat) :
    (A.on k = false ∧ A.due t k = false) ∨ (A.on k = true ∧ A.held k = false ∧ A.due t k = false) ∨ (A.on k = true ∧ A.held k = true ∧ t < A.hv k ∧ A.due t k = false) ∨ (A.on k = true ∧ A.held k = true ∧ A.hv k ≤ t ∧ A.due t k = true) := by
  unfold St.due St.held St.hv
  by_cases h1 : A.on k = true
  · by_cases h2 : 0 < A.hold k
    · by_cases h3 : A.hold k - 1 ≤ t
      · right; right; right; simp [h1, h2, h3]
      · right; right; left; simp [h1, h2, h3]; omega
    · right; left; simp [h1, h2]
  · left; simp [h1]
theorem adv1_no {A : St} {t : Int} {k : Nat} (h : A.due t k = false) : adv1 A t k = A := by simp [adv1, h]
theorem adv1_yes {A : St} {t : Int} {k : Nat} (h : A.due t k = true) : adv1 A t k = { A with on := upd A.on k false, hold := upd A.hold k 0, events := A.events + 1 } := by simp [adv1, h]

theorem adv1_bounds (A : St) (t : Int) (i : Nat) : A.events ≤ (adv1 A t i).events ∧ (adv1 A t i).events ≤ A.events + 1 := by
  unfold adv1; split
  · exact ⟨by show A.events ≤ A.events + 1; omega, by show A.events + 1 ≤ A.events + 1; omega⟩
  · omega
theorem adv1_rest (A : St) (t : Int) (i : Nat) : (adv1 A t i).now = A.now ∧ (adv1 A t i).alarm = A.alarm ∧ (adv1 A t i).set = A.set ∧ (adv1 A t i).armed = A.armed ∧ (adv1 A t i).rem = A.rem := by
  unfold adv1; split <;> exact ⟨rfl, rfl, rfl, rfl, rfl⟩
theorem advK_bounds (A : St) (t : Int) : ∀ k : Nat, A.events ≤ (advK A t k).events ∧ (advK A t k).events ≤ A.events + k
  | 0 => ⟨by show A.events ≤ A.events; omega, by show A.events ≤ A.events + ((0 : Nat) : Int); omega⟩
  | k + 1 => by
    have h := advK_bounds A t k
    have g := adv1_bounds (advK A t k) t k
    show A.events ≤ (adv1 (advK A t k) t k).events ∧ (adv1 (advK A t k) t k).events ≤ _
    omega
theorem advK_rest (A : St) (t : Int) : ∀ k : Nat, (advK A t k).now = t ∧ (advK A t k).alarm = A.alarm ∧ (advK A t k).set = A.set ∧ (advK A t k).armed = A.armed ∧ (advK A t k).rem = A.rem
  | 0 => ⟨rfl, rfl, rfl, rfl, rfl⟩
  | k + 1 => by
    obtain ⟨h1, h2, h3, h4, h5⟩ := advK_rest A t k
    obtain ⟨g1, g2, g3, g4, g5⟩ := adv1_rest (advK A t k) t k
    exact ⟨g1.trans h1, g2.trans h2, g3.trans h3, g4.trans h4, g5.trans h5⟩
theorem advK_hold (A : St) (t : Int) (h0 : ∀ i, 0 ≤ A.hold i) (h1 : ∀ i, A.hold i ≤ 2305843009213693953) (hz : ∀ i, A.on i = false → A.hold i = 0) :
    ∀ k i : Nat, 0 ≤ (advK A t k).hold i ∧ (advK A t k).hold i ≤ 2305843009213693953 ∧ ((advK A t k).on i = false → (advK A t k).hold i = 0)
  | 0, i => ⟨h0 i, h1 i, hz i⟩
  | k + 1, i => by
    have h := advK_hold A t h0 h1 hz k i
    show 0 ≤ (adv1 (advK A t k) t k).hold i ∧ (adv1 (advK A t k) t k).hold i ≤ 2305843009213693953 ∧ ((adv1 (advK A t k) t k).on i = false → (adv1 (advK A t k) t k).hold i = 0)
    unfold adv1
    split
    · simp only [upd]
      by_cases e : i = k
      · simp [e]
      · simp only [if_neg e]; exact h
    · exact h
theorem St.Ok.adv {A : St} (h : A.Ok) {t : Int} (t0 : 0 ≤ t) (t1 : t ≤ 1152921504606846976) : (A.adv t).Ok := by
  have hb := advK_bounds A t A.n
  have hr := advK_rest A t A.n
  have hh := advK_hold A t h.hd0 h.hd1 h.hdz A.n
  have hn := advK_n A t A.n
  unfold St.adv
  generalize advK A t A.n = B at *
  obtain ⟨r1, r2, r3, r4, r5⟩ := hr
  have e0 := h.ev0
  unfold advL
  split
  · exact ⟨by show B.n ≤ 32; rw [hn]; exact h.n, by show 0 ≤ B.now; omega, by show B.now ≤ _; omega, by show 0 ≤ B.events + 1; omega, by show (0 : Int) ≤ 0; omega, by show (0 : Int) ≤ _; omega, fun _ => rfl, fun i => (hh i).1, fun i => (hh i).2.1, fun i => (hh i).2.2, by show _ ≤ B.rem; rw [r5]; exact h.rem0, by show B.rem < _; rw [r5]; exact h.rem1⟩
  · exact ⟨by rw [hn]; exact h.n, by omega, by omega, by omega, by rw [r2]; exact h.al0, by rw [r2]; exact h.al1, fun e => by rw [r2]; exact h.alz (r3 ▸ e), fun i => (hh i).1, fun i => (hh i).2.1, fun i => (hh i).2.2, by rw [r5]; exact h.rem0, by rw [r5]; exact h.rem1⟩
theorem adv_bounds (A : St) (t : Int) : A.events ≤ (A.adv t).events ∧ (A.adv t).events ≤ A.events + A.n + 1 := by
  have hb := advK_bounds A t A.n
  unfold St.adv advL
  split
  · show A.events ≤ (advK A t A.n).events + 1 ∧ (advK A t A.n).events + 1 ≤ _
    omega
  · omega
theorem adv_n (A : St) (t : Int) : (A.adv t).n = A.n := by
  unfold St.adv advL
  split
  · exact advK_n A t A.n
  · exact advK_n A t A.n

set_option maxHeartbeats 1600000 in
set_option maxRecDepth 100000 in
theorem advance_calls (p lb : Nat) (A : St) (t : Int) (t0 : 0 ≤ t) (t1 : t ≤ 1152921504606846976) (w : World) (hA : A.Ok) (he : A.events ≤ 1000000000) (hm : PMem w p lb A) :
    Calls Try.prog 37 #[.pointer (some ⟨p, 0, none⟩), .int .u64 t] w fun e w' => e = .returned (.tuple #[]) ∧ PMem w' p lb (A.adv t) ∧ Fr [p, lb] w w' := by
  have HM := Lib.hid hm
  obtain ⟨⟨cap, h1⟩, cs, h2, h3⟩ := hm
  have hn := hA.n
  have c0 : w.cell? ⟨p, 0, none⟩ = some (.slice (some ⟨lb, 0, none⟩) A.n cap) := cellB h1 0
  have f1 := frozenB h1 1
  have c1 : w.cell? ⟨p, 1, none⟩ = some (.int .u64 A.now) := cellB h1 1
  go_enter Try.func37, Try.ntmps37
  go_wp2_with fail
  go_loopw [15] (fun c wr => ∃ k : Nat, k ≤ A.n ∧ c = .int .i64 k ∧ PMem wr p lb (advK A t k) ∧ Fr [p, lb] w wr)
      (fun c _ => A.n - (intOf c).toNat)
  case atStart =>
    have hpl : p ≠ lb := ne_of_type h1 h2 (by decide)
    refine ⟨0, by omega, rfl, ⟨⟨cap, setB h1 _ _⟩, cs, setB_ne h2 _ _ hpl, h3.same rfl rfl rfl⟩, (Fr.refl _ _).setCell (Or.inl (by simp)) _⟩
  case round =>
    obtain ⟨k, hk, rfl, hrel, hfr⟩ := hrel
    by_cases hlt : k < A.n
    · have hnB := advK_n A t k
      have hbB := advK_bounds A t k
      have heA := hA.ev0
      have hsB : advK A t (k + 1) = adv1 (advK A t k) t k := rfl
      have HsB := Lib.hid hsB
      clear hsB
      generalize advK A t k = B at hrel hnB hbB HsB
      have hltB : k < B.n := by omega
      have HnB := Lib.hid hnB
      clear hnB
      obtain ⟨⟨cap', g1⟩, ds, g2, g3⟩ := hrel
      have d0 : wr.cell? ⟨lb, k * 3, none⟩ = some (.bool (B.on k)) := (cellB g2 _).trans (g3.on k hltB)
      have d1 : wr.cell? ⟨lb, k * 3 + 1, none⟩ = some (.bool (B.held k)) := (cellB g2 _).trans (g3.held k hltB)
      have d2 : wr.cell? ⟨lb, k * 3 + 2, none⟩ = some (.int .u64 (B.hv k)) := (cellB g2 _).trans (g3.hv k hltB)
      have nz := lt_of_heap g1
      have nz2 := lt_of_heap g2
      go_upto_region 4 with (fail)
      obtain ⟨W, hW⟩ : ∃ W, W = wr.alloc (Obj.cells #[Value.bool (B.on k), Value.bool (B.held k), Value.int IntKind.u64 (B.hv k)] 63) := ⟨_, rfl⟩
      have gN : W.heap[wr.heap.size]? = some (Obj.cells #[Value.bool (B.on k), Value.bool (B.held k), Value.int IntKind.u64 (B.hv k)] 63 (0, 0)) := by rw [hW]; exact heap_alloc_new _ _
      have e1 : W.heap[p]? = some (.cells (pcells B lb cap') 60 (0, 0)) := by rw [hW]; exact allocB g1 _
      have e2 : W.heap[lb]? = some (.cells ds 63 (0, 0)) := by rw [hW]; exact allocB g2 _
      have eF : Fr [p, lb] w W := by rw [hW]; exact hfr.alloc _
      have hpl : p ≠ lb := ne_of_type g1 g2 (by decide)
      rw [← hW]
      clear hW d0 d1 d2
      generalize wr.heap.size = N at gN nz nz2 ⊢
      have d0 : W.cell? ⟨N, 0, none⟩ = some (.bool (B.on k)) := cellB gN 0
      have d1 : W.cell? ⟨N, 1, none⟩ = some (.bool (B.held k)) := cellB gN 1
      have d2 : W.cell? ⟨N, 2, none⟩ = some (.int .u64 (B.hv k)) := cellB gN 2
      have p0 : W.cell? ⟨p, 0, none⟩ = some (.slice (some ⟨lb, 0, none⟩) B.n cap') := cellB e1 0
      clear gN g1 g2
      rcases due_cases B t k with ⟨ho, hd⟩ | ⟨ho, hh, hd⟩ | ⟨ho, hh, hv, hd⟩ | ⟨ho, hh, hv, hd⟩
      · rw [ho] at d0
        have Hd := Lib.hid hd
        clear ho hd d1 d2
        go_wp2_with fail
        go_roundw
        case rel => exact ⟨k + 1, by omega, by go_num, by rw [HsB.out, adv1_no Hd.out]; exact ⟨⟨cap', e1⟩, ds, e2, g3⟩, eF⟩
        case measure => simp [intOf]; omega
      · rw [ho] at d0
        rw [hh] at d1
        have Hd := Lib.hid hd
        clear ho hh hd d2
        go_wp2_with fail
        go_roundw
        case rel => exact ⟨k + 1, by omega, by go_num, by rw [HsB.out, adv1_no Hd.out]; exact ⟨⟨cap', e1⟩, ds, e2, g3⟩, eF⟩
        case measure => simp [intOf]; omega
      · rw [ho] at d0
        rw [hh] at d1
        have Hd := Lib.hid hd
        clear ho hh hd
        go_wp2_with fail
        go_roundw
        case rel => exact ⟨k + 1, by omega, by go_num, by rw [HsB.out, adv1_no Hd.out]; exact ⟨⟨cap', e1⟩, ds, e2, g3⟩, eF⟩
        case measure => simp [intOf]; omega
      · rw [ho] at d0
        rw [hh] at d1
        have Hd := Lib.hid hd
        have q0 : W.cell? ⟨lb, k * 3, none⟩ = some (.bool (B.on k)) := (cellB e2 _).trans (g3.on k hltB)
        have q1 : W.cell? ⟨lb, k * 3 + 1, none⟩ = some (.bool (B.held k)) := (cellB e2 _).trans (g3.held k hltB)
        have q2 : W.cell? ⟨lb, k * 3 + 2, none⟩ = some (.int .u64 (B.hv k)) := (cellB e2 _).trans (g3.hv k hltB)
        have y0 := frozenB e2 (k * 3)
        have y1 := frozenB e2 (k * 3 + 1)
        have y2 := frozenB e2 (k * 3 + 2)
        clear ho hh hd
        go_upto_region 6 with (fail)
        have z2 := set3_heap e2 k false 0 (.bool false) (.bool false) (.int .u64 0) rfl rfl rfl
        have z1 := setB_ne (setB_ne (setB_ne e1 ⟨lb, k * 3, none⟩ (.bool false) hpl.symm) ⟨lb, k * 3 + 1, none⟩ (.bool false) hpl.symm) ⟨lb, k * 3 + 2, none⟩ (.int .u64 0) hpl.symm
        have zF := ((eF.setCell (p := ⟨lb, k * 3, none⟩) (Or.inl (by simp)) (.bool false)).setCell (p := ⟨lb, k * 3 + 1, none⟩) (Or.inl (by simp)) (.bool false)).setCell (p := ⟨lb, k * 3 + 2, none⟩) (Or.inl (by simp)) (.int .u64 0)
        clear q0 q1 q2 y0 y1 y2 d0 d1 d2 p0 e1 e2 eF
        generalize ((W.setCell ⟨lb, k * 3, none⟩ (.bool false)).setCell ⟨lb, k * 3 + 1, none⟩ (.bool false)).setCell ⟨lb, k * 3 + 2, none⟩ (.int .u64 0) = V at z1 z2 zF ⊢
        have v2 : V.cell? ⟨p, 2, none⟩ = some (.int .i64 B.events) := cellB z1 2
        have y2 := frozenB z1 2
        obtain ⟨hb0, hb1⟩ := hbB
        have hB0 : 0 ≤ B.events := by omega
        have hB1 : B.events ≤ 1000000040 := by omega
        go_wp2_with fail
        go_roundw
        case rel =>
          refine ⟨k + 1, by omega, by go_num, ?_, zF.setCell (Or.inl (by simp)) _⟩
          rw [HsB.out, adv1_yes Hd.out]
          refine ⟨⟨cap', ?_⟩, _, setB_ne z2 _ _ hpl, g3.put k hltB false 0 rfl rfl rfl⟩
          rw [setB z1]
          rfl
        case measure => simp [intOf]; omega
    · have hkn : k = A.n := by omega
      subst hkn
      have hbB := advK_bounds A t A.n
      have hrB := advK_rest A t A.n
      have hnB := advK_n A t A.n
      have heA := hA.ev0
      have hsB : A.adv t = advL (advK A t A.n) t := rfl
      have HsB := Lib.hid hsB
      clear hsB
      generalize advK A t A.n = B at hrel hnB hbB HsB hrB
      obtain ⟨hr1, hr2, hr3, hr4, hr5⟩ := hrB
      have ha0 : 0 ≤ B.alarm := by have := hA.al0; omega
      have ha1 : B.alarm ≤ 1152921504606846976 := by have := hA.al1; omega
      clear hr1 hr2 hr3 hr4 hr5
      have HnB := Lib.hid hnB
      clear hnB
      obtain ⟨⟨cap', g1⟩, ds, g2, g3⟩ := hrel
      have hpl : p ≠ lb := ne_of_type g1 g2 (by decide)
      have d2 : wr.cell? ⟨p, 2, none⟩ = some (.int .i64 B.events) := cellB g1 2
      have d3 : wr.cell? ⟨p, 3, none⟩ = some (.int .u64 B.alarm) := cellB g1 3
      have d4 : wr.cell? ⟨p, 4, none⟩ = some (.bool B.set) := cellB g1 4
      have y2 := frozenB g1 2
      have y3 := frozenB g1 3
      have y4 := frozenB g1 4
      obtain ⟨hb0, hb1⟩ := hbB
      have hB0 : 0 ≤ B.events := by omega
      have hB1 : B.events ≤ 1000000040 := by omega
      clear hb0 hb1
      cases hs : B.set with
      | false =>
        rw [hs] at d4
        have Hs := Lib.hid hs
        clear hs
        go_wp2_with fail
        go_end0
        refine ⟨rfl, ?_, hfr⟩
        have e : A.adv t = B := by rw [HsB.out]; unfold advL; rw [if_neg (by rw [Hs.out]; simp)]
        rw [e]
        exact ⟨⟨cap', g1⟩, ds, g2, g3⟩
      | true =>
        rw [hs] at d4
        have Hs := Lib.hid hs
        clear hs
        by_cases hle : B.alarm ≤ t
        · go_wp2_with fail
          go_end0
          refine ⟨rfl, ?_, ((hfr.setCell (Or.inl (by simp)) _).setCell (Or.inl (by simp)) _).setCell (Or.inl (by simp)) _⟩
          have e : A.adv t = { B with set := false, alarm := 0, events := B.events + 1 } := by rw [HsB.out]; unfold advL; rw [if_pos ⟨Hs.out, hle⟩]
          rw [e]
          refine ⟨⟨cap', ?_⟩, ds, setB_ne (setB_ne (setB_ne g2 _ _ hpl) _ _ hpl) _ _ hpl, g3.same rfl rfl rfl⟩
          rw [setB (setB (setB g1 _ _) _ _)]
          rfl
        · go_wp2_with fail
          go_end0
          refine ⟨rfl, ?_, hfr⟩
          have e : A.adv t = B := by rw [HsB.out]; unfold advL; rw [if_neg (by rintro ⟨_, h⟩; omega)]
          rw [e]
          exact ⟨⟨cap', g1⟩, ds, g2, g3⟩
end Go.Proofs.Ytjdbhlmkcbgkjaa.Wk
