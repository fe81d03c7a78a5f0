import Derived.Test.YtjdbhlmkcbgkjaaWkI
namespace Go.Proofs.Ytjdbhlmkcbgkjaa.Wk
open Go.RowKit Go.Proofs.YtjdbhlmkcbgkjaaW.PrintWords
set_option linter.unusedVariables false
set_option linter.unusedSimpArgs false

theorem due_cases2 (A : St) (t : Int) (k : Nat) (h0 : 0 ≤ A.hold k) :
    (A.on k = false ∧ A.due t k = false) ∨ (A.on k = true ∧ A.hold k ≤ 0 ∧ A.due t k = false) ∨ (A.on k = true ∧ 0 < A.hold k ∧ t < A.hold k - 1 ∧ A.due t k = false) ∨ (A.on k = true ∧ 0 < A.hold k ∧ A.hold k - 1 ≤ t ∧ A.due t k = true) := by
  unfold St.due
  by_cases h1 : A.on k = true
  · by_cases h2 : 0 < A.hold k
    · by_cases h3 : A.hold k - 1 ≤ t
      · right; right; right; simp [h1, h2, h3]
      · right; right; left; simp [h1, h2, h3]; omega
    · right; left; simp [h1, h2]; omega
  · left; simp [h1]

/-- The reference's lists. -/
def OCells (A : St) (cs : Array Value) : Prop := ∀ i, i < A.n → cs[i]? = some (.bool (A.on i))
def HCells (A : St) (cs : Array Value) : Prop := ∀ i, i < A.n → ∃ h, cs[i]? = some (.int .u64 h) ∧ 0 ≤ h ∧ h ≤ 2305843009213693953 ∧ (A.on i = true → h = A.hold i)
theorem OCells.put {A B : St} {cs : Array Value} (h : OCells A cs) (k : Nat) (hk : k < A.n) (b : Bool) (hn : B.n = A.n) (ho : B.on = upd A.on k b) : OCells B (cs.setIfInBounds k (.bool b)) := by
  intro i hi
  rw [hn] at hi
  have hs := (Array.getElem?_eq_some_iff.1 (h k hk)).1
  rw [ho]
  unfold upd
  by_cases e : i = k
  · subst e; rw [Array.getElem?_setIfInBounds_self_of_lt hs, if_pos rfl]
  · rw [Array.getElem?_setIfInBounds_ne (fun h => e h.symm), if_neg e]; exact h i hi
theorem OCells.same {A B : St} {cs : Array Value} (h : OCells A cs) (hn : B.n = A.n) (ho : B.on = A.on) : OCells B cs := by
  intro i hi; rw [hn] at hi; rw [ho]; exact h i hi
theorem HCells.put {A B : St} {cs : Array Value} (h : HCells A cs) (k : Nat) (hk : k < A.n) (x : Int) (x0 : 0 ≤ x) (x1 : x ≤ 2305843009213693953) (b : Bool) (hn : B.n = A.n) (ho : B.on = upd A.on k b) (hh : B.hold = upd A.hold k x) : HCells B (cs.setIfInBounds k (.int .u64 x)) := by
  intro i hi
  rw [hn] at hi
  obtain ⟨v, hv, _⟩ := h k hk
  have hs := (Array.getElem?_eq_some_iff.1 hv).1
  rw [ho, hh]
  unfold upd
  by_cases e : i = k
  · subst e; exact ⟨x, by rw [Array.getElem?_setIfInBounds_self_of_lt hs], x0, x1, fun _ => by rw [if_pos rfl]⟩
  · rw [Array.getElem?_setIfInBounds_ne (fun h => e h.symm), if_neg e, if_neg e]; exact h i hi
/-- A source that goes off keeps its stale hold. -/
theorem HCells.off {A B : St} {cs : Array Value} (h : HCells A cs) (k : Nat) (x : Int) (hn : B.n = A.n) (ho : B.on = upd A.on k false) (hh : B.hold = upd A.hold k x) : HCells B cs := by
  intro i hi
  rw [hn] at hi
  obtain ⟨v, hv, v0, v1, v2⟩ := h i hi
  refine ⟨v, hv, v0, v1, ?_⟩
  rw [ho, hh]
  unfold upd
  by_cases e : i = k
  · rw [if_pos e]; intro h; cases h
  · rw [if_neg e, if_neg e]; exact v2
theorem HCells.same {A B : St} {cs : Array Value} (h : HCells A cs) (hn : B.n = A.n) (ho : B.on = A.on) (hh : B.hold = A.hold) : HCells B cs := by
  intro i hi; rw [hn] at hi; rw [ho, hh]; exact h i hi

set_option maxHeartbeats 1600000 in
set_option maxRecDepth 100000 in
theorem radvance_calls (q ob hb : Nat) (A : St) (t : Int) (t0 : 0 ≤ t) (t1 : t ≤ 1152921504606846976) (w : World) (hA : A.Ok) (he : A.events ≤ 1000000000) (hm : RMem w q ob hb A) :
    Calls Try.prog 41 #[.pointer (some ⟨q, 0, none⟩), .int .u64 t] w fun e w' => e = .returned (.tuple #[]) ∧ RMem w' q ob hb (A.adv t) ∧ Fr [q, ob, hb] w w' := by
  have HM := Lib.hid hm
  obtain ⟨⟨oc, hc, al, al0, al1, al2, h1⟩, ⟨cs, h2, h3⟩, ds, h4, h5⟩ := hm
  have hn := hA.n
  have c7 : w.cell? ⟨q, 7, none⟩ = some (.int .u64 A.now) := cellB h1 7
  have f7 := frozenB h1 7
  have hqo : q ≠ ob := ne_of_type h1 h2 (by decide)
  have hqh : q ≠ hb := ne_of_type h1 h4 (by decide)
  have hoh : ob ≠ hb := ne_of_type h2 h4 (by decide)
  go_enter Try.func41, Try.ntmps41
  go_wp2_with fail
  go_loopw [4] (fun c wr => ∃ k : Nat, k ≤ A.n ∧ c = .int .i64 k ∧ RMem wr q ob hb (advK A t k) ∧ Fr [q, ob, hb] w wr)
      (fun c _ => A.n - (intOf c).toNat)
  case atStart =>
    refine ⟨0, by omega, rfl, ⟨⟨oc, hc, al, al0, al1, al2, ?_⟩, ⟨cs, setB_ne h2 _ _ hqo, h3⟩, ds, setB_ne h4 _ _ hqh, h5⟩, (Fr.refl _ _).setCell (Or.inl (by simp)) _⟩
    rw [setB h1]
    rfl
  case round =>
    clear c7 f7 al0 al1 al2 h1 h2 h3 h4 h5
    obtain ⟨k, hk, rfl, hrel, hfr⟩ := hrel
    by_cases hlt : k < A.n
    · have hnB := advK_n A t k
      have hbB := advK_bounds A t k
      have hhB := advK_hold A t hA.hd0 hA.hd1 hA.hdz k k
      have heA := hA.ev0
      have hsB : advK A t (k + 1) = adv1 (advK A t k) t k := rfl
      have HsB := Lib.hid hsB
      clear hsB
      generalize advK A t k = B at hrel hnB hbB HsB hhB
      have hltB : k < B.n := by omega
      obtain ⟨⟨oc', hc', al', al0, al1, al2, g1⟩, ⟨cs, g2, g3⟩, ds, g4, g5⟩ := hrel
      have Al2 := Lib.hid al2
      clear al2
      obtain ⟨hv, g6, hv0, hv1, hv2⟩ := g5 k hltB
      have Hv2 := Lib.hid hv2
      clear hv2
      have d0 : wr.cell? ⟨q, 0, none⟩ = some (.slice (some ⟨ob, 0, none⟩) A.n oc') := by rw [← hnB]; exact cellB g1 0
      have d1 : wr.cell? ⟨q, 1, none⟩ = some (.slice (some ⟨hb, 0, none⟩) A.n hc') := by rw [← hnB]; exact cellB g1 1
      have d4 : wr.cell? ⟨q, 4, none⟩ = some (.int .i64 B.events) := cellB g1 4
      have x0 : wr.cell? ⟨ob, k, none⟩ = some (.bool (B.on k)) := (cellB g2 _).trans (g3 k hltB)
      have x1 : wr.cell? ⟨hb, k, none⟩ = some (.int .u64 hv) := (cellB g4 _).trans g6
      have HnB := Lib.hid hnB
      clear hnB
      have G1 := Lib.hid g1
      have G2 := Lib.hid g2
      have G3 := Lib.hid g3
      have G4 := Lib.hid g4
      have G5 := Lib.hid g5
      clear g1 g2 g3 g4 g5 g6
      obtain ⟨hh0, hh1, hh2⟩ := hhB
      clear hh2
      have R0 : B.due t k = false → RMem wr q ob hb (advK A t (k + 1)) := fun h => by
        rw [HsB.out, adv1_no h]
        exact ⟨⟨oc', hc', al', al0, al1, Al2.out, G1.out⟩, ⟨cs, G2.out, G3.out⟩, ds, G4.out, G5.out⟩
      rcases due_cases2 B t k hh0 with ⟨ho, hd⟩ | ⟨ho, hh, hd⟩ | ⟨ho, hh, hw, hd⟩ | ⟨ho, hh, hw, hd⟩
      · have R := R0 hd
        rw [ho] at x0
        clear ho hd R0
        go_wp2_with fail
        go_roundw
        case rel => exact ⟨k + 1, by omega, by go_num, R, hfr⟩
        case measure => simp [intOf]; omega
      · have R := R0 hd
        rw [ho] at x0
        have hvv := Hv2.out ho
        subst hvv
        clear ho hd R0
        go_wp2_with fail
        go_roundw
        case rel => exact ⟨k + 1, by omega, by go_num, R, hfr⟩
        case measure => simp [intOf]; omega
      · have R := R0 hd
        rw [ho] at x0
        have hvv := Hv2.out ho
        subst hvv
        clear ho hd R0
        go_wp2_with fail
        go_roundw
        case rel => exact ⟨k + 1, by omega, by go_num, R, hfr⟩
        case measure => simp [intOf]; omega
      · rw [ho] at x0
        have hvv := Hv2.out ho
        subst hvv
        have Hd := Lib.hid hd
        clear ho hd R0
        have y0 := frozenB G2.out k
        have y4 := frozenB G1.out 4
        obtain ⟨hb0, hb1⟩ := hbB
        have hB0 : 0 ≤ B.events := by omega
        have hB1 : B.events ≤ 1000000040 := by omega
        clear hb0 hb1
        go_wp2_with fail
        go_roundw
        case rel =>
          refine ⟨k + 1, by omega, by go_num, ?_, (hfr.setCell (Or.inl (by simp)) _).setCell (Or.inl (by simp)) _⟩
          rw [HsB.out, adv1_yes Hd.out]
          refine ⟨⟨oc', hc', al', al0, al1, Al2.out, ?_⟩, ⟨_, setB_ne (setB G2.out _ _) _ _ hqo, OCells.put G3.out k hltB false rfl rfl⟩, ds, setB_ne (setB_ne G4.out _ _ hoh) _ _ hqh, HCells.off G5.out k 0 rfl rfl rfl⟩
          rw [setB (setB_ne G1.out _ _ hqo.symm)]
          rfl
        case measure => simp [intOf]; omega
    · have hkn : k = A.n := by omega
      subst hkn
      have hbB := advK_bounds A t A.n
      have hrB := advK_rest A t A.n
      have hnB := advK_n A t A.n
      have heA := hA.ev0
      have hsB : A.adv t = advL (advK A t A.n) t := rfl
      have HsB := Lib.hid hsB
      clear hsB
      generalize advK A t A.n = B at hrel hnB hbB HsB hrB
      obtain ⟨hr1, hr2, hr3, hr4, hr5⟩ := hrB
      clear hr1 hr3 hr4 hr5 hr2
      obtain ⟨⟨oc', hc', al', al0, al1, al2, g1⟩, ⟨cs, g2, g3⟩, ds, g4, g5⟩ := hrel
      have d0 : wr.cell? ⟨q, 0, none⟩ = some (.slice (some ⟨ob, 0, none⟩) A.n oc') := by rw [← hnB]; exact cellB g1 0
      have HnB := Lib.hid hnB
      clear hnB
      have d2 : wr.cell? ⟨q, 2, none⟩ = some (.int .u64 al') := cellB g1 2
      have d3 : wr.cell? ⟨q, 3, none⟩ = some (.bool B.set) := cellB g1 3
      have d4 : wr.cell? ⟨q, 4, none⟩ = some (.int .i64 B.events) := cellB g1 4
      have y3 := frozenB g1 3
      have y4 := frozenB g1 4
      obtain ⟨hb0, hb1⟩ := hbB
      have hB0 : 0 ≤ B.events := by omega
      have hB1 : B.events ≤ 1000000040 := by omega
      clear hb0 hb1
      have Al2 := Lib.hid al2
      clear al2
      have G1 := Lib.hid g1
      have G2 := Lib.hid g2
      have G3 := Lib.hid g3
      have G4 := Lib.hid g4
      have G5 := Lib.hid g5
      clear g1 g2 g3 g4 g5
      cases hs : B.set with
      | false =>
        rw [hs] at d3
        have Hs := Lib.hid hs
        clear hs
        go_wp2_with fail
        go_end0
        refine ⟨rfl, ?_, hfr⟩
        have e : A.adv t = B := by rw [HsB.out]; unfold advL; rw [if_neg (by rw [Hs.out]; simp)]
        rw [e]
        exact ⟨⟨oc', hc', al', al0, al1, Al2.out, G1.out⟩, ⟨cs, G2.out, G3.out⟩, ds, G4.out, G5.out⟩
      | true =>
        rw [hs] at d3
        have hal := Al2.out hs
        subst hal
        have Hs := Lib.hid hs
        clear hs
        by_cases hle : B.alarm ≤ t
        · go_wp2_with fail
          go_end0
          refine ⟨rfl, ?_, (hfr.setCell (Or.inl (by simp)) _).setCell (Or.inl (by simp)) _⟩
          have e : A.adv t = { B with set := false, alarm := 0, events := B.events + 1 } := by rw [HsB.out]; unfold advL; rw [if_pos ⟨Hs.out, hle⟩]
          rw [e]
          refine ⟨⟨oc', hc', B.alarm, al0, al1, fun h => Bool.noConfusion h, ?_⟩, ⟨cs, setB_ne (setB_ne G2.out _ _ hqo) _ _ hqo, OCells.same G3.out rfl rfl⟩, ds, setB_ne (setB_ne G4.out _ _ hqh) _ _ hqh, HCells.same G5.out rfl rfl rfl⟩
          rw [setB (setB G1.out _ _)]
          rfl
        · go_wp2_with fail
          go_end0
          refine ⟨rfl, ?_, hfr⟩
          have e : A.adv t = B := by rw [HsB.out]; unfold advL; rw [if_neg (by rintro ⟨_, h⟩; omega)]
          rw [e]
          exact ⟨⟨oc', hc', B.alarm, al0, al1, fun _ => rfl, G1.out⟩, ⟨cs, G2.out, G3.out⟩, ds, G4.out, G5.out⟩
end Go.Proofs.Ytjdbhlmkcbgkjaa.Wk
