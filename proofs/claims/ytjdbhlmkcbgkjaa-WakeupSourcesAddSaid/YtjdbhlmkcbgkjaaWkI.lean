import Derived.Test.YtjdbhlmkcbgkjaaWkH
namespace Go.Proofs.Ytjdbhlmkcbgkjaa.Wk
open Go.RowKit Go.Proofs.YtjdbhlmkcbgkjaaW.PrintWords
set_option linter.unusedVariables false
set_option linter.unusedSimpArgs false

/-- A part that changes new blocks alone. -/
theorem Fr.new {S T : List Nat} {a w w' : World} (h : Fr S a w) (k : Fr T w w') (hT : ∀ x, x ∈ T → a.heap.size ≤ x) : Fr S a w' :=
  ⟨k.os.trans h.os, k.tape.trans h.tape, k.output.trans h.output, Nat.le_trans h.size k.size, fun i hi hn => (k.block i (Nat.lt_of_lt_of_le hi h.size) (fun e => by have := hT i e; omega)).trans (h.block i hi hn)⟩

set_option maxHeartbeats 1600000 in
set_option maxRecDepth 100000 in
theorem arm_calls (p lb : Nat) (A : St) (ev t : Int) (e0 : -9223372036854775808 ≤ ev) (e1 : ev < 9223372036854775808) (t0 : 0 ≤ t) (t1 : t < 18446744073709551616) (w : World) (hA : A.Ok) (he : A.events ≤ 900000000) (hm : PMem w p lb A) :
    Calls Try.prog 25 #[.pointer (some ⟨p, 0, none⟩), .int .i64 ev, .int .u64 t] w fun e w' => ∃ lb', (lb' = lb ∨ w.heap.size ≤ lb') ∧ e = .returned (.int .i64 (A.Arm ev t).1) ∧ PMem w' p lb' (A.Arm ev t).2 ∧ Fr [p] w w' := by
  have hpb : p < w.heap.size := by obtain ⟨⟨cap, h1⟩, _⟩ := hm; exact lt_of_heap h1
  have hS := fun q g W (hm : PMem W q g A) => startAll_calls q g A t t0 t1 W hA (by omega) hm
  have hn := hA.n
  have HM := Lib.hid hm
  obtain ⟨⟨cap, h1⟩, cs, h2, h3⟩ := hm
  have c0 : w.cell? ⟨p, 0, none⟩ = some (.slice (some ⟨lb, 0, none⟩) A.n cap) := cellB h1 0
  have c1 : w.cell? ⟨p, 1, none⟩ = some (.int .u64 A.now) := cellB h1 1
  have c2 : w.cell? ⟨p, 2, none⟩ = some (.int .i64 A.events) := cellB h1 2
  have c3 : w.cell? ⟨p, 3, none⟩ = some (.int .u64 A.alarm) := cellB h1 3
  have c4 : w.cell? ⟨p, 4, none⟩ = some (.bool A.set) := cellB h1 4
  have c5 : w.cell? ⟨p, 5, none⟩ = some (.bool A.armed) := cellB h1 5
  have c6 : w.cell? ⟨p, 6, none⟩ = some (.int .i64 A.rem) := cellB h1 6
  obtain ⟨r, hr⟩ : ∃ r, r = A.Arm ev t := ⟨_, rfl⟩
  rw [← hr]
  have Hr := Lib.hid hr
  clear hr
  go_enter Try.func25, Try.ntmps25
  go_upto_region 2 with (fail)
  obtain ⟨q, hq⟩ : ∃ q, q = w.heap.size := ⟨_, rfl⟩
  rw [← hq]
  obtain ⟨W1, hW1⟩ : ∃ W1, W1 = w.alloc (.cells (pcells A lb cap) 60) := ⟨_, rfl⟩
  have hW1' := hW1
  simp only [pcells] at hW1'
  rw [← hW1']
  have k1 : W1.heap[p]? = some (.cells (pcells A lb cap) 60 (0, 0)) := by rw [hW1]; exact allocB h1 _
  have k2 : W1.heap[lb]? = some (.cells cs 63 (0, 0)) := by rw [hW1]; exact allocB h2 _
  have k3 : W1.heap[q]? = some (.cells (pcells A lb cap) 60 (0, 0)) := by rw [hW1, hq]; exact heap_alloc_new _ _
  have kF : Fr [] w W1 := by rw [hW1]; exact (Fr.refl _ _).alloc _
  clear hW1 hW1' c1 c2 c3 c4 c5 c6
  have d0 : W1.cell? ⟨p, 0, none⟩ = some (.slice (some ⟨lb, 0, none⟩) A.n cap) := cellB k1 0
  clear c0
  have K2 := Lib.hid k2
  have K1 := Lib.hid k1
  have H3 := Lib.hid h3
  have Hq := Lib.hid hq
  clear k2 k1 h3 h1 h2 hq
  go_wp2_with fail
  refine (clone_calls lb cap A hn W1 cs K2.out H3.out).mono ?_
  rintro e W2 ⟨g, c, ds, hg, rfl, g1, g2, gF⟩
  have m1 : W2.heap[q]? = some (.cells (pcells A lb cap) 60 (0, 0)) := gF.at k3
  have m0 : W2.cell? ⟨q, 0, none⟩ = some (.slice (some ⟨lb, 0, none⟩) A.n cap) := cellB m1 0
  have y0 := frozenB m1 0
  clear k3 d0
  go_upto_region 3 with (fail)
  have hqg : q ≠ g := ne_of_type m1 g1 (by decide)
  have n3 : PMem (W2.setCell ⟨q, 0, none⟩ (.slice (some ⟨g, 0, none⟩) A.n c)) q g A := by
    refine ⟨⟨c, ?_⟩, ds, setB_ne g1 _ _ hqg, g2⟩
    rw [setB m1]
    rfl
  have nF : Fr [] w (W2.setCell ⟨q, 0, none⟩ (.slice (some ⟨g, 0, none⟩) A.n c)) := (kF.trans gF).setCell (Or.inr (by rw [Hq.out]; exact Nat.le_refl _)) _
  have hgw : w.heap.size ≤ g := Nat.le_trans kF.size hg
  clear m0 y0 g1 g2 gF m1 kF
  generalize W2.setCell ⟨q, 0, none⟩ (.slice (some ⟨g, 0, none⟩) A.n c) = W3 at n3 nF ⊢
  have hq2 : ∀ x, x ∈ [q, g] → w.heap.size ≤ x := by
    intro x hx
    simp at hx
    rcases hx with rfl | rfl
    · rw [Hq.out]; exact Nat.le_refl _
    · exact hgw
  have HQ2 := Lib.hid hq2
  clear hq2
  have hS3 := hS q g W3 n3
  clear hS n3
  unfold St.Arm at Hr
  cases hl : A.late t with
  | true =>
    rw [hl] at hS3 Hr
    rw [if_pos rfl] at hS3 Hr
    go_wp2_with fail
    refine hS3.mono ?_
    rintro e W4 ⟨rfl, hm4, hf4⟩
    have hF4 : Fr [] w W4 := nF.new hf4 HQ2.out
    clear hS3 hf4 nF
    go_wp2_with fail
    go_ret
    exact ⟨lb, Or.inl rfl, by rw [Hr.out]; rfl, by rw [Hr.out]; exact HM.out.keep hF4 (by simp) (by simp), hF4.mono (by simp)⟩
  | false =>
    rw [hl] at hS3 Hr
    rw [if_neg (by simp)] at hS3 Hr
    have hnB := adv_n A t
    generalize A.adv t = B at hS3 Hr hnB
    have hC := fun W (hm : PMem W q g B) => counts_calls q g B W (by omega) hm
    have hcB : B.cnt ≤ B.n := cntK_le _ _
    have hcB2 : B.cnt ≤ 32 := by omega
    generalize hcm : B.cnt = m at hC Hr hcB hcB2
    have Hcm := Lib.hid hcm
    have HnB := Lib.hid hnB
    clear hcm hnB hcB
    go_wp2_with fail
    refine hS3.mono ?_
    rintro e W4 ⟨rfl, hm4, hf4⟩
    have hF4 : Fr [] w W4 := nF.new hf4 HQ2.out
    clear hS3 hf4 nF
    go_wp2_with fail
    refine (hC W4 hm4).mono ?_
    rintro e W5 ⟨rfl, hf5⟩
    have hm5 := hm4.keep hf5 (by simp) (by simp)
    have hF5 := hF4.trans hf5
    clear hC hm4 hf5 hF4
    by_cases hev : B.events = ev
    · cases m with
      | zero =>
        have Hev := Lib.hid hev
        clear hev
        have hr2 : r = (0, { B with armed := true, rem := ev }) := by
          rw [Hr.out, if_neg]
          rintro (h | h)
          · exact h Hev.out
          · omega
        have Hr2 := Lib.hid hr2
        clear hr2 Hr
        obtain ⟨⟨c5, s1⟩, ds5, s2, s3⟩ := hm5
        have x5 : W5.cell? ⟨q, 5, none⟩ = some (.bool B.armed) := cellB s1 5
        have x6 : W5.cell? ⟨q, 6, none⟩ = some (.int .i64 B.rem) := cellB s1 6
        have y5 := frozenB s1 5
        have y6 := frozenB s1 6
        go_upto_region 9 with (fail)
        have s4 : ((W5.setCell ⟨q, 5, none⟩ (.bool true)).setCell ⟨q, 6, none⟩ (.int .i64 ev)).heap[q]? = some (.cells (pcells { B with armed := true, rem := ev } g c5) 60 (0, 0)) := by
          rw [setB (setB s1 _ _)]; rfl
        have s5 : ((W5.setCell ⟨q, 5, none⟩ (.bool true)).setCell ⟨q, 6, none⟩ (.int .i64 ev)).heap[g]? = some (.cells ds5 63 (0, 0)) := setB_ne (setB_ne s2 _ _ hqg) _ _ hqg
        have s6 := HM.out.obj
        have hF6 : Fr [] w ((W5.setCell ⟨q, 5, none⟩ (.bool true)).setCell ⟨q, 6, none⟩ (.int .i64 ev)) := (hF5.setCell (Or.inr (by rw [Hq.out]; exact Nat.le_refl _)) _).setCell (Or.inr (by rw [Hq.out]; exact Nat.le_refl _)) _
        obtain ⟨cap6, s6⟩ := s6
        have s7 := hF6.at s6
        clear s6
        have hpq : p ≠ q := by rw [Hq.out]; omega
        have hpg : p ≠ g := by omega
        have Hpg := Lib.hid hpg
        have Hpq := Lib.hid hpq
        clear x5 x6 y5 y6 s1 s2 hF5 hpg hpq
        generalize ((W5.setCell ⟨q, 5, none⟩ (.bool true)).setCell ⟨q, 6, none⟩ (.int .i64 ev)) = V at s4 s5 s7 hF6 ⊢
        have v0 : V.cell? ⟨q, 0, none⟩ = some (.slice (some ⟨g, 0, none⟩) B.n c5) := cellB s4 0
        have v1 : V.cell? ⟨q, 1, none⟩ = some (.int .u64 B.now) := cellB s4 1
        have v2 : V.cell? ⟨q, 2, none⟩ = some (.int .i64 B.events) := cellB s4 2
        have v3 : V.cell? ⟨q, 3, none⟩ = some (.int .u64 B.alarm) := cellB s4 3
        have v4 : V.cell? ⟨q, 4, none⟩ = some (.bool B.set) := cellB s4 4
        have v5 : V.cell? ⟨q, 5, none⟩ = some (.bool true) := cellB s4 5
        have v6 : V.cell? ⟨q, 6, none⟩ = some (.int .i64 ev) := cellB s4 6
        have u0 : V.cell? ⟨p, 0, none⟩ = some (.slice (some ⟨lb, 0, none⟩) A.n cap6) := cellB s7 0
        have u1 : V.cell? ⟨p, 1, none⟩ = some (.int .u64 A.now) := cellB s7 1
        have u2 : V.cell? ⟨p, 2, none⟩ = some (.int .i64 A.events) := cellB s7 2
        have u3 : V.cell? ⟨p, 3, none⟩ = some (.int .u64 A.alarm) := cellB s7 3
        have u4 : V.cell? ⟨p, 4, none⟩ = some (.bool A.set) := cellB s7 4
        have u5 : V.cell? ⟨p, 5, none⟩ = some (.bool A.armed) := cellB s7 5
        have u6 : V.cell? ⟨p, 6, none⟩ = some (.int .i64 A.rem) := cellB s7 6
        have z0 := frozenB s7 0
        have z1 := frozenB s7 1
        have z2 := frozenB s7 2
        have z3 := frozenB s7 3
        have z4 := frozenB s7 4
        have z5 := frozenB s7 5
        have z6 := frozenB s7 6
        have S4 := Lib.hid s4
        have S5 := Lib.hid s5
        have S7 := Lib.hid s7
        clear s4 s5 s7
        go_wp2_with fail
        go_ret
        refine ⟨g, Or.inr hgw, by rw [Hr2.out]; rfl, ?_, ?_⟩
        · rw [Hr2.out]
          refine ⟨⟨c5, ?_⟩, ds5, ?_, s3.same rfl rfl rfl⟩
          · rw [setB (setB (setB (setB (setB (setB (setB S7.out _ _) _ _) _ _) _ _) _ _) _ _)]
            have hh := Hev.out
            subst hh
            rfl
          · exact setB_ne (setB_ne (setB_ne (setB_ne (setB_ne (setB_ne (setB_ne S5.out _ _ Hpg.out) _ _ Hpg.out) _ _ Hpg.out) _ _ Hpg.out) _ _ Hpg.out) _ _ Hpg.out) _ _ Hpg.out
        · have h6 : Fr [p] w V := hF6.mono (by simp)
          exact ((((((h6.setCell (Or.inl (by simp)) _).setCell (Or.inl (by simp)) _).setCell (Or.inl (by simp)) _).setCell (Or.inl (by simp)) _).setCell (Or.inl (by simp)) _).setCell (Or.inl (by simp)) _).setCell (Or.inl (by simp)) _
      | succ m =>
        have hr2 : r = (17, A) := by rw [Hr.out, if_pos (Or.inr (by omega))]
        have Hr2 := Lib.hid hr2
        clear hr2 Hr
        go_wp2_with fail
        go_ret
        exact ⟨lb, Or.inl rfl, by rw [Hr2.out]; rfl, by rw [Hr2.out]; exact HM.out.keep hF5 (by simp) (by simp), hF5.mono (by simp)⟩
    · have hr2 : r = (17, A) := by rw [Hr.out, if_pos (Or.inl hev)]
      have Hr2 := Lib.hid hr2
      clear hr2 Hr
      go_wp2_with fail
      go_ret
      exact ⟨lb, Or.inl rfl, by rw [Hr2.out]; rfl, by rw [Hr2.out]; exact HM.out.keep hF5 (by simp) (by simp), hF5.mono (by simp)⟩
end Go.Proofs.Ytjdbhlmkcbgkjaa.Wk
