import Derived.Test.YtjdbhlmkcbgkjaaWkJ
namespace Go.Proofs.Ytjdbhlmkcbgkjaa.Wk
open Go.RowKit Go.Proofs.YtjdbhlmkcbgkjaaW.PrintWords
set_option linter.unusedVariables false
set_option linter.unusedSimpArgs false

theorem rlate_calls (q ob hb : Nat) (A : St) (t : Int) (t0 : 0 ≤ t) (t1 : t < 18446744073709551616) (w : World) (hA : A.Ok) (hm : RMem w q ob hb A) :
    Calls Try.prog 42 #[.pointer (some ⟨q, 0, none⟩), .int .u64 t] w fun e w' => e = .returned (.bool (A.late t)) ∧ w' = w := by
  obtain ⟨⟨oc, hc, al, al0, al1, al2, h1⟩, _⟩ := hm
  exact late_calls0 q A.now t hA.now0 hA.now1 t0 t1 w (cellB h1 7)

set_option maxHeartbeats 1600000 in
theorem rbad_calls (q ob hb : Nat) (A : St) (k t : Int) (k0 : -9223372036854775808 ≤ k) (k1 : k < 9223372036854775808) (t0 : 0 ≤ t) (t1 : t < 18446744073709551616) (w : World) (hA : A.Ok) (hm : RMem w q ob hb A) :
    Calls Try.prog 40 #[.pointer (some ⟨q, 0, none⟩), .int .i64 k, .int .u64 t] w fun e w' => e = .returned (.bool (A.bad k t)) ∧ w' = w := by
  have hL := rlate_calls q ob hb A t t0 t1 w hA hm
  obtain ⟨oc, c0⟩ : ∃ oc, w.cell? ⟨q, 0, none⟩ = some (.slice (some ⟨ob, 0, none⟩) A.n oc) := by obtain ⟨⟨oc, hc, al, al0, al1, al2, h1⟩, _⟩ := hm; exact ⟨oc, cellB h1 0⟩
  have hn := hA.n
  by_cases hl : k < 0
  · have e : A.bad k t = true := by simp [St.bad, hl]
    rw [e]
    clear e hL
    go_enter Try.func40, Try.ntmps40
    go_wp2_with fail
    go_ret
    exact ⟨rfl, rfl⟩
  · by_cases hg : (A.n : Int) ≤ k
    · have e : A.bad k t = true := by simp [St.bad, hg]
      rw [e]
      clear e hL
      go_enter Try.func40, Try.ntmps40
      go_wp2_with fail
      go_ret
      exact ⟨rfl, rfl⟩
    · have e : A.bad k t = A.late t := by simp [St.bad, hl, hg]
      rw [e]
      clear e
      generalize A.late t = b at hL ⊢
      go_enter Try.func40, Try.ntmps40
      go_wp2_with fail
      refine hL.mono ?_
      clear hL
      rintro e w' ⟨rfl, rfl⟩
      cases b
      all_goals
        go_wp2_with fail
        go_ret
        exact ⟨rfl, rfl⟩

set_option maxHeartbeats 1600000 in
theorem ractivate_calls (q ob hb : Nat) (A : St) (k t : Int) (k0 : -9223372036854775808 ≤ k) (k1 : k < 9223372036854775808) (t0 : 0 ≤ t) (t1 : t < 18446744073709551616) (w : World) (hA : A.Ok) (he : A.events ≤ 900000000) (hm : RMem w q ob hb A) :
    Calls Try.prog 31 #[.pointer (some ⟨q, 0, none⟩), .int .i64 k, .int .u64 t] w fun e w' => e = .returned (.int .i64 (A.Activate k t).1) ∧ RMem w' q ob hb (A.Activate k t).2 ∧ Fr [q, ob, hb] w w' := by
  unfold St.Activate
  have hB := rbad_calls q ob hb A k t k0 k1 t0 t1 w hA hm
  cases hl : A.bad k t with
  | true =>
    rw [hl] at hB
    rw [if_pos rfl]
    go_enter Try.func31, Try.ntmps31
    go_wp2_with fail
    refine hB.mono ?_
    rintro e w' ⟨rfl, rfl⟩
    clear hB
    go_wp2_with fail
    go_ret
    exact ⟨rfl, hm, Fr.refl _ _⟩
  | false =>
    rw [hl] at hB
    rw [if_neg (by simp)]
    obtain ⟨j, rfl, hj, _, hn1, hn2⟩ := bad_no hl
    have hS := radvance_calls q ob hb A t t0 hn2 w hA (by omega) hm
    have hn := hA.n
    have hnB := adv_n A t
    clear hl
    simp only [Int.toNat_natCast]
    generalize A.adv t = B at hS hnB ⊢
    have hjB : j < B.n := by omega
    have hnB2 : B.n ≤ 32 := by omega
    have HnB := Lib.hid hnB
    clear hnB
    go_enter Try.func31, Try.ntmps31
    go_wp2_with fail
    refine hB.mono ?_
    rintro e w' ⟨rfl, rfl⟩
    clear hB
    go_wp2_with fail
    refine hS.mono ?_
    clear hS hm
    rintro e w2 ⟨rfl, ⟨⟨oc, hc, al, al0, al1, al2, h1⟩, ⟨cs, h2, h3⟩, ds, h4, h5⟩, hf'⟩
    have hqo : q ≠ ob := ne_of_type h1 h2 (by decide)
    have hqh : q ≠ hb := ne_of_type h1 h4 (by decide)
    have hoh : ob ≠ hb := ne_of_type h2 h4 (by decide)
    obtain ⟨hv, g6, hv0, hv1, hv2⟩ := h5 j hjB
    have Hv2 := Lib.hid hv2
    have Al2 := Lib.hid al2
    clear hv2 al2
    have d0 : w2.cell? ⟨q, 0, none⟩ = some (.slice (some ⟨ob, 0, none⟩) B.n oc) := cellB h1 0
    have d1 : w2.cell? ⟨q, 1, none⟩ = some (.slice (some ⟨hb, 0, none⟩) B.n hc) := cellB h1 1
    have x0 : w2.cell? ⟨ob, j, none⟩ = some (.bool (B.on j)) := (cellB h2 _).trans (h3 j hjB)
    have x1 : w2.cell? ⟨hb, j, none⟩ = some (.int .u64 hv) := (cellB h4 _).trans g6
    have y0 := frozenB h2 j
    have y1 := frozenB h4 j
    have H1 := Lib.hid h1
    have H2 := Lib.hid h2
    have H4 := Lib.hid h4
    clear h1 h2 h4 g6
    go_wp2_with fail
    go_region
    all_goals
      go_wp2_with fail
      go_ret
      refine ⟨rfl, ⟨⟨oc, hc, al, al0, al1, Al2.out, ?_⟩, ⟨_, ?_, OCells.put h3 j hjB true rfl rfl⟩, _, ?_, HCells.put h5 j hjB 0 (by omega) (by omega) true rfl rfl rfl⟩, ((hf'.setCell (Or.inl (by simp)) _).setCell (Or.inl (by simp)) _).drew⟩
      · exact setB_ne (setB_ne H1.out _ _ hqo.symm) _ _ hqh.symm
      · exact setB_ne (setB H2.out _ _) _ _ hoh.symm
      · exact setB (setB_ne H4.out _ _ hoh) _ _

set_option maxHeartbeats 1600000 in
theorem rdeactivate_calls (q ob hb : Nat) (A : St) (k t : Int) (k0 : -9223372036854775808 ≤ k) (k1 : k < 9223372036854775808) (t0 : 0 ≤ t) (t1 : t < 18446744073709551616) (w : World) (hA : A.Ok) (he : A.events ≤ 900000000) (hm : RMem w q ob hb A) :
    Calls Try.prog 27 #[.pointer (some ⟨q, 0, none⟩), .int .i64 k, .int .u64 t] w fun e w' => e = .returned (.int .i64 (A.Deactivate k t).1) ∧ RMem w' q ob hb (A.Deactivate k t).2 ∧ Fr [q, ob, hb] w w' := by
  unfold St.Deactivate
  have hB := rbad_calls q ob hb A k t k0 k1 t0 t1 w hA hm
  cases hl : A.bad k t with
  | true =>
    rw [hl] at hB
    rw [if_pos rfl]
    go_enter Try.func27, Try.ntmps27
    go_wp2_with fail
    refine hB.mono ?_
    rintro e w' ⟨rfl, rfl⟩
    clear hB
    go_wp2_with fail
    go_ret
    exact ⟨rfl, hm, Fr.refl _ _⟩
  | false =>
    rw [hl] at hB
    rw [if_neg (by simp)]
    obtain ⟨j, rfl, hj, _, hn1, hn2⟩ := bad_no hl
    have hS := radvance_calls q ob hb A t t0 hn2 w hA (by omega) hm
    have hn := hA.n
    have hnB := adv_n A t
    have hbB := adv_bounds A t
    have he0 := hA.ev0
    clear hl
    simp only [Int.toNat_natCast]
    generalize A.adv t = B at hS hnB hbB ⊢
    have hjB : j < B.n := by omega
    have hnB2 : B.n ≤ 32 := by omega
    have hB0 : 0 ≤ B.events := by omega
    have hB1 : B.events ≤ 1000000040 := by omega
    have HnB := Lib.hid hnB
    clear hnB hbB
    cases hon : B.on j with
    | false =>
      have Hon := Lib.hid hon
      clear hon
      have e : deactS B j = B := by unfold deactS; rw [if_neg (by rw [Hon.out]; simp)]
      rw [e]
      clear e
      go_enter Try.func27, Try.ntmps27
      go_wp2_with fail
      refine hB.mono ?_
      rintro e w' ⟨rfl, rfl⟩
      clear hB
      go_wp2_with fail
      refine hS.mono ?_
      clear hS hm
      rintro e w2 ⟨rfl, hm2, hf'⟩
      have HM := Lib.hid hm2
      obtain ⟨⟨oc, hc, al, al0, al1, al2, h1⟩, ⟨cs, h2, h3⟩, ds, h4, h5⟩ := hm2
      clear al2 h5
      have d0 : w2.cell? ⟨q, 0, none⟩ = some (.slice (some ⟨ob, 0, none⟩) B.n oc) := cellB h1 0
      have x0 : w2.cell? ⟨ob, j, none⟩ = some (.bool false) := (cellB h2 _).trans ((h3 j hjB).trans (by rw [Hon.out]))
      go_wp2_with fail
      go_ret
      exact ⟨rfl, HM.out, hf'⟩
    | true =>
      have Hon := Lib.hid hon
      clear hon
      have e : deactS B j = { B with on := upd B.on j false, hold := upd B.hold j 0, events := B.events + 1 } := by unfold deactS; rw [if_pos Hon.out]
      rw [e]
      clear e
      go_enter Try.func27, Try.ntmps27
      go_wp2_with fail
      refine hB.mono ?_
      rintro e w' ⟨rfl, rfl⟩
      clear hB
      go_wp2_with fail
      refine hS.mono ?_
      clear hS hm
      rintro e w2 ⟨rfl, ⟨⟨oc, hc, al, al0, al1, al2, h1⟩, ⟨cs, h2, h3⟩, ds, h4, h5⟩, hf'⟩
      have hqo : q ≠ ob := ne_of_type h1 h2 (by decide)
      have hqh : q ≠ hb := ne_of_type h1 h4 (by decide)
      have hoh : ob ≠ hb := ne_of_type h2 h4 (by decide)
      have Al2 := Lib.hid al2
      clear al2
      have d0 : w2.cell? ⟨q, 0, none⟩ = some (.slice (some ⟨ob, 0, none⟩) B.n oc) := cellB h1 0
      have d4 : w2.cell? ⟨q, 4, none⟩ = some (.int .i64 B.events) := cellB h1 4
      have x0 : w2.cell? ⟨ob, j, none⟩ = some (.bool true) := (cellB h2 _).trans ((h3 j hjB).trans (by rw [Hon.out]))
      have y0 := frozenB h2 j
      have y4 := frozenB h1 4
      have H1 := Lib.hid h1
      have H2 := Lib.hid h2
      have H4 := Lib.hid h4
      clear h1 h2 h4
      go_wp2_with fail
      go_ret
      refine ⟨rfl, ⟨⟨oc, hc, al, al0, al1, Al2.out, ?_⟩, ⟨_, setB_ne (setB H2.out _ _) _ _ hqo, OCells.put h3 j hjB false rfl rfl⟩, _, setB_ne (setB_ne H4.out _ _ hoh) _ _ hqh, HCells.off h5 j 0 rfl rfl rfl⟩, (hf'.setCell (Or.inl (by simp)) _).setCell (Or.inl (by simp)) _⟩
      rw [setB (setB_ne H1.out _ _ hqo.symm)]
      rfl

set_option maxHeartbeats 1600000 in
theorem radvanceM_calls (q ob hb : Nat) (A : St) (t : Int) (t0 : 0 ≤ t) (t1 : t < 18446744073709551616) (w : World) (hA : A.Ok) (he : A.events ≤ 900000000) (hm : RMem w q ob hb A) :
    Calls Try.prog 34 #[.pointer (some ⟨q, 0, none⟩), .int .u64 t] w fun e w' => e = .returned (.int .i64 (A.Advance t).1) ∧ RMem w' q ob hb (A.Advance t).2 ∧ Fr [q, ob, hb] w w' := by
  unfold St.Advance
  have hL := rlate_calls q ob hb A t t0 t1 w hA hm
  cases hl : A.late t with
  | true =>
    rw [hl] at hL
    rw [if_pos rfl]
    go_enter Try.func34, Try.ntmps34
    go_wp2_with fail
    refine hL.mono ?_
    rintro e w' ⟨rfl, rfl⟩
    clear hL
    go_wp2_with fail
    go_ret
    exact ⟨rfl, hm, Fr.refl _ _⟩
  | false =>
    rw [hl] at hL
    rw [if_neg (by simp)]
    obtain ⟨hn1, hn2⟩ := late_no hl
    have hS := radvance_calls q ob hb A t t0 hn2 w hA (by omega) hm
    go_enter Try.func34, Try.ntmps34
    go_wp2_with fail
    refine hL.mono ?_
    rintro e w' ⟨rfl, rfl⟩
    clear hL
    go_wp2_with fail
    refine hS.mono ?_
    clear hS hm
    rintro e w2 ⟨rfl, hm2, hf'⟩
    go_wp2_with fail
    go_ret
    exact ⟨rfl, hm2, hf'⟩

set_option maxHeartbeats 1600000 in
theorem rdisarm_calls (q ob hb : Nat) (A : St) (w : World) (hm : RMem w q ob hb A) :
    Calls Try.prog 35 #[.pointer (some ⟨q, 0, none⟩)] w fun e w' => e = .returned (.tuple #[]) ∧ RMem w' q ob hb A.Disarm ∧ Fr [q, ob, hb] w w' := by
  obtain ⟨⟨oc, hc, al, al0, al1, al2, h1⟩, ⟨cs, h2, h3⟩, ds, h4, h5⟩ := hm
  have hqo : q ≠ ob := ne_of_type h1 h2 (by decide)
  have hqh : q ≠ hb := ne_of_type h1 h4 (by decide)
  have c5 : w.cell? ⟨q, 5, none⟩ = some (.bool A.armed) := cellB h1 5
  have y5 := frozenB h1 5
  have Al2 := Lib.hid al2
  clear al2
  go_enter Try.func35, Try.ntmps35
  go_wp2_with fail
  go_end0
  refine ⟨rfl, ⟨⟨oc, hc, al, al0, al1, Al2.out, ?_⟩, ⟨cs, setB_ne h2 _ _ hqo, OCells.same h3 rfl rfl⟩, ds, setB_ne h4 _ _ hqh, HCells.same h5 rfl rfl rfl⟩, (Fr.refl _ _).setCell (Or.inl (by simp)) _⟩
  rw [setB h1]
  rfl

set_option maxHeartbeats 1600000 in
theorem rsetAlarm_calls (q ob hb : Nat) (A : St) (t a : Int) (t0 : 0 ≤ t) (t1 : t < 18446744073709551616) (a0 : 0 ≤ a) (a1 : a < 18446744073709551616) (w : World) (hA : A.Ok) (he : A.events ≤ 900000000) (hm : RMem w q ob hb A) :
    Calls Try.prog 33 #[.pointer (some ⟨q, 0, none⟩), .int .u64 t, .int .u64 a] w fun e w' => e = .returned (.int .i64 (A.SetAlarm t a).1) ∧ RMem w' q ob hb (A.SetAlarm t a).2 ∧ Fr [q, ob, hb] w w' := by
  unfold St.SetAlarm
  have hL := rlate_calls q ob hb A t t0 t1 w hA hm
  cases hl : A.late t with
  | true =>
    rw [hl] at hL
    rw [if_pos (Or.inr rfl)]
    go_enter Try.func33, Try.ntmps33
    go_wp2_with fail
    refine hL.mono ?_
    rintro e w' ⟨rfl, rfl⟩
    clear hL
    go_wp2_with fail
    go_ret
    exact ⟨rfl, hm, Fr.refl _ _⟩
  | false =>
    rw [hl] at hL
    by_cases hm1 : 1152921504606846976 < a
    · rw [if_pos (Or.inl hm1)]
      go_enter Try.func33, Try.ntmps33
      go_wp2_with fail
      refine hL.mono ?_
      rintro e w' ⟨rfl, rfl⟩
      clear hL
      go_wp2_with fail
      go_ret
      exact ⟨rfl, hm, Fr.refl _ _⟩
    · rw [if_neg (by rintro (h | h) <;> simp_all)]
      obtain ⟨hn1, hn2⟩ := late_no hl
      have hS := radvance_calls q ob hb A t t0 hn2 w hA (by omega) hm
      have HB := Lib.hid (hA.adv t0 hn2)
      have hbB := adv_bounds A t
      have hn := hA.n
      clear hl
      generalize A.adv t = B at hS HB hbB ⊢
      have hB1 : (alS B a).events ≤ 1000000000 := by show B.events ≤ _; omega
      have HB1 := Lib.hid hB1
      clear hbB hB1
      have hok : (alS B a).Ok := ⟨HB.out.n, HB.out.now0, HB.out.now1, HB.out.ev0, a0, by show a ≤ _; omega, fun e => Bool.noConfusion e, HB.out.hd0, HB.out.hd1, HB.out.hdz, HB.out.rem0, HB.out.rem1⟩
      have hG := fun w (hm : RMem w q ob hb (alS B a)) => radvance_calls q ob hb (alS B a) t t0 hn2 w hok HB1.out hm
      have hal : alS B a = { B with set := true, alarm := a } := rfl
      have Hal := Lib.hid hal
      clear hal hok
      generalize (alS B a).adv t = D at hG ⊢
      generalize alS B a = C at hG Hal
      go_enter Try.func33, Try.ntmps33
      go_wp2_with fail
      refine hL.mono ?_
      rintro e w' ⟨rfl, rfl⟩
      clear hL
      go_wp2_with fail
      refine hS.mono ?_
      clear hS hm
      rintro e w2 ⟨rfl, ⟨⟨oc, hc, al, al0, al1, al2, h1⟩, ⟨cs, h2, h3⟩, ds, h4, h5⟩, hf'⟩
      have hqo : q ≠ ob := ne_of_type h1 h2 (by decide)
      have hqh : q ≠ hb := ne_of_type h1 h4 (by decide)
      clear al2
      have c3 : w2.cell? ⟨q, 3, none⟩ = some (.bool B.set) := cellB h1 3
      have c2 : w2.cell? ⟨q, 2, none⟩ = some (.int .u64 al) := cellB h1 2
      have y3 := frozenB h1 3
      have y2 := frozenB h1 2
      go_wp2_with fail
      refine (hG _ ?_).mono ?_
      · rw [Hal.out]
        refine ⟨⟨oc, hc, a, a0, by omega, fun _ => rfl, ?_⟩, ⟨cs, setB_ne (setB_ne h2 _ _ hqo) _ _ hqo, OCells.same h3 rfl rfl⟩, ds, setB_ne (setB_ne h4 _ _ hqh) _ _ hqh, HCells.same h5 rfl rfl rfl⟩
        rw [setB (setB h1 _ _)]
        rfl
      · rintro e w'' ⟨rfl, hm'', hf''⟩
        have hF : Fr [q, ob, hb] w' w'' := ((hf'.setCell (Or.inl (by simp)) _).setCell (Or.inl (by simp)) _).trans hf''
        clear hf'' hf' c2 c3 y2 y3 h1 h2 h3 h4 h5 hG
        go_wp2_with fail
        go_ret
        exact ⟨rfl, hm'', hF⟩

set_option maxHeartbeats 1600000 in
set_option maxRecDepth 100000 in
theorem rcounts_calls (q ob hb : Nat) (A : St) (w : World) (hn : A.n ≤ 32) (hm : RMem w q ob hb A) :
    Calls Try.prog 18 #[.pointer (some ⟨q, 0, none⟩)] w fun e w' => e = .returned (.tuple #[.int .i64 A.events, .int .i64 A.cnt]) ∧ w' = w := by
  obtain ⟨⟨oc, hc, al, al0, al1, al2, h1⟩, ⟨cs, h2, h3⟩, ds, h4, h5⟩ := hm
  clear al2 h4 h5
  have d0 : w.cell? ⟨q, 0, none⟩ = some (.slice (some ⟨ob, 0, none⟩) A.n oc) := cellB h1 0
  have d4 : w.cell? ⟨q, 4, none⟩ = some (.int .i64 A.events) := cellB h1 4
  unfold St.cnt
  go_enter Try.func18, Try.ntmps18
  go_wp2_with fail
  go_loopw [4, 5] (fun x c wr => ∃ k : Nat, k ≤ A.n ∧ c = .int .i64 k ∧ x = .int .i64 (cntK A.on k) ∧ wr = w)
      (fun _ c _ => A.n - (intOf c).toNat)
  case atStart => exact ⟨0, by omega, rfl, rfl, rfl⟩
  case round =>
    obtain ⟨k, hk, rfl, rfl, rfl⟩ := hrel
    by_cases hlt : k < A.n
    · have x0 : wr.cell? ⟨ob, k, none⟩ = some (.bool (A.on k)) := (cellB h2 _).trans (h3 k hlt)
      have hc := cntK_le A.on k
      have hc1 : cntK A.on (k + 1) = cntK A.on k + (if A.on k = true then 1 else 0) := rfl
      have Hc1 := Lib.hid hc1
      clear hc1
      generalize cntK A.on k = m at hc Hc1 ⊢
      cases ho : A.on k with
      | false =>
        rw [ho] at x0
        have Ho := Lib.hid ho
        clear ho
        go_wp2_with fail
        go_roundw
        case rel => exact ⟨k + 1, by omega, by go_num, by rw [Hc1.out, Ho.out]; rfl, trivial⟩
        case measure => simp [intOf]; omega
      | true =>
        rw [ho] at x0
        have Ho := Lib.hid ho
        clear ho
        go_wp2_with fail
        go_roundw
        case rel => exact ⟨k + 1, by omega, by go_num, by rw [Hc1.out, Ho.out]; go_num, trivial⟩
        case measure => simp [intOf]; omega
    · have hkn : k = A.n := by omega
      subst hkn
      obtain ⟨m, hm⟩ : ∃ m, m = cntK A.on A.n := ⟨_, rfl⟩
      have Hm := Lib.hid hm
      rw [← hm]
      clear hm
      go_wp2_with fail
      go_ret2
      exact ⟨by rw [← Hm.out]; rfl, rfl⟩

set_option maxHeartbeats 1600000 in
theorem rmust_calls (q ob hb : Nat) (A : St) (w : World) (hn : A.n ≤ 32) (hm : RMem w q ob hb A) :
    Calls Try.prog 20 #[.pointer (some ⟨q, 0, none⟩)] w fun e w' => e = .returned (.bool A.must) ∧ w' = w := by
  have hC := rcounts_calls q ob hb A w hn hm
  have hc : A.cnt ≤ A.n := cntK_le _ _
  obtain ⟨⟨oc, hc, al, al0, al1, al2, h1⟩, _, _⟩ := hm
  clear al2
  unfold St.must
  generalize A.cnt = m at *
  have c5 : w.cell? ⟨q, 5, none⟩ = some (.bool A.armed) := cellB h1 5
  have c6 : w.cell? ⟨q, 6, none⟩ = some (.int .i64 A.rem) := cellB h1 6
  clear h1
  generalize A.armed = b at c5 ⊢
  cases b
  all_goals
    go_enter Try.func20, Try.ntmps20
    go_wp2_with fail
    refine hC.mono ?_
    rintro e w' ⟨rfl, rfl⟩
    clear hC
    go_wp2_with fail
    all_goals (go_ret; refine ⟨?_, rfl⟩; simp_all)
end Go.Proofs.Ytjdbhlmkcbgkjaa.Wk
