import Derived.Test.YtjdbhlmkcbgkjaaWkC
namespace Go.Proofs.Ytjdbhlmkcbgkjaa.Wk
open Go.RowKit Go.Proofs.YtjdbhlmkcbgkjaaW.PrintWords
set_option linter.unusedVariables false
set_option linter.unusedSimpArgs false

theorem bad_no {A : St} {k t : Int} (h : A.bad k t = false) : ∃ j : Nat, k = j ∧ j < A.n ∧ A.late t = false ∧ A.now ≤ t ∧ t ≤ 1152921504606846976 := by
  simp [St.bad, St.late] at h
  obtain ⟨h1, h2, h3, h4⟩ := h
  obtain ⟨j, rfl⟩ := Int.eq_ofNat_of_zero_le h1
  refine ⟨j, rfl, by omega, ?_, h3, h4⟩
  simp [St.late]
  omega
theorem late_no {A : St} {t : Int} (h : A.late t = false) : A.now ≤ t ∧ t ≤ 1152921504606846976 := by
  simp [St.late] at h
  exact h

set_option maxHeartbeats 1600000 in
theorem activate_calls (p lb : Nat) (A : St) (k t : Int) (k0 : -9223372036854775808 ≤ k) (k1 : k < 9223372036854775808) (t0 : 0 ≤ t) (t1 : t < 18446744073709551616) (w : World) (hA : A.Ok) (he : A.events ≤ 900000000) (hm : PMem w p lb A) :
    Calls Try.prog 22 #[.pointer (some ⟨p, 0, none⟩), .int .i64 k, .int .u64 t] w fun e w' => e = .returned (.int .i64 (A.Activate k t).1) ∧ PMem w' p lb (A.Activate k t).2 ∧ Fr [p, lb] w w' := by
  unfold St.Activate
  have hS := start_calls p lb A k t k0 k1 t0 t1 w hA (by omega) hm
  cases hl : A.bad k t with
  | true =>
    rw [hl] at hS
    rw [if_pos rfl] at hS
    rw [if_pos rfl]
    go_enter Try.func22, Try.ntmps22
    go_wp2_with fail
    refine hS.mono ?_
    clear hS hm
    rintro e w' ⟨rfl, hm', hf'⟩
    go_wp2_with fail
    go_ret
    exact ⟨rfl, hm', hf'⟩
  | false =>
    rw [hl] at hS
    rw [if_neg (by simp)] at hS
    rw [if_neg (by simp)]
    obtain ⟨j, rfl, hj, _, hn1, hn2⟩ := bad_no hl
    have hn := hA.n
    have hnB := adv_n A t
    clear hl
    simp only [Int.toNat_natCast]
    generalize A.adv t = B at hS hnB ⊢
    have hjB : j < B.n := by omega
    have hnB2 : B.n ≤ 32 := by omega
    have HnB := Lib.hid hnB
    clear hnB
    go_enter Try.func22, Try.ntmps22
    go_wp2_with fail
    refine hS.mono ?_
    clear hS hm
    rintro e w' ⟨rfl, ⟨⟨cap, h1⟩, cs, h2, h3⟩, hf'⟩
    have c0 : w'.cell? ⟨p, 0, none⟩ = some (.slice (some ⟨lb, 0, none⟩) B.n cap) := cellB h1 0
    have d0 : w'.cell? ⟨lb, j * 3, none⟩ = some (.bool (B.on j)) := (cellB h2 _).trans (h3.on j hjB)
    have d1 : w'.cell? ⟨lb, j * 3 + 1, none⟩ = some (.bool (B.held j)) := (cellB h2 _).trans (h3.held j hjB)
    have d2 : w'.cell? ⟨lb, j * 3 + 2, none⟩ = some (.int .u64 (B.hv j)) := (cellB h2 _).trans (h3.hv j hjB)
    have y0 := frozenB h2 (j * 3)
    have y1 := frozenB h2 (j * 3 + 1)
    have y2 := frozenB h2 (j * 3 + 2)
    have hpl : p ≠ lb := ne_of_type h1 h2 (by decide)
    go_wp2_with fail
    go_ret
    refine ⟨rfl, ⟨⟨cap, ?_⟩, _, set3_heap h2 j true 0 _ _ _ rfl rfl rfl, h3.put j hjB true 0 rfl rfl rfl⟩, ((hf'.setCell (Or.inl (by simp)) _).setCell (Or.inl (by simp)) _).setCell (Or.inl (by simp)) _⟩
    exact setB_ne (setB_ne (setB_ne h1 _ _ hpl.symm) _ _ hpl.symm) _ _ hpl.symm

set_option maxHeartbeats 1600000 in
theorem deactivate_calls (p lb : Nat) (A : St) (k t : Int) (k0 : -9223372036854775808 ≤ k) (k1 : k < 9223372036854775808) (t0 : 0 ≤ t) (t1 : t < 18446744073709551616) (w : World) (hA : A.Ok) (he : A.events ≤ 900000000) (hm : PMem w p lb A) :
    Calls Try.prog 26 #[.pointer (some ⟨p, 0, none⟩), .int .i64 k, .int .u64 t] w fun e w' => e = .returned (.int .i64 (A.Deactivate k t).1) ∧ PMem w' p lb (A.Deactivate k t).2 ∧ Fr [p, lb] w w' := by
  unfold St.Deactivate
  have hS := start_calls p lb A k t k0 k1 t0 t1 w hA (by omega) hm
  cases hl : A.bad k t with
  | true =>
    rw [hl] at hS
    rw [if_pos rfl] at hS
    rw [if_pos rfl]
    go_enter Try.func26, Try.ntmps26
    go_wp2_with fail
    refine hS.mono ?_
    clear hS hm
    rintro e w' ⟨rfl, hm', hf'⟩
    go_wp2_with fail
    go_ret
    exact ⟨rfl, hm', hf'⟩
  | false =>
    rw [hl] at hS
    rw [if_neg (by simp)] at hS
    rw [if_neg (by simp)]
    obtain ⟨j, rfl, hj, _, hn1, hn2⟩ := bad_no hl
    have hn := hA.n
    have hnB := adv_n A t
    have hbB := adv_bounds A t
    have he0 := hA.ev0
    clear hl
    simp only [Int.toNat_natCast]
    generalize A.adv t = B at hS hnB hbB ⊢
    have hjB : j < B.n := by omega
    have hnB2 : B.n ≤ 32 := by omega
    have hB0 : 0 ≤ B.events := by omega
    have hB1 : B.events ≤ 1000000040 := by omega
    have HnB := Lib.hid hnB
    clear hnB hbB
    cases hon : B.on j with
    | false =>
      have Hon := Lib.hid hon
      clear hon
      have e : deactS B j = B := by unfold deactS; rw [if_neg (by rw [Hon.out]; simp)]
      rw [e]
      clear e
      go_enter Try.func26, Try.ntmps26
      go_wp2_with fail
      refine hS.mono ?_
      clear hS hm
      rintro e w' ⟨rfl, ⟨⟨cap, h1⟩, cs, h2, h3⟩, hf'⟩
      have c0 : w'.cell? ⟨p, 0, none⟩ = some (.slice (some ⟨lb, 0, none⟩) B.n cap) := cellB h1 0
      have d0 : w'.cell? ⟨lb, j * 3, none⟩ = some (.bool (B.on j)) := (cellB h2 _).trans (h3.on j hjB)
      rw [Hon.out] at d0
      go_wp2_with fail
      go_ret
      exact ⟨rfl, ⟨⟨cap, h1⟩, cs, h2, h3⟩, hf'⟩
    | true =>
      have Hon := Lib.hid hon
      clear hon
      have e : deactS B j = { B with on := upd B.on j false, hold := upd B.hold j 0, events := B.events + 1 } := by unfold deactS; rw [if_pos Hon.out]
      rw [e]
      clear e
      go_enter Try.func26, Try.ntmps26
      go_wp2_with fail
      refine hS.mono ?_
      clear hS hm
      rintro e w' ⟨rfl, ⟨⟨cap, h1⟩, cs, h2, h3⟩, hf'⟩
      have c0 : w'.cell? ⟨p, 0, none⟩ = some (.slice (some ⟨lb, 0, none⟩) B.n cap) := cellB h1 0
      have d0 : w'.cell? ⟨lb, j * 3, none⟩ = some (.bool (B.on j)) := (cellB h2 _).trans (h3.on j hjB)
      rw [Hon.out] at d0
      have d1 : w'.cell? ⟨lb, j * 3 + 1, none⟩ = some (.bool (B.held j)) := (cellB h2 _).trans (h3.held j hjB)
      have d2 : w'.cell? ⟨lb, j * 3 + 2, none⟩ = some (.int .u64 (B.hv j)) := (cellB h2 _).trans (h3.hv j hjB)
      have y0 := frozenB h2 (j * 3)
      have y1 := frozenB h2 (j * 3 + 1)
      have y2 := frozenB h2 (j * 3 + 2)
      have hpl : p ≠ lb := ne_of_type h1 h2 (by decide)
      go_upto_region 5 with (fail)
      have z2 := set3_heap h2 j false 0 (.bool false) (.bool false) (.int .u64 0) rfl rfl rfl
      have z1 := setB_ne (setB_ne (setB_ne h1 ⟨lb, j * 3, none⟩ (.bool false) hpl.symm) ⟨lb, j * 3 + 1, none⟩ (.bool false) hpl.symm) ⟨lb, j * 3 + 2, none⟩ (.int .u64 0) hpl.symm
      have zF := ((hf'.setCell (p := ⟨lb, j * 3, none⟩) (Or.inl (by simp)) (.bool false)).setCell (p := ⟨lb, j * 3 + 1, none⟩) (Or.inl (by simp)) (.bool false)).setCell (p := ⟨lb, j * 3 + 2, none⟩) (Or.inl (by simp)) (.int .u64 0)
      clear y0 y1 y2 d0 d1 d2 c0 h1 h2 hf'
      generalize ((w'.setCell ⟨lb, j * 3, none⟩ (.bool false)).setCell ⟨lb, j * 3 + 1, none⟩ (.bool false)).setCell ⟨lb, j * 3 + 2, none⟩ (.int .u64 0) = V at z1 z2 zF ⊢
      have v2 : V.cell? ⟨p, 2, none⟩ = some (.int .i64 B.events) := cellB z1 2
      have y2 := frozenB z1 2
      go_wp2_with fail
      go_ret
      refine ⟨rfl, ⟨⟨cap, ?_⟩, _, setB_ne z2 _ _ hpl, h3.put j hjB false 0 rfl rfl rfl⟩, zF.setCell (Or.inl (by simp)) _⟩
      rw [setB z1]
      rfl

set_option maxHeartbeats 1600000 in
theorem setAlarm_calls (p lb : Nat) (A : St) (t a : Int) (t0 : 0 ≤ t) (t1 : t < 18446744073709551616) (a0 : 0 ≤ a) (a1 : a < 18446744073709551616) (w : World) (hA : A.Ok) (he : A.events ≤ 900000000) (hm : PMem w p lb A) :
    Calls Try.prog 24 #[.pointer (some ⟨p, 0, none⟩), .int .u64 t, .int .u64 a] w fun e w' => e = .returned (.int .i64 (A.SetAlarm t a).1) ∧ PMem w' p lb (A.SetAlarm t a).2 ∧ Fr [p, lb] w w' := by
  unfold St.SetAlarm
  by_cases hm1 : 1152921504606846976 < a
  · rw [if_pos (Or.inl hm1)]
    go_enter Try.func24, Try.ntmps24
    go_wp2_with fail
    go_ret
    exact ⟨rfl, hm, Fr.refl _ _⟩
  · have hS := startAll_calls p lb A t t0 t1 w hA (by omega) hm
    cases hl : A.late t with
    | true =>
      rw [hl] at hS
      rw [if_pos rfl] at hS
      rw [if_pos (Or.inr rfl)]
      go_enter Try.func24, Try.ntmps24
      go_wp2_with fail
      refine hS.mono ?_
      clear hS hm
      rintro e w' ⟨rfl, hm', hf'⟩
      go_wp2_with fail
      go_ret
      exact ⟨rfl, hm', hf'⟩
    | false =>
      rw [hl] at hS
      rw [if_neg (by simp)] at hS
      rw [if_neg (by rintro (h | h) <;> simp_all)]
      obtain ⟨hn1, hn2⟩ := late_no hl
      have HB := Lib.hid (hA.adv t0 hn2)
      have hbB := adv_bounds A t
      have hn := hA.n
      clear hl
      generalize A.adv t = B at hS HB hbB ⊢
      have hB1 : (alS B a).events ≤ 1000000000 := by show B.events ≤ _; omega
      have HB1 := Lib.hid hB1
      clear hbB hB1
      have hok : (alS B a).Ok := ⟨HB.out.n, HB.out.now0, HB.out.now1, HB.out.ev0, a0, by show a ≤ _; omega, fun e => Bool.noConfusion e, HB.out.hd0, HB.out.hd1, HB.out.hdz, HB.out.rem0, HB.out.rem1⟩
      have hG := fun w (hm : PMem w p lb (alS B a)) => advance_calls p lb (alS B a) t t0 hn2 w hok HB1.out hm
      have hal : alS B a = { B with set := true, alarm := a } := rfl
      have Hal := Lib.hid hal
      clear hal hok
      generalize (alS B a).adv t = D at hG ⊢
      generalize alS B a = C at hG Hal
      go_enter Try.func24, Try.ntmps24
      go_wp2_with fail
      refine hS.mono ?_
      clear hS hm
      rintro e w' ⟨rfl, ⟨⟨cap, h1⟩, cs, h2, h3⟩, hf'⟩
      have c4 : w'.cell? ⟨p, 4, none⟩ = some (.bool B.set) := cellB h1 4
      have c3 : w'.cell? ⟨p, 3, none⟩ = some (.int .u64 B.alarm) := cellB h1 3
      have y4 := frozenB h1 4
      have y3 := frozenB h1 3
      have hpl : p ≠ lb := ne_of_type h1 h2 (by decide)
      go_wp2_with fail
      refine (hG _ ?_).mono ?_
      · rw [Hal.out]
        refine ⟨⟨cap, ?_⟩, cs, setB_ne (setB_ne h2 _ _ hpl) _ _ hpl, h3.same rfl rfl rfl⟩
        rw [setB (setB h1 _ _)]
        rfl
      · rintro e w'' ⟨rfl, hm'', hf''⟩
        have hF : Fr [p, lb] w w'' := ((hf'.setCell (Or.inl (by simp)) _).setCell (Or.inl (by simp)) _).trans hf''
        clear hf'' hf' c4 c3 y4 y3 h1 h2 h3 hG
        go_wp2_with fail
        go_ret
        exact ⟨rfl, hm'', hF⟩
end Go.Proofs.Ytjdbhlmkcbgkjaa.Wk
