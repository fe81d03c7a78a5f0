import Derived.Test.YtjdbhlmkcbgkjaaWkK
namespace Go.Proofs.Ytjdbhlmkcbgkjaa.Wk
open Go.RowKit Go.Proofs.YtjdbhlmkcbgkjaaW.PrintWords
set_option linter.unusedVariables false
set_option linter.unusedSimpArgs false

theorem pulS_cases2 (B : St) (k : Nat) (t h : Int) (h0 : 0 ≤ B.hold k) :
    (B.on k = false ∧ pulS B k t h = { B with on := upd B.on k true, hold := upd B.hold k (t + h + 1) }) ∨
    (B.on k = true ∧ B.hold k ≤ 0 ∧ pulS B k t h = B) ∨
    (B.on k = true ∧ 0 < B.hold k ∧ t + h + 1 ≤ B.hold k ∧ pulS B k t h = B) ∨
    (B.on k = true ∧ 0 < B.hold k ∧ B.hold k < t + h + 1 ∧ pulS B k t h = { B with on := upd B.on k true, hold := upd B.hold k (t + h + 1) }) := by
  unfold pulS
  cases ho : B.on k with
  | false => left; simp
  | true =>
    right
    by_cases hh : 0 < B.hold k
    · right
      by_cases hc : B.hold k < t + h + 1
      · right
        refine ⟨rfl, hh, hc, ?_⟩
        rw [if_pos rfl, if_pos hh, show max (B.hold k) (t + h + 1) = t + h + 1 by omega, upd_same B.on k true ho]
      · left
        refine ⟨rfl, hh, by omega, ?_⟩
        rw [if_pos rfl, if_pos hh, show max (B.hold k) (t + h + 1) = B.hold k by omega, upd_same B.hold k _ rfl]
    · left
      exact ⟨rfl, by omega, by rw [if_pos rfl, if_neg hh]⟩

set_option maxHeartbeats 1600000 in
set_option maxRecDepth 100000 in
theorem rpulse_calls (q ob hb : Nat) (A : St) (k t h : Int) (k0 : -9223372036854775808 ≤ k) (k1 : k < 9223372036854775808) (t0 : 0 ≤ t) (t1 : t < 18446744073709551616) (h0 : 0 ≤ h) (h1 : h < 18446744073709551616) (w : World) (hA : A.Ok) (he : A.events ≤ 900000000) (hm : RMem w q ob hb A) :
    Calls Try.prog 32 #[.pointer (some ⟨q, 0, none⟩), .int .i64 k, .int .u64 t, .int .u64 h] w fun e w' => e = .returned (.int .i64 (A.Pulse k t h).1) ∧ RMem w' q ob hb (A.Pulse k t h).2 ∧ Fr [q, ob, hb] w w' := by
  unfold St.Pulse
  have hB := rbad_calls q ob hb A k t k0 k1 t0 t1 w hA hm
  cases hl : A.bad k t with
  | true =>
    rw [hl] at hB
    rw [if_pos (Or.inr rfl)]
    go_enter Try.func32, Try.ntmps32
    go_wp2_with fail
    refine hB.mono ?_
    rintro e w' ⟨rfl, rfl⟩
    clear hB
    go_wp2_with fail
    go_ret
    exact ⟨rfl, hm, Fr.refl _ _⟩
  | false =>
    rw [hl] at hB
    by_cases hm1 : 1152921504606846976 < h
    · rw [if_pos (Or.inl hm1)]
      go_enter Try.func32, Try.ntmps32
      go_wp2_with fail
      refine hB.mono ?_
      rintro e w' ⟨rfl, rfl⟩
      clear hB
      go_wp2_with fail
      go_ret
      exact ⟨rfl, hm, Fr.refl _ _⟩
    · rw [if_neg (by rintro (h | h) <;> simp_all)]
      obtain ⟨j, rfl, hj, _, hn1, hn2⟩ := bad_no hl
      have hS := radvance_calls q ob hb A t t0 hn2 w hA (by omega) hm
      have HB := Lib.hid (hA.adv t0 hn2)
      have hbB := adv_bounds A t
      have hnB := adv_n A t
      have hn := hA.n
      clear hl
      simp only [Int.toNat_natCast]
      clear k0 k1
      generalize A.adv t = B at hS HB hbB hnB ⊢
      have hjB : j < B.n := by omega
      have hnB2 : B.n ≤ 32 := by omega
      have hev : B.events ≤ 1000000000 := by omega
      have Hev := Lib.hid hev
      clear hbB hnB hev
      have hv0 := HB.out.hd0 j
      have hv1 := HB.out.hd1 j
      have HC : Hid ((pulS B j t h).Ok ∧ (pulS B j t h).events ≤ 1000000000) := by
        rcases pulS_cases2 B j t h hv0 with ⟨_, e⟩ | ⟨_, _, e⟩ | ⟨_, _, _, e⟩ | ⟨_, _, _, e⟩
        · exact ⟨put_ok HB.out j _ (by omega) (by omega) e, by rw [e]; exact Hev.out⟩
        · exact ⟨by rw [e]; exact HB.out, by rw [e]; exact Hev.out⟩
        · exact ⟨by rw [e]; exact HB.out, by rw [e]; exact Hev.out⟩
        · exact ⟨put_ok HB.out j _ (by omega) (by omega) e, by rw [e]; exact Hev.out⟩
      have hG := fun w (hm : RMem w q ob hb (pulS B j t h)) => radvance_calls q ob hb (pulS B j t h) t t0 hn2 w HC.out.1 HC.out.2 hm
      have hcs := pulS_cases2 B j t h hv0
      clear HC
      generalize (pulS B j t h).adv t = D at hG ⊢
      generalize pulS B j t h = C at hG hcs
      have Hcs := Lib.hid hcs
      have Hv0 := Lib.hid hv0
      have Hv1 := Lib.hid hv1
      clear hcs hv0 hv1
      go_enter Try.func32, Try.ntmps32
      go_wp2_with fail
      refine hB.mono ?_
      rintro e w' ⟨rfl, rfl⟩
      clear hB
      go_wp2_with fail
      refine hS.mono ?_
      clear hS hm
      rintro e w2 ⟨rfl, ⟨⟨oc, hc, al, al0, al1, al2, g1⟩, ⟨cs, g2, g3⟩, ds, g4, g5⟩, hf'⟩
      have hqo : q ≠ ob := ne_of_type g1 g2 (by decide)
      have hqh : q ≠ hb := ne_of_type g1 g4 (by decide)
      have hoh : ob ≠ hb := ne_of_type g2 g4 (by decide)
      have hm2 : RMem w2 q ob hb B := ⟨⟨oc, hc, al, al0, al1, al2, g1⟩, ⟨cs, g2, g3⟩, ds, g4, g5⟩
      have HM2 := Lib.hid hm2
      obtain ⟨hv, g6, hw0, hw1, hv2⟩ := g5 j hjB
      have hv0 := Hv0.out
      have hv1 := Hv1.out
      have Hv2 := Lib.hid hv2
      have Al2 := Lib.hid al2
      clear hv2 al2 hm2
      have d0 : w2.cell? ⟨q, 0, none⟩ = some (.slice (some ⟨ob, 0, none⟩) B.n oc) := cellB g1 0
      have d1 : w2.cell? ⟨q, 1, none⟩ = some (.slice (some ⟨hb, 0, none⟩) B.n hc) := cellB g1 1
      have x0 : w2.cell? ⟨ob, j, none⟩ = some (.bool (B.on j)) := (cellB g2 _).trans (g3 j hjB)
      have x1 : w2.cell? ⟨hb, j, none⟩ = some (.int .u64 hv) := (cellB g4 _).trans g6
      have y0 := frozenB g2 j
      have y1 := frozenB g4 j
      have H1 := Lib.hid g1
      have H2 := Lib.hid g2
      have H4 := Lib.hid g4
      clear g1 g2 g4 g6
      rcases Hcs.out with ⟨ho, e⟩ | ⟨ho, hh, e⟩ | ⟨ho, hh, hw, e⟩ | ⟨ho, hh, hw, e⟩
      · have He := Lib.hid e
        rw [ho] at x0
        clear e ho
        go_upto_region 5 with (fail)
        go_region
        all_goals
          go_upto_region 8 with (fail)
          have hmC : RMem ((w2.setCell ⟨ob, j, none⟩ (.bool true)).setCell ⟨hb, j, none⟩ (.int .u64 (t + h + 1))).drew q ob hb C := by
            rw [He.out]
            refine ⟨⟨oc, hc, al, al0, al1, Al2.out, ?_⟩, ⟨_, ?_, OCells.put g3 j hjB true rfl rfl⟩, _, ?_, HCells.put g5 j hjB (t + h + 1) (by omega) (by omega) true rfl rfl rfl⟩
            · exact setB_ne (setB_ne H1.out _ _ hqo.symm) _ _ hqh.symm
            · exact setB_ne (setB H2.out _ _) _ _ hoh.symm
            · exact setB (setB_ne H4.out _ _ hoh) _ _
          have hFC : Fr [q, ob, hb] w' ((w2.setCell ⟨ob, j, none⟩ (.bool true)).setCell ⟨hb, j, none⟩ (.int .u64 (t + h + 1))).drew := ((hf'.setCell (Or.inl (by simp)) _).setCell (Or.inl (by simp)) _).drew
          clear x0 x1 y0 y1 d0 d1 H1 H2 H4 g3 g5 hf' HM2
          generalize ((w2.setCell ⟨ob, j, none⟩ (.bool true)).setCell ⟨hb, j, none⟩ (.int .u64 (t + h + 1))).drew = W3 at hmC hFC ⊢
          go_wp2_with fail
          refine (hG _ hmC).mono ?_
          rintro e w'' ⟨rfl, hm'', hf''⟩
          have hF := hFC.trans hf''
          clear hf'' hFC hmC hG
          go_wp2_with fail
          go_ret
          exact ⟨rfl, hm'', hF⟩
      · have He := Lib.hid e
        have hvv := Hv2.out ho
        subst hvv
        rw [ho] at x0
        clear e ho
        go_wp2_with fail
        refine (hG _ (by rw [He.out]; exact HM2.out)).mono ?_
        rintro e w'' ⟨rfl, hm'', hf''⟩
        have hF := hf'.trans hf''
        clear hf'' hf' HM2 hG x0 x1 d0 d1 y0 y1
        go_wp2_with fail
        go_ret
        exact ⟨rfl, hm'', hF⟩
      · have He := Lib.hid e
        have hvv := Hv2.out ho
        subst hvv
        rw [ho] at x0
        clear e ho
        go_wp2_with fail
        refine (hG _ (by rw [He.out]; exact HM2.out)).mono ?_
        rintro e w'' ⟨rfl, hm'', hf''⟩
        have hF := hf'.trans hf''
        clear hf'' hf' HM2 hG x0 x1 d0 d1 y0 y1
        go_wp2_with fail
        go_ret
        exact ⟨rfl, hm'', hF⟩
      · have He := Lib.hid e
        have hvv := Hv2.out ho
        subst hvv
        have Ho := Lib.hid ho
        rw [ho] at x0
        clear e ho
        go_wp2_with fail
        refine (hG _ ?_).mono ?_
        · rw [He.out]
          refine ⟨⟨oc, hc, al, al0, al1, Al2.out, setB_ne H1.out _ _ hqh.symm⟩, ⟨_, setB_ne H2.out _ _ hoh.symm, OCells.same g3 rfl (upd_same B.on j true Ho.out)⟩, _, setB H4.out _ _, HCells.put g5 j hjB (t + h + 1) (by omega) (by omega) true rfl rfl rfl⟩
        · rintro e w'' ⟨rfl, hm'', hf''⟩
          have hF := (hf'.setCell (p := ⟨hb, j, none⟩) (Or.inl (by simp)) (.int .u64 (t + h + 1))).trans hf''
          clear hf'' hf' HM2 hG x0 x1 d0 d1 y0 y1
          go_wp2_with fail
          go_ret
          exact ⟨rfl, hm'', hF⟩

theorem make38 (n : Nat) (hn : n ≤ 32) (W : World) : (Instr.makeSlice 38 (.int .i64 n) (.int .i64 n)).run Try.prog W = .ok (.slice (some ⟨W.heap.size, 0, none⟩) n n) (W.alloc (.cells (madeCells #[.bool false] (n * 1)) 4)) :=
  make_calls0 Try.prog 38 4 (.bool false) 1 1 (by kernel_rfl) (by kernel_rfl) (by omega) n (by omega) W
theorem make39 (n : Nat) (hn : n ≤ 32) (W : World) : (Instr.makeSlice 39 (.int .i64 n) (.int .i64 n)).run Try.prog W = .ok (.slice (some ⟨W.heap.size, 0, none⟩) n n) (W.alloc (.cells (madeCells #[.int .u64 0] (n * 1)) 32)) :=
  make_calls0 Try.prog 39 32 (.int .u64 0) 1 8 (by kernel_rfl) (by kernel_rfl) (by omega) n (by omega) W
end Go.Proofs.Ytjdbhlmkcbgkjaa.Wk
