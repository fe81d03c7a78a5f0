-- Written by a program (a print with some contracts given by this session's own texts).
import Derived.Test.YtkpaglpophfeeaaDoorPAx0
import Derived.Test.YtkpaglpophfeeaaDoorPAx1
import Derived.Test.YtkpaglpophfeeaaDoorPAx2
import Derived.Test.YtkpaglpophfeeaaDoorPAx3
namespace Go.Proofs.YtkpaglpophfeeaaDoor.PA
open Go.RowKit Go.Proofs.YtkpaglpophfeeaaDoorW.PrintWords Go.Proofs.YtkpaglpophfeeaaDoorW.PrintLast Go.Proofs.YtkpaglpophfeeaaDoorW.PrintMore
attribute [local go_sem] max2_int min2_int max_two min_two max_three min_three max_four min_four   -- for this text's walks alone
set_option linter.unusedVariables false
set_option linter.unusedSimpArgs false

attribute [local go_sem high] eqA23
/-! ### sdt_Decode: function 16 -/
def sdt_Decode.j0 : Nat → ByteArray → Int → Bool → Option (ByteArray × Int × ByteArray × ByteArray × Int × Int)
  | 0, _, _, _ => none
  | k + 1, x0, x5, x14 => if x14 = true then (some ((⟨#[]⟩ : ByteArray), 0, (⟨#[]⟩ : ByteArray), (⟨#[]⟩ : ByteArray), 0, 3)) else (if (x0.size : Int) < x5 then (some ((⟨#[]⟩ : ByteArray), 0, (⟨#[]⟩ : ByteArray), (⟨#[]⟩ : ByteArray), 0, 4)) else (if 0 ≤ x5 then (if x5 ≤ (x0.size : Int) then ((sdt_Sum.f k (x0.extract 0 (x5 : Int).toNat)).bind fun t119 => (if t119 = 0 then (if 10 ≤ 16 then (if 16 ≤ (x0.size : Int) then ((strings_TrimRight.f (x0.extract 10 16) (⟨#[0]⟩ : ByteArray)).bind fun t120 => (if 0 ≤ 4 then (if 4 ≤ (x0.size : Int) then (if 8 < (x0.size : Int) then (if 16 ≤ x5 then (some (x0.extract 0 4, wrap64 (bt x0 8), t120, x0.extract 16 (x5 : Int).toNat, x5, 0)) else (none)) else (none)) else (none)) else (none))) else (none)) else (none)) else (some ((⟨#[]⟩ : ByteArray), 0, (⟨#[]⟩ : ByteArray), (⟨#[]⟩ : ByteArray), 0, 5)))) else (none)) else (none)))
def sdt_Decode.f (k : Nat) (a0 : ByteArray) : Option (ByteArray × Int × ByteArray × ByteArray × Int × Int) := if (a0.size : Int) < 16 then (some ((⟨#[]⟩ : ByteArray), 0, (⟨#[]⟩ : ByteArray), (⟨#[]⟩ : ByteArray), 0, 4)) else (if 4 ≤ (a0.size : Int) then ((sdt_number.f k (a0.extract 4 a0.size)).bind fun t117 => (if 0 ≤ 4 then ((sdt_signature.f k (a0.extract 0 4)).bind fun t118 => (if t118 = true then (if t117 < 16 then (sdt_Decode.j0 k a0 t117 true) else (sdt_Decode.j0 k a0 t117 (decide (t117 > 65552)))) else (sdt_Decode.j0 k a0 t117 true))) else (none))) else (none))
theorem sdt_Decode.mono_l : ∀ k, (∀ y0 y1 y2, LeO (sdt_Decode.j0 k y0 y1 y2) (sdt_Decode.j0 (k + 1) y0 y1 y2))
  | 0 => fun _ _ _ r h => by simp [sdt_Decode.j0] at h
  | k + 1 => by
    have ih0 := sdt_Decode.mono_l k
    · intro y0 y1 y2
      unfold sdt_Decode.j0
      repeat' first
      | (with_reducible exact ih0 _ _ _)
      | (with_reducible exact sdt_Sum.mono _ _)
      | (with_reducible exact sdt_number.mono _ _)
      | (with_reducible exact sdt_signature.mono _ _)
      | (with_reducible exact LeO.refl _)
      | (with_reducible exact LeO.none _)
      | (with_reducible refine LeO.ite ?_ ?_)
      | (with_reducible refine LeO.bind ?_ (fun _ => ?_))
      | exact ih0 _ _ _
      | exact sdt_Sum.mono _ _
      | exact sdt_number.mono _ _
      | exact sdt_signature.mono _ _
      | exact LeO.none _
      | refine LeO.ite ?_ ?_
      | refine LeO.bind ?_ (fun _ => ?_)
theorem sdt_Decode.mono : ∀ a0 k, LeO (sdt_Decode.f k a0) (sdt_Decode.f (k + 1) a0) := by
  intro a0 k
  have ih0 := sdt_Decode.mono_l k
  unfold sdt_Decode.f
  repeat' first
      | (with_reducible exact ih0 _ _ _)
      | (with_reducible exact sdt_Sum.mono _ _)
      | (with_reducible exact sdt_number.mono _ _)
      | (with_reducible exact sdt_signature.mono _ _)
      | (with_reducible exact LeO.refl _)
      | (with_reducible exact LeO.none _)
      | (with_reducible refine LeO.ite ?_ ?_)
      | (with_reducible refine LeO.bind ?_ (fun _ => ?_))
      | exact ih0 _ _ _
      | exact sdt_Sum.mono _ _
      | exact sdt_number.mono _ _
      | exact sdt_signature.mono _ _
      | exact LeO.none _
      | refine LeO.ite ?_ ?_
      | refine LeO.bind ?_ (fun _ => ?_)
def sdt_Decode.T11 : Bool × List (List Nat × List Nat) := (true, [([], []), ([0], [0]), ([], []), ([2], [2]), ([3], [3]), ([], []), ([], []), ([], []), ([6, 7], [6, 7]), ([1, 4, 5, 8], [1, 4, 5, 8]), ([], []), ([9, 0, 1, 2, 3, 4, 5, 6, 7, 8, 9], [9]), ([10, 11, 0, 1, 2, 3, 4, 5, 6, 7, 8, 9, 10, 11], [10]), ([12, 0, 1, 2, 3, 4, 5, 6, 7, 8, 9, 10, 11, 12], [])])
def sdt_Decode.B11 : List Nat := [0, 1, 0, 4, 12, 0, 0, 0, 192, 511, 0, 1023, 4095, 8191]
theorem sdt_Decode.tab11 : rtab .any (opsOf Tryd.f16 11) = sdt_Decode.T11 := by kernel_rfl
theorem sdt_Decode.bits11 : waitsOk sdt_Decode.T11.2 sdt_Decode.B11 = true := by kernel_rfl
set_option maxHeartbeats 8000000 in
set_option maxRecDepth 100000 in
theorem sdt_Decode.calls (k : Nat) (a0 : ByteArray) (r1 : ByteArray) (r2 : Int) (r3 : ByteArray) (r4 : ByteArray) (r5 : Int) (r6 : Int) (w : World) (h : sdt_Decode.f k a0 = some (r1, r2, r3, r4, r5, r6)) :
    Calls Tryd.prog 16 #[.string a0] w fun e w' => e = .returned (.tuple #[.agg #[.string r1, .int .i64 r2, .string r3, .string r4], .int .i64 r5, .int .i64 r6]) ∧ Below w.heap.size w w' := by
  have hu23 := Tryd.underlying23
  have HB := Aside0.mk (Below.refl w.heap.size w)
  have H : (if (a0.size : Int) < 16 then (some ((⟨#[]⟩ : ByteArray), 0, (⟨#[]⟩ : ByteArray), (⟨#[]⟩ : ByteArray), 0, 4)) else (if 4 ≤ (a0.size : Int) then ((sdt_number.f k (a0.extract 4 a0.size)).bind fun t117 => (if 0 ≤ 4 then ((sdt_signature.f k (a0.extract 0 4)).bind fun t118 => (if t118 = true then (if t117 < 16 then (sdt_Decode.j0 k a0 t117 true) else (sdt_Decode.j0 k a0 t117 (decide (t117 > 65552)))) else (sdt_Decode.j0 k a0 t117 true))) else (none))) else (none))) = some (r1, r2, r3, r4, r5, r6) := h
  clear h
  by_cases c2 : (a0.size : Int) < 16
  · rw [if_pos c2] at H
    have c2b0 : decide ((a0.size : Int) < 16) = true := decide_eq_true c2
    have c2b1 : decide (a0.size < 16) = true := decide_eq_true (by omega)
    clear c2
    simp only [Option.some.injEq, Prod.mk.injEq] at H
    obtain ⟨rfl, rfl, rfl, rfl, rfl, rfl⟩ := H
    go_enter Tryd.func16, Tryd.ntmps16
    go_wp2_with (first | ((with_reducible refine gate_dst (N := 2) rfl ?_); refine box_event ?hg (N := 2) ?hd (cs := #[.string (⟨#[]⟩ : ByteArray), .int .i64 0, .string (⟨#[]⟩ : ByteArray), .string (⟨#[]⟩ : ByteArray)]) (t := 23) ?hr ?_; (case hd => rfl); (case hg => rfl); (case hr => first | (go_simp; done) | (go_simp; rfl)); intro gb116 hg w3 hbox hb; have n0_ := Aside0.mk (below_step (by repeat (first | (with_reducible first | exact HB.out | apply below_alloc | apply pw_below_drewN | apply below_drew1) | exact HB.out)) hb); have n1_ := Aside0.mk (hbox); have n2_ := Aside0.mk ((by rw [hg]; exact (below_size (by repeat (first | (with_reducible first | exact HB.out | apply below_alloc | apply pw_below_drewN | apply below_drew1) | exact HB.out))) : w.heap.size ≤ gb116)); have n3_ := Aside0.mk ((by rw [hg]; exact (below_size (by repeat (first | (with_reducible first | exact HB.out | apply below_alloc | apply pw_below_drewN | apply below_drew1) | exact HB.out))) : w.heap.size ≤ gb116)); clear HB; have HB := n0_; have BK116 := n1_; have GW116 := n2_; have GE116 := n3_; clear n0_ n1_ n2_ n3_; clear hb hbox hg; have hcz4_0 : w3.cell? ⟨gb116, 0, none⟩ = some (.string (⟨#[]⟩ : ByteArray)) := (blk_cell BK116.out 0).trans rfl; have hcz4_1 : w3.cell? ⟨gb116, 1, none⟩ = some (.int .i64 0) := (blk_cell BK116.out 1).trans rfl; have hcz4_2 : w3.cell? ⟨gb116, 2, none⟩ = some (.string (⟨#[]⟩ : ByteArray)) := (blk_cell BK116.out 2).trans rfl; have hcz4_3 : w3.cell? ⟨gb116, 3, none⟩ = some (.string (⟨#[]⟩ : ByteArray)) := (blk_cell BK116.out 3).trans rfl; have hfz4_0 := blk_frozen BK116.out 0; have hfz4_1 := blk_frozen BK116.out 1; have hfz4_2 := blk_frozen BK116.out 2; have hfz4_3 := blk_frozen BK116.out 3))
    refine bodyPost_ret (results_ctt rfl _ _ gb116 23 #[.string (⟨#[]⟩ : ByteArray), .int .i64 0, .string (⟨#[]⟩ : ByteArray), .string (⟨#[]⟩ : ByteArray)] (0, 0) _ rfl (by (with_reducible repeat (first | refine blk_drewN ?_ _ | refine blk_drew ?_ | refine blk_alloc ?_ _)); refine blk_put (cs := #[.string (⟨#[]⟩ : ByteArray), .int .i64 0, .string (⟨#[]⟩ : ByteArray), .string (⟨#[]⟩ : ByteArray)]) ?_ 3 _ rfl; (with_reducible repeat (first | refine blk_drewN ?_ _ | refine blk_drew ?_ | refine blk_alloc ?_ _)); refine blk_put (cs := #[.string (⟨#[]⟩ : ByteArray), .int .i64 0, .string (⟨#[]⟩ : ByteArray), .string (⟨#[]⟩ : ByteArray)]) ?_ 2 _ rfl; (with_reducible repeat (first | refine blk_drewN ?_ _ | refine blk_drew ?_ | refine blk_alloc ?_ _)); refine blk_put (cs := #[.string (⟨#[]⟩ : ByteArray), .int .i64 0, .string (⟨#[]⟩ : ByteArray), .string (⟨#[]⟩ : ByteArray)]) ?_ 1 _ rfl; (with_reducible repeat (first | refine blk_drewN ?_ _ | refine blk_drew ?_ | refine blk_alloc ?_ _)); refine blk_put (cs := #[.string (⟨#[]⟩ : ByteArray), .int .i64 0, .string (⟨#[]⟩ : ByteArray), .string (⟨#[]⟩ : ByteArray)]) ?_ 0 _ rfl; (with_reducible repeat (first | refine blk_drewN ?_ _ | refine blk_drew ?_ | refine blk_alloc ?_ _)); exact BK116.out) Tryd.underlying23 rfl (by kernel_rfl)) rfl ?_
    exact ⟨by first | rfl | (simp [errW_none, errW_some] <;> rfl) | (simp [*, errW_none, errW_some] <;> rfl), by repeat (first | (with_reducible first | exact HB.out | apply below_alloc | apply pw_below_drewN | apply below_drew1 | refine below_set ?_ GE116.out) | exact HB.out)⟩
  · rw [if_neg c2] at H
    have c2b0 : decide ((a0.size : Int) < 16) = false := decide_eq_false c2
    have c2b1 : decide (a0.size < 16) = false := decide_eq_false (by omega)
    clear c2
    by_cases c5 : 4 ≤ (a0.size : Int)
    · rw [if_pos c5] at H
      have c5b0 := eq_true c5
      have c5b1 : decide (4 ≤ (a0.size : Int)) = true := decide_eq_true c5
      clear c5
      replace H := Option.bind_eq_some_iff.mp H
      obtain ⟨t117, A60, H⟩ := H
      replace H : (if 0 ≤ 4 then ((sdt_signature.f k (a0.extract 0 4)).bind fun t118 => (if t118 = true then (if t117 < 16 then (sdt_Decode.j0 k a0 t117 true) else (sdt_Decode.j0 k a0 t117 (decide (t117 > 65552)))) else (sdt_Decode.j0 k a0 t117 true))) else (none)) = some (r1, r2, r3, r4, r5, r6) := H
      have A6 := Aside0.mk A60
      clear A60
      have HC7 := Aside0.mk H
      clear H
      go_enter Tryd.func16, Tryd.ntmps16
      go_upto_region 4 with (first | ((with_reducible refine gate_dst (N := 2) rfl ?_); refine box_event ?hg (N := 2) ?hd (cs := #[.string (⟨#[]⟩ : ByteArray), .int .i64 0, .string (⟨#[]⟩ : ByteArray), .string (⟨#[]⟩ : ByteArray)]) (t := 23) ?hr ?_; (case hd => rfl); (case hg => rfl); (case hr => first | (go_simp; done) | (go_simp; rfl)); intro gb116 hg w8 hbox hb; have n0_ := Aside0.mk (below_step (by repeat (first | (with_reducible first | exact HB.out | apply below_alloc | apply pw_below_drewN | apply below_drew1) | exact HB.out)) hb); have n1_ := Aside0.mk (hbox); have n2_ := Aside0.mk ((by rw [hg]; exact (below_size (by repeat (first | (with_reducible first | exact HB.out | apply below_alloc | apply pw_below_drewN | apply below_drew1) | exact HB.out))) : w.heap.size ≤ gb116)); have n3_ := Aside0.mk ((by rw [hg]; exact (below_size (by repeat (first | (with_reducible first | exact HB.out | apply below_alloc | apply pw_below_drewN | apply below_drew1) | exact HB.out))) : w.heap.size ≤ gb116)); clear HB; have HB := n0_; have BK116 := n1_; have GW116 := n2_; have GE116 := n3_; clear n0_ n1_ n2_ n3_; clear hb hbox hg) | ((with_reducible refine gate_callee (f := 29) rfl ?_); refine goesL_ (some 13) rfl rfl Tryd.func29 (by kernel_rfl) rfl #[.string (a0.extract 4 a0.size)] rfl (by (try simp only [List.map_toArray, List.map_cons, List.map_nil]); first | done | rfl | (simp only [List.length_drop, List.length_take]; rfl)) ?_; (with_reducible refine (sdt_number.calls k (a0.extract 4 a0.size) t117 _ A6.out).mono ?_); rintro e w' ⟨rfl, ⟨nd, rfl⟩⟩; refine ⟨_, rfl, ?_⟩))
      (try simp only [Act.put, List.setIfInBounds_toArray, List.set_cons_zero, List.set_cons_succ])
      go_cut [14] (fun v14 wc => ∃ (kq : Nat) (x14_6 : Bool), v14 = .bool x14_6 ∧ Aside0 (sdt_Decode.j0 kq a0 t117 x14_6 = some (r1, r2, r3, r4, r5, r6)) ∧ Aside0 (kq ≤ k) ∧ Aside0 (wc.heap[gb116]? = some (.cells #[.string (⟨#[]⟩ : ByteArray), .int .i64 0, .string (⟨#[]⟩ : ByteArray), .string (⟨#[]⟩ : ByteArray)] 23 (0, 0))) ∧ Aside0 (Below w.heap.size w wc))
      case first =>
        have H := HC7.out
        clear HC7
        by_cases c9 : 0 ≤ 4
        · rw [if_pos c9] at H
          have c9b0 := eq_true c9
          have c9b1 : decide (0 ≤ 4) = true := decide_eq_true c9
          clear c9
          have c10b0 := eq_true (of_decide_eq_true (by first | (with_reducible assumption) | assumption) : 4 ≤ (a0.size : Int))
          replace H := Option.bind_eq_some_iff.mp H
          obtain ⟨t118, A110, H⟩ := H
          replace H : (if t118 = true then (if t117 < 16 then (sdt_Decode.j0 k a0 t117 true) else (sdt_Decode.j0 k a0 t117 (decide (t117 > 65552)))) else (sdt_Decode.j0 k a0 t117 true)) = some (r1, r2, r3, r4, r5, r6) := H
          have A11 := Aside0.mk A110
          clear A110
          by_cases c12 : t118 = true
          · subst c12
            have H1 : (if t117 < 16 then (sdt_Decode.j0 k a0 t117 true) else (sdt_Decode.j0 k a0 t117 (decide (t117 > 65552)))) = some (r1, r2, r3, r4, r5, r6) := by rw [if_pos rfl] at H; exact H
            clear H
            have H := H1
            clear H1
            by_cases c13 : t117 < 16
            · rw [if_pos c13] at H
              have c13b0 : decide (t117 < 16) = true := decide_eq_true c13
              clear c13
              (first | rw [c13b0] | (simp only [i64_w, i32_w]; rw [c13b0]) | skip)
              have H' := Aside0.mk H
              clear H
              go_wp2_with (first | ((with_reducible refine gate_callee (f := 30) rfl ?_); refine goesL_ (some 17) rfl rfl Tryd.func30 (by kernel_rfl) rfl #[.string (a0.extract 0 4)] rfl (by (try simp only [List.map_toArray, List.map_cons, List.map_nil]); first | done | rfl | (simp only [List.length_drop, List.length_take]; rfl)) ?_; (with_reducible refine (sdt_signature.calls k (a0.extract 0 4) true _ A11.out).mono ?_); rintro e w' ⟨rfl, ⟨nd, rfl⟩⟩; refine ⟨_, rfl, ?_⟩))
              go_meet
              case rel => exact ⟨_, (true), (by first | rfl | (simp; done) | (simp [*]; done)), H', ⟨by first | omega | exact Nat.le_refl _⟩, ⟨by (with_reducible repeat (first | refine blk_drewN ?_ _ | refine blk_drew ?_ | refine blk_alloc ?_ _)); exact BK116.out⟩, ⟨by repeat (first | (with_reducible first | exact HB.out | apply below_alloc | apply pw_below_drewN | apply below_drew1 | refine below_set ?_ GE116.out) | exact HB.out)⟩⟩
            · rw [if_neg c13] at H
              have c13b0 : decide (t117 < 16) = false := decide_eq_false c13
              clear c13
              (first | rw [c13b0] | (simp only [i64_w, i32_w]; rw [c13b0]) | skip)
              have H' := Aside0.mk H
              clear H
              go_wp2_with (first | ((with_reducible refine gate_callee (f := 30) rfl ?_); refine goesL_ (some 17) rfl rfl Tryd.func30 (by kernel_rfl) rfl #[.string (a0.extract 0 4)] rfl (by (try simp only [List.map_toArray, List.map_cons, List.map_nil]); first | done | rfl | (simp only [List.length_drop, List.length_take]; rfl)) ?_; (with_reducible refine (sdt_signature.calls k (a0.extract 0 4) true _ A11.out).mono ?_); rintro e w' ⟨rfl, ⟨nd, rfl⟩⟩; refine ⟨_, rfl, ?_⟩))
              go_meet
              case rel => exact ⟨_, (decide (t117 > 65552)), (by first | rfl | (simp; done) | (simp [*]; done)), H', ⟨by first | omega | exact Nat.le_refl _⟩, ⟨by (with_reducible repeat (first | refine blk_drewN ?_ _ | refine blk_drew ?_ | refine blk_alloc ?_ _)); exact BK116.out⟩, ⟨by repeat (first | (with_reducible first | exact HB.out | apply below_alloc | apply pw_below_drewN | apply below_drew1 | refine below_set ?_ GE116.out) | exact HB.out)⟩⟩
          · replace c12 := Bool.eq_false_iff.mpr c12
            subst c12
            have H1 : (sdt_Decode.j0 k a0 t117 true) = some (r1, r2, r3, r4, r5, r6) := by rw [if_neg (show ¬ (false = true) by decide)] at H; exact H
            clear H
            have H := H1
            clear H1
            have H' := Aside0.mk H
            clear H
            go_wp2_with (first | ((with_reducible refine gate_callee (f := 30) rfl ?_); refine goesL_ (some 17) rfl rfl Tryd.func30 (by kernel_rfl) rfl #[.string (a0.extract 0 4)] rfl (by (try simp only [List.map_toArray, List.map_cons, List.map_nil]); first | done | rfl | (simp only [List.length_drop, List.length_take]; rfl)) ?_; (with_reducible refine (sdt_signature.calls k (a0.extract 0 4) false _ A11.out).mono ?_); rintro e w' ⟨rfl, ⟨nd, rfl⟩⟩; refine ⟨_, rfl, ?_⟩))
            go_meet
            case rel => exact ⟨_, (true), (by first | rfl | (simp; done) | (simp [*]; done)), H', ⟨by first | omega | exact Nat.le_refl _⟩, ⟨by (with_reducible repeat (first | refine blk_drewN ?_ _ | refine blk_drew ?_ | refine blk_alloc ?_ _)); exact BK116.out⟩, ⟨by repeat (first | (with_reducible first | exact HB.out | apply below_alloc | apply pw_below_drewN | apply below_drew1 | refine below_set ?_ GE116.out) | exact HB.out)⟩⟩
        · rw [if_neg c9] at H
          exact absurd H (by simp)
      case rest =>
        clear HC7
        try clear c1
        try clear c2
        try clear c2b0
        try clear c2b1
        try clear p2
        try clear c3
        try clear c5
        try clear c5b0
        try clear c5b1
        try clear c9
        try clear c9b0
        try clear c9b1
        try clear c10
        try clear c10b0
        try clear c12
        try clear c13
        try clear c13b0
        try clear hcz4_0
        try clear hcz4_1
        try clear hcz4_2
        try clear hcz4_3
        try clear hfz4_0
        try clear hfz4_1
        try clear hfz4_2
        try clear hfz4_3
        obtain ⟨kq, x14_6, rfl, HA, HJ6, BK116, HB⟩ := hcut
        cases kq with
        | zero => exact absurd HA.out (by simp [sdt_Decode.j0])
        | succ kj6 =>
          have H := HA.out
          clear HA
          simp only [sdt_Decode.j0] at H
          by_cases c14 : x14_6 = true
          · subst c14
            have H1 : (some ((⟨#[]⟩ : ByteArray), 0, (⟨#[]⟩ : ByteArray), (⟨#[]⟩ : ByteArray), 0, 3)) = some (r1, r2, r3, r4, r5, r6) := by rw [if_pos rfl] at H; exact H
            clear H
            have H := H1
            clear H1
            simp only [Option.some.injEq, Prod.mk.injEq] at H
            obtain ⟨rfl, rfl, rfl, rfl, rfl, rfl⟩ := H
            have hcz15_0 : wc.cell? ⟨gb116, 0, none⟩ = some (.string (⟨#[]⟩ : ByteArray)) := (blk_cell BK116.out 0).trans rfl
            have hcz15_1 : wc.cell? ⟨gb116, 1, none⟩ = some (.int .i64 0) := (blk_cell BK116.out 1).trans rfl
            have hcz15_2 : wc.cell? ⟨gb116, 2, none⟩ = some (.string (⟨#[]⟩ : ByteArray)) := (blk_cell BK116.out 2).trans rfl
            have hcz15_3 : wc.cell? ⟨gb116, 3, none⟩ = some (.string (⟨#[]⟩ : ByteArray)) := (blk_cell BK116.out 3).trans rfl
            have hfz15_0 := blk_frozen BK116.out 0
            have hfz15_1 := blk_frozen BK116.out 1
            have hfz15_2 := blk_frozen BK116.out 2
            have hfz15_3 := blk_frozen BK116.out 3
            go_wp2
            refine bodyPost_ret (results_ctt rfl _ _ gb116 23 #[.string (⟨#[]⟩ : ByteArray), .int .i64 0, .string (⟨#[]⟩ : ByteArray), .string (⟨#[]⟩ : ByteArray)] (0, 0) _ rfl (by (with_reducible repeat (first | refine blk_drewN ?_ _ | refine blk_drew ?_ | refine blk_alloc ?_ _)); refine blk_put (cs := #[.string (⟨#[]⟩ : ByteArray), .int .i64 0, .string (⟨#[]⟩ : ByteArray), .string (⟨#[]⟩ : ByteArray)]) ?_ 3 _ rfl; (with_reducible repeat (first | refine blk_drewN ?_ _ | refine blk_drew ?_ | refine blk_alloc ?_ _)); refine blk_put (cs := #[.string (⟨#[]⟩ : ByteArray), .int .i64 0, .string (⟨#[]⟩ : ByteArray), .string (⟨#[]⟩ : ByteArray)]) ?_ 2 _ rfl; (with_reducible repeat (first | refine blk_drewN ?_ _ | refine blk_drew ?_ | refine blk_alloc ?_ _)); refine blk_put (cs := #[.string (⟨#[]⟩ : ByteArray), .int .i64 0, .string (⟨#[]⟩ : ByteArray), .string (⟨#[]⟩ : ByteArray)]) ?_ 1 _ rfl; (with_reducible repeat (first | refine blk_drewN ?_ _ | refine blk_drew ?_ | refine blk_alloc ?_ _)); refine blk_put (cs := #[.string (⟨#[]⟩ : ByteArray), .int .i64 0, .string (⟨#[]⟩ : ByteArray), .string (⟨#[]⟩ : ByteArray)]) ?_ 0 _ rfl; (with_reducible repeat (first | refine blk_drewN ?_ _ | refine blk_drew ?_ | refine blk_alloc ?_ _)); exact BK116.out) Tryd.underlying23 rfl (by kernel_rfl)) rfl ?_
            exact ⟨by first | rfl | (simp [errW_none, errW_some] <;> rfl) | (simp [*, errW_none, errW_some] <;> rfl), by repeat (first | (with_reducible first | exact HB.out | apply below_alloc | apply pw_below_drewN | apply below_drew1 | refine below_set ?_ GE116.out) | exact HB.out)⟩
          · replace c14 := Bool.eq_false_iff.mpr c14
            subst c14
            have H1 : (if (a0.size : Int) < t117 then (some ((⟨#[]⟩ : ByteArray), 0, (⟨#[]⟩ : ByteArray), (⟨#[]⟩ : ByteArray), 0, 4)) else (if 0 ≤ t117 then (if t117 ≤ (a0.size : Int) then ((sdt_Sum.f kj6 (a0.extract 0 (t117 : Int).toNat)).bind fun t119 => (if t119 = 0 then (if 10 ≤ 16 then (if 16 ≤ (a0.size : Int) then ((strings_TrimRight.f (a0.extract 10 16) (⟨#[0]⟩ : ByteArray)).bind fun t120 => (if 0 ≤ 4 then (if 4 ≤ (a0.size : Int) then (if 8 < (a0.size : Int) then (if 16 ≤ t117 then (some (a0.extract 0 4, wrap64 (bt a0 8), t120, a0.extract 16 (t117 : Int).toNat, t117, 0)) else (none)) else (none)) else (none)) else (none))) else (none)) else (none)) else (some ((⟨#[]⟩ : ByteArray), 0, (⟨#[]⟩ : ByteArray), (⟨#[]⟩ : ByteArray), 0, 5)))) else (none)) else (none))) = some (r1, r2, r3, r4, r5, r6) := by rw [if_neg (show ¬ (false = true) by decide)] at H; exact H
            clear H
            have H := H1
            clear H1
            by_cases c16 : (a0.size : Int) < t117
            · rw [if_pos c16] at H
              have c16b0 : decide ((a0.size : Int) < t117) = true := decide_eq_true c16
              clear c16
              simp only [Option.some.injEq, Prod.mk.injEq] at H
              obtain ⟨rfl, rfl, rfl, rfl, rfl, rfl⟩ := H
              have hcz17_0 : wc.cell? ⟨gb116, 0, none⟩ = some (.string (⟨#[]⟩ : ByteArray)) := (blk_cell BK116.out 0).trans rfl
              have hcz17_1 : wc.cell? ⟨gb116, 1, none⟩ = some (.int .i64 0) := (blk_cell BK116.out 1).trans rfl
              have hcz17_2 : wc.cell? ⟨gb116, 2, none⟩ = some (.string (⟨#[]⟩ : ByteArray)) := (blk_cell BK116.out 2).trans rfl
              have hcz17_3 : wc.cell? ⟨gb116, 3, none⟩ = some (.string (⟨#[]⟩ : ByteArray)) := (blk_cell BK116.out 3).trans rfl
              have hfz17_0 := blk_frozen BK116.out 0
              have hfz17_1 := blk_frozen BK116.out 1
              have hfz17_2 := blk_frozen BK116.out 2
              have hfz17_3 := blk_frozen BK116.out 3
              go_wp2
              refine bodyPost_ret (results_ctt rfl _ _ gb116 23 #[.string (⟨#[]⟩ : ByteArray), .int .i64 0, .string (⟨#[]⟩ : ByteArray), .string (⟨#[]⟩ : ByteArray)] (0, 0) _ rfl (by (with_reducible repeat (first | refine blk_drewN ?_ _ | refine blk_drew ?_ | refine blk_alloc ?_ _)); refine blk_put (cs := #[.string (⟨#[]⟩ : ByteArray), .int .i64 0, .string (⟨#[]⟩ : ByteArray), .string (⟨#[]⟩ : ByteArray)]) ?_ 3 _ rfl; (with_reducible repeat (first | refine blk_drewN ?_ _ | refine blk_drew ?_ | refine blk_alloc ?_ _)); refine blk_put (cs := #[.string (⟨#[]⟩ : ByteArray), .int .i64 0, .string (⟨#[]⟩ : ByteArray), .string (⟨#[]⟩ : ByteArray)]) ?_ 2 _ rfl; (with_reducible repeat (first | refine blk_drewN ?_ _ | refine blk_drew ?_ | refine blk_alloc ?_ _)); refine blk_put (cs := #[.string (⟨#[]⟩ : ByteArray), .int .i64 0, .string (⟨#[]⟩ : ByteArray), .string (⟨#[]⟩ : ByteArray)]) ?_ 1 _ rfl; (with_reducible repeat (first | refine blk_drewN ?_ _ | refine blk_drew ?_ | refine blk_alloc ?_ _)); refine blk_put (cs := #[.string (⟨#[]⟩ : ByteArray), .int .i64 0, .string (⟨#[]⟩ : ByteArray), .string (⟨#[]⟩ : ByteArray)]) ?_ 0 _ rfl; (with_reducible repeat (first | refine blk_drewN ?_ _ | refine blk_drew ?_ | refine blk_alloc ?_ _)); exact BK116.out) Tryd.underlying23 rfl (by kernel_rfl)) rfl ?_
              exact ⟨by first | rfl | (simp [errW_none, errW_some] <;> rfl) | (simp [*, errW_none, errW_some] <;> rfl), by repeat (first | (with_reducible first | exact HB.out | apply below_alloc | apply pw_below_drewN | apply below_drew1 | refine below_set ?_ GE116.out) | exact HB.out)⟩
            · rw [if_neg c16] at H
              have c16b0 : decide ((a0.size : Int) < t117) = false := decide_eq_false c16
              clear c16
              by_cases c18 : 0 ≤ t117
              · rw [if_pos c18] at H
                have c18b0 := eq_true c18
                have c18b1 : decide (0 ≤ t117) = true := decide_eq_true c18
                clear c18
                by_cases c19 : t117 ≤ (a0.size : Int)
                · rw [if_pos c19] at H
                  have c19b0 := eq_true c19
                  have c19b1 : decide (t117 ≤ (a0.size : Int)) = true := decide_eq_true c19
                  clear c19
                  replace H := Option.bind_eq_some_iff.mp H
                  obtain ⟨t119, A200, H⟩ := H
                  replace H : (if t119 = 0 then (if 10 ≤ 16 then (if 16 ≤ (a0.size : Int) then ((strings_TrimRight.f (a0.extract 10 16) (⟨#[0]⟩ : ByteArray)).bind fun t120 => (if 0 ≤ 4 then (if 4 ≤ (a0.size : Int) then (if 8 < (a0.size : Int) then (if 16 ≤ t117 then (some (a0.extract 0 4, wrap64 (bt a0 8), t120, a0.extract 16 (t117 : Int).toNat, t117, 0)) else (none)) else (none)) else (none)) else (none))) else (none)) else (none)) else (some ((⟨#[]⟩ : ByteArray), 0, (⟨#[]⟩ : ByteArray), (⟨#[]⟩ : ByteArray), 0, 5))) = some (r1, r2, r3, r4, r5, r6) := H
                  have A20 := Aside0.mk A200
                  clear A200
                  by_cases c21 : t119 = 0
                  · rw [if_pos c21] at H
                    have c21b0 : (t119 == 0) = true := beq_iff_eq.mpr c21
                    have c21b1 : (t119 != 0) = false := bne_eq_false_iff_eq.mpr c21
                    clear c21
                    by_cases c22 : 10 ≤ 16
                    · rw [if_pos c22] at H
                      have c22b0 := eq_true c22
                      have c22b1 : decide (10 ≤ 16) = true := decide_eq_true c22
                      clear c22
                      by_cases c23 : 16 ≤ (a0.size : Int)
                      · rw [if_pos c23] at H
                        have c23b0 := eq_true c23
                        have c23b1 : decide (16 ≤ (a0.size : Int)) = true := decide_eq_true c23
                        clear c23
                        replace H := Option.bind_eq_some_iff.mp H
                        obtain ⟨t120, A240, H⟩ := H
                        replace H : (if 0 ≤ 4 then (if 4 ≤ (a0.size : Int) then (if 8 < (a0.size : Int) then (if 16 ≤ t117 then (some (a0.extract 0 4, wrap64 (bt a0 8), t120, a0.extract 16 (t117 : Int).toNat, t117, 0)) else (none)) else (none)) else (none)) else (none)) = some (r1, r2, r3, r4, r5, r6) := H
                        have A24 := Aside0.mk A240
                        clear A240
                        by_cases c25 : 0 ≤ 4
                        · rw [if_pos c25] at H
                          have c25b0 := eq_true c25
                          have c25b1 : decide (0 ≤ 4) = true := decide_eq_true c25
                          clear c25
                          by_cases c26 : 4 ≤ (a0.size : Int)
                          · rw [if_pos c26] at H
                            have c26b0 := eq_true c26
                            have c26b1 : decide (4 ≤ (a0.size : Int)) = true := decide_eq_true c26
                            clear c26
                            by_cases c27 : 8 < (a0.size : Int)
                            · rw [if_pos c27] at H
                              have c27b0 : decide (8 < (a0.size : Int)) = true := decide_eq_true c27
                              have c27b1 : decide (8 < a0.size) = true := decide_eq_true (by omega)
                              clear c27
                              by_cases c29 : 16 ≤ t117
                              · rw [if_pos c29] at H
                                have c29b0 := eq_true c29
                                have c29b1 : decide (16 ≤ t117) = true := decide_eq_true c29
                                clear c29
                                have c30b0 := eq_true (of_decide_eq_true (by first | (with_reducible assumption) | assumption) : t117 ≤ (a0.size : Int))
                                simp only [Option.some.injEq, Prod.mk.injEq] at H
                                obtain ⟨rfl, rfl, rfl, rfl, rfl, rfl⟩ := H
                                try go_wp2_with (first | ((with_reducible refine gate_callee (f := 12) rfl ?_); refine goesL_ (some 38) rfl rfl Tryd.func12 (by kernel_rfl) rfl #[.string (a0.extract 0 (t117 : Int).toNat)] rfl (by (try simp only [List.map_toArray, List.map_cons, List.map_nil]); first | done | rfl | (simp only [List.length_drop, List.length_take]; rfl)) ?_; (with_reducible refine (sdt_Sum.calls kj6 (a0.extract 0 (t117 : Int).toNat) t119 _ A20.out).mono ?_); rintro e w' ⟨rfl, ⟨nd, rfl⟩⟩; refine ⟨_, rfl, ?_⟩; (try (rw [drewN_self wc]; generalize hq_ : World.drewN wc _ = wc; have n0_ : Aside0 (wc.heap[gb116]? = some (.cells #[.string (⟨#[]⟩ : ByteArray), .int .i64 0, .string (⟨#[]⟩ : ByteArray), .string (⟨#[]⟩ : ByteArray)] 23 (0, 0))) := ⟨by rw [← hq_]; exact (by (with_reducible repeat (first | refine blk_drewN ?_ _ | refine blk_drew ?_ | refine blk_alloc ?_ _)); exact BK116.out)⟩; have n1_ : Aside0 (Below w.heap.size w wc) := ⟨by rw [← hq_]; exact (by repeat (first | (with_reducible first | exact HB.out | apply below_alloc | apply pw_below_drewN | apply below_drew1 | refine below_set ?_ GE116.out) | exact HB.out))⟩; clear BK116 HB hq_; have BK116 := n0_; have HB := n1_; clear n0_ n1_))) | ((with_reducible refine gate_callee (f := 31) rfl ?_); refine goesL_ (some 43) rfl rfl Tryd.func31 (by kernel_rfl) rfl #[.string (a0.extract 10 16), .string (⟨#[0]⟩ : ByteArray)] rfl (by (try simp only [List.map_toArray, List.map_cons, List.map_nil]); first | done | rfl | (simp only [List.length_drop, List.length_take]; rfl)) ?_; (with_reducible refine (strings_TrimRight.calls (a0.extract 10 16) (⟨#[0]⟩ : ByteArray) t120 _ A24.out).mono ?_); rintro e w' ⟨rfl, ⟨nd, rfl⟩⟩; refine ⟨_, rfl, ?_⟩; (try (rw [drewN_self wc]; generalize hq_ : World.drewN wc _ = wc; have n0_ : Aside0 (wc.heap[gb116]? = some (.cells #[.string (⟨#[]⟩ : ByteArray), .int .i64 0, .string (⟨#[]⟩ : ByteArray), .string (⟨#[]⟩ : ByteArray)] 23 (0, 0))) := ⟨by rw [← hq_]; exact (by (with_reducible repeat (first | refine blk_drewN ?_ _ | refine blk_drew ?_ | refine blk_alloc ?_ _)); exact BK116.out)⟩; have n1_ : Aside0 (Below w.heap.size w wc) := ⟨by rw [← hq_]; exact (by repeat (first | (with_reducible first | exact HB.out | apply below_alloc | apply pw_below_drewN | apply below_drew1 | refine below_set ?_ GE116.out) | exact HB.out))⟩; clear BK116 HB hq_; have BK116 := n0_; have HB := n1_; clear n0_ n1_))))
                                have n0_ := Aside0.mk (blk_drew BK116.out)
                                have n1_ := Aside0.mk (below_drew1 HB.out)
                                clear BK116
                                clear HB
                                have BK116 := n0_
                                have HB := n1_
                                clear n0_ n1_
                                have p28 : 0 ≤ (8 : Int) := (by omega)
                                have q28 : 8 < a0.size := (by have : (8 : Int) < (a0.size : Int) := of_decide_eq_true (by first | (with_reducible assumption) | assumption); omega)
                                have hx28 : ∀ h : 8 < a0.size, ((a0[8]'h).toNat : Int) = bt a0 8 := bt_at a0 8
                                clear p28
                                have qi28 : (8 < (a0.size : Int)) = True := eq_true (of_decide_eq_true (by first | (with_reducible assumption) | assumption))
                                replace q28 := eq_true q28
                                refine start_ (n := 14) (S := fun w' => True) (ds := []) #[false, false, false, false, false, false, false, false, false, false, false, false, false, false] (by kernel_rfl) rfl rfl trivial (fun hHeld => ?_); refine with_tabW sdt_Decode.tab11 sdt_Decode.bits11 (fun HT_ HW_ => ?_)
                                generalize wc.drew = w31 at BK116 HB hHeld ⊢
                                refine pure_ (i := 0) (N := some 44) (v := ?_) (a' := ?_) #[true, false, false, false, false, false, false, false, false, false, false, false, false, false] rfl rfl (any_of HT_.out (by kernel_rfl)) (fun _ _ _ h => h) (Or.inl ⟨by rfl, ?_⟩) ?_ ?_
                                rotate_left
                                · intro w'
                                  go_simp
                                  with_reducible rfl
                                rotate_left
                                · simp only [Act.put, List.setIfInBounds_toArray, List.set_cons_zero, List.set_cons_succ, i64_w, i32_w]
                                  rfl
                                refine pure_ (i := 1) (N := some 45) (v := ?_) (a' := ?_) #[true, true, false, false, false, false, false, false, false, false, false, false, false, false] rfl rfl (any_of HT_.out (by kernel_rfl)) (fun _ _ _ h => h) (Or.inl ⟨by rfl, ?_⟩) ?_ ?_
                                rotate_left
                                · intro w'
                                  go_simp
                                  with_reducible rfl
                                rotate_left
                                · simp only [Act.put, List.setIfInBounds_toArray, List.set_cons_zero, List.set_cons_succ, i64_w, i32_w]
                                  rfl
                                refine pure_ (i := 2) (N := some 46) (v := ?_) (a' := ?_) #[true, true, true, false, false, false, false, false, false, false, false, false, false, false] rfl rfl (any_of HT_.out (by kernel_rfl)) (fun _ _ _ h => h) (Or.inl ⟨by rfl, ?_⟩) ?_ ?_
                                rotate_left
                                · intro w'
                                  go_simp
                                  with_reducible rfl
                                rotate_left
                                · simp only [Act.put, List.setIfInBounds_toArray, List.set_cons_zero, List.set_cons_succ, i64_w, i32_w]
                                  rfl
                                refine pure_ (i := 5) (N := some 49) (v := ?_) (a' := ?_) #[true, true, true, false, false, true, false, false, false, false, false, false, false, false] rfl rfl (any_of HT_.out (by kernel_rfl)) (fun _ _ _ h => h) (Or.inl ⟨by rfl, ?_⟩) ?_ ?_
                                rotate_left
                                · intro w'
                                  go_simp
                                  with_reducible rfl
                                rotate_left
                                · simp only [Act.put, List.setIfInBounds_toArray, List.set_cons_zero, List.set_cons_succ, i64_w, i32_w]
                                  rfl
                                refine pure_ (i := 6) (N := some 50) (v := ?_) (a' := ?_) #[true, true, true, false, false, true, true, false, false, false, false, false, false, false] rfl rfl (any_of HT_.out (by kernel_rfl)) (fun _ _ _ h => h) (Or.inl ⟨by rfl, ?_⟩) ?_ ?_
                                rotate_left
                                · intro w'
                                  go_simp
                                  with_reducible rfl
                                rotate_left
                                · simp only [Act.put, List.setIfInBounds_toArray, List.set_cons_zero, List.set_cons_succ, i64_w, i32_w]
                                  rfl
                                refine pure_ (i := 7) (N := some 51) (v := ?_) (a' := ?_) #[true, true, true, false, false, true, true, true, false, false, false, false, false, false] rfl rfl (any_of HT_.out (by kernel_rfl)) (fun _ _ _ h => h) (Or.inl ⟨by rfl, ?_⟩) ?_ ?_
                                rotate_left
                                · intro w'
                                  go_simp
                                  with_reducible rfl
                                rotate_left
                                · simp only [Act.put, List.setIfInBounds_toArray, List.set_cons_zero, List.set_cons_succ, i64_w, i32_w]
                                  rfl
                                refine pure_ (i := 8) (N := some 52) (v := ?_) (a' := ?_) #[true, true, true, false, false, true, true, true, true, false, false, false, false, false] rfl rfl (any_of HT_.out (by kernel_rfl)) (fun _ _ _ h => h) (Or.inl ⟨by rfl, ?_⟩) ?_ ?_
                                rotate_left
                                · intro w'
                                  go_simp
                                  with_reducible rfl
                                rotate_left
                                · simp only [Act.put, List.setIfInBounds_toArray, List.set_cons_zero, List.set_cons_succ, i64_w, i32_w]
                                  rfl
                                refine pure_ (i := 10) (N := some 54) (v := ?_) (a' := ?_) #[true, true, true, false, false, true, true, true, true, false, true, false, false, false] rfl rfl (any_of HT_.out (by kernel_rfl)) (fun _ _ _ h => h) (Or.inl ⟨by rfl, ?_⟩) ?_ ?_
                                rotate_left
                                · intro w'
                                  go_simp
                                  with_reducible rfl
                                rotate_left
                                · simp only [Act.put, List.setIfInBounds_toArray, List.set_cons_zero, List.set_cons_succ, i64_w, i32_w]
                                  rfl
                                refine take_ (i := 3) (N := some 47) (v := ?_) (a' := ?_) #[true, true, true, true, false, true, true, true, true, false, true, false, false, false] rfl rfl (take_ofW HT_.out HW_.out (by kernel_rfl)) (fun _ _ _ h => h) (Or.inl ⟨by rfl, ?_⟩) hHeld ?_ ?_
                                rotate_left
                                · intro w' _
                                  go_simp
                                  with_reducible rfl
                                rotate_left
                                · simp only [Act.put, List.setIfInBounds_toArray, List.set_cons_zero, List.set_cons_succ, i64_w, i32_w]
                                  rfl
                                refine pure_ (i := 4) (N := some 48) (v := ?_) (a' := ?_) #[true, true, true, true, true, true, true, true, true, false, true, false, false, false] rfl rfl (any_of HT_.out (by kernel_rfl)) (fun _ _ _ h => h) (Or.inl ⟨by rfl, ?_⟩) ?_ ?_
                                rotate_left
                                · intro w'
                                  go_simp
                                  with_reducible rfl
                                rotate_left
                                · simp only [Act.put, List.setIfInBounds_toArray, List.set_cons_zero, List.set_cons_succ, i64_w, i32_w]
                                  rfl
                                refine pure_ (i := 9) (N := some 53) (v := ?_) (a' := ?_) #[true, true, true, true, true, true, true, true, true, true, true, false, false, false] rfl rfl (any_of HT_.out (by kernel_rfl)) (fun _ _ _ h => h) (Or.inl ⟨by rfl, ?_⟩) ?_ ?_
                                rotate_left
                                · intro w'
                                  go_simp
                                  with_reducible rfl
                                rotate_left
                                · simp only [Act.put, List.setIfInBounds_toArray, List.set_cons_zero, List.set_cons_succ, i64_w, i32_w]
                                  rfl
                                refine one_ (i := 11) (N := none) #[true, true, true, true, true, true, true, true, true, true, true, true, false, false] rfl rfl (one_of HT_.out (by kernel_rfl)) (by decide) (fun K hK => ?_)
                                have hs32 : w31.cell? ⟨gb116, 0, none⟩ = some (.string (⟨#[]⟩ : ByteArray)) := (blk_cell BK116.out 0).trans rfl
                                have hfs32 := blk_frozen BK116.out 0
                                have hs33 : w31.cell? ⟨gb116, 1, none⟩ = some (.int .i64 0) := (blk_cell BK116.out 1).trans rfl
                                have hfs33 := blk_frozen BK116.out 1
                                have hs34 : w31.cell? ⟨gb116, 2, none⟩ = some (.string (⟨#[]⟩ : ByteArray)) := (blk_cell BK116.out 2).trans rfl
                                have hfs34 := blk_frozen BK116.out 2
                                have hs35 : w31.cell? ⟨gb116, 3, none⟩ = some (.string (⟨#[]⟩ : ByteArray)) := (blk_cell BK116.out 3).trans rfl
                                have hfs35 := blk_frozen BK116.out 3
                                refine skip_ (w1 := ?_) (by rfl) rfl ?_ ?_
                                rotate_left
                                · go_simp
                                  rfl
                                refine hK.out _ _ trivial (fun hHeld => ?_)
                                clear hK K
                                refine pure_ (i := 12) (N := some 3) (v := ?_) (a' := ?_) #[true, true, true, true, true, true, true, true, true, true, true, true, true, false] rfl rfl (any_of HT_.out (by kernel_rfl)) (fun _ _ _ h => h) (Or.inl ⟨by rfl, ?_⟩) ?_ ?_
                                rotate_left
                                · intro w'
                                  go_simp
                                  with_reducible rfl
                                rotate_left
                                · simp only [Act.put, List.setIfInBounds_toArray, List.set_cons_zero, List.set_cons_succ, i64_w, i32_w]
                                  rfl
                                refine pure_ (i := 13) (N := some 4) (v := ?_) (a' := ?_) #[true, true, true, true, true, true, true, true, true, true, true, true, true, true] rfl rfl (any_of HT_.out (by kernel_rfl)) (fun _ _ _ h => h) (Or.inl ⟨by rfl, ?_⟩) ?_ ?_
                                rotate_left
                                · intro w'
                                  go_simp
                                  with_reducible rfl
                                rotate_left
                                · simp only [Act.put, List.setIfInBounds_toArray, List.set_cons_zero, List.set_cons_succ, i64_w, i32_w]
                                  rfl
                                refine done_ (done_of HT_.out (by kernel_rfl)) ?_
                                try go_wp2
                                refine bodyPost_ret (results_ctt rfl _ _ gb116 23 #[.string (a0.extract 0 4), .int .i64 (wrap64 (bt a0 8)), .string t120, .string (a0.extract 16 (t117 : Int).toNat)] (0, 0) _ rfl (by (with_reducible repeat (first | refine blk_drewN ?_ _ | refine blk_drew ?_ | refine blk_alloc ?_ _)); refine blk_put (cs := #[.string (a0.extract 0 4), .int .i64 (wrap64 (bt a0 8)), .string t120, .string (⟨#[]⟩ : ByteArray)]) ?_ 3 _ rfl; (with_reducible repeat (first | refine blk_drewN ?_ _ | refine blk_drew ?_ | refine blk_alloc ?_ _)); refine blk_put (cs := #[.string (a0.extract 0 4), .int .i64 (wrap64 (bt a0 8)), .string (⟨#[]⟩ : ByteArray), .string (⟨#[]⟩ : ByteArray)]) ?_ 2 _ rfl; (with_reducible repeat (first | refine blk_drewN ?_ _ | refine blk_drew ?_ | refine blk_alloc ?_ _)); refine blk_put (cs := #[.string (a0.extract 0 4), .int .i64 0, .string (⟨#[]⟩ : ByteArray), .string (⟨#[]⟩ : ByteArray)]) ?_ 1 _ rfl; (with_reducible repeat (first | refine blk_drewN ?_ _ | refine blk_drew ?_ | refine blk_alloc ?_ _)); refine blk_put (cs := #[.string (⟨#[]⟩ : ByteArray), .int .i64 0, .string (⟨#[]⟩ : ByteArray), .string (⟨#[]⟩ : ByteArray)]) ?_ 0 _ rfl; (with_reducible repeat (first | refine blk_drewN ?_ _ | refine blk_drew ?_ | refine blk_alloc ?_ _)); exact BK116.out) Tryd.underlying23 rfl (by kernel_rfl)) rfl ?_
                                exact ⟨by first | rfl | (simp [errW_none, errW_some] <;> rfl) | (simp [*, errW_none, errW_some] <;> rfl), by repeat (first | (with_reducible first | exact HB.out | apply below_alloc | apply pw_below_drewN | apply below_drew1 | refine below_set ?_ GE116.out) | exact HB.out)⟩
                              · rw [if_neg c29] at H
                                exact absurd H (by simp)
                            · rw [if_neg c27] at H
                              exact absurd H (by simp)
                          · rw [if_neg c26] at H
                            exact absurd H (by simp)
                        · rw [if_neg c25] at H
                          exact absurd H (by simp)
                      · rw [if_neg c23] at H
                        exact absurd H (by simp)
                    · rw [if_neg c22] at H
                      exact absurd H (by simp)
                  · rw [if_neg c21] at H
                    have c21b0 : (t119 == 0) = false := beq_eq_false_iff_ne.mpr c21
                    have c21b1 : (t119 != 0) = true := bne_iff_ne.mpr c21
                    simp only [Option.some.injEq, Prod.mk.injEq] at H
                    obtain ⟨rfl, rfl, rfl, rfl, rfl, rfl⟩ := H
                    go_wp2_with (first | ((with_reducible refine gate_callee (f := 12) rfl ?_); refine goesL_ (some 38) rfl rfl Tryd.func12 (by kernel_rfl) rfl #[.string (a0.extract 0 (t117 : Int).toNat)] rfl (by (try simp only [List.map_toArray, List.map_cons, List.map_nil]); first | done | rfl | (simp only [List.length_drop, List.length_take]; rfl)) ?_; (with_reducible refine (sdt_Sum.calls kj6 (a0.extract 0 (t117 : Int).toNat) t119 _ A20.out).mono ?_); rintro e w' ⟨rfl, ⟨nd, rfl⟩⟩; refine ⟨_, rfl, ?_⟩; (try (rw [drewN_self wc]; generalize hq_ : World.drewN wc _ = wc; have n0_ : Aside0 (wc.heap[gb116]? = some (.cells #[.string (⟨#[]⟩ : ByteArray), .int .i64 0, .string (⟨#[]⟩ : ByteArray), .string (⟨#[]⟩ : ByteArray)] 23 (0, 0))) := ⟨by rw [← hq_]; exact (by (with_reducible repeat (first | refine blk_drewN ?_ _ | refine blk_drew ?_ | refine blk_alloc ?_ _)); exact BK116.out)⟩; have n1_ : Aside0 (Below w.heap.size w wc) := ⟨by rw [← hq_]; exact (by repeat (first | (with_reducible first | exact HB.out | apply below_alloc | apply pw_below_drewN | apply below_drew1 | refine below_set ?_ GE116.out) | exact HB.out))⟩; clear BK116 HB hq_; have BK116 := n0_; have HB := n1_; clear n0_ n1_)); have hcz36_0 : wc.cell? ⟨gb116, 0, none⟩ = some (.string (⟨#[]⟩ : ByteArray)) := (blk_cell BK116.out 0).trans rfl; have hcz36_1 : wc.cell? ⟨gb116, 1, none⟩ = some (.int .i64 0) := (blk_cell BK116.out 1).trans rfl; have hcz36_2 : wc.cell? ⟨gb116, 2, none⟩ = some (.string (⟨#[]⟩ : ByteArray)) := (blk_cell BK116.out 2).trans rfl; have hcz36_3 : wc.cell? ⟨gb116, 3, none⟩ = some (.string (⟨#[]⟩ : ByteArray)) := (blk_cell BK116.out 3).trans rfl; have hfz36_0 := blk_frozen BK116.out 0; have hfz36_1 := blk_frozen BK116.out 1; have hfz36_2 := blk_frozen BK116.out 2; have hfz36_3 := blk_frozen BK116.out 3))
                    refine bodyPost_ret (results_ctt rfl _ _ gb116 23 #[.string (⟨#[]⟩ : ByteArray), .int .i64 0, .string (⟨#[]⟩ : ByteArray), .string (⟨#[]⟩ : ByteArray)] (0, 0) _ rfl (by (with_reducible repeat (first | refine blk_drewN ?_ _ | refine blk_drew ?_ | refine blk_alloc ?_ _)); refine blk_put (cs := #[.string (⟨#[]⟩ : ByteArray), .int .i64 0, .string (⟨#[]⟩ : ByteArray), .string (⟨#[]⟩ : ByteArray)]) ?_ 3 _ rfl; (with_reducible repeat (first | refine blk_drewN ?_ _ | refine blk_drew ?_ | refine blk_alloc ?_ _)); refine blk_put (cs := #[.string (⟨#[]⟩ : ByteArray), .int .i64 0, .string (⟨#[]⟩ : ByteArray), .string (⟨#[]⟩ : ByteArray)]) ?_ 2 _ rfl; (with_reducible repeat (first | refine blk_drewN ?_ _ | refine blk_drew ?_ | refine blk_alloc ?_ _)); refine blk_put (cs := #[.string (⟨#[]⟩ : ByteArray), .int .i64 0, .string (⟨#[]⟩ : ByteArray), .string (⟨#[]⟩ : ByteArray)]) ?_ 1 _ rfl; (with_reducible repeat (first | refine blk_drewN ?_ _ | refine blk_drew ?_ | refine blk_alloc ?_ _)); refine blk_put (cs := #[.string (⟨#[]⟩ : ByteArray), .int .i64 0, .string (⟨#[]⟩ : ByteArray), .string (⟨#[]⟩ : ByteArray)]) ?_ 0 _ rfl; (with_reducible repeat (first | refine blk_drewN ?_ _ | refine blk_drew ?_ | refine blk_alloc ?_ _)); exact BK116.out) Tryd.underlying23 rfl (by kernel_rfl)) rfl ?_
                    exact ⟨by first | rfl | (simp [errW_none, errW_some] <;> rfl) | (simp [*, errW_none, errW_some] <;> rfl), by repeat (first | (with_reducible first | exact HB.out | apply below_alloc | apply pw_below_drewN | apply below_drew1 | refine below_set ?_ GE116.out) | exact HB.out)⟩
                · rw [if_neg c19] at H
                  exact absurd H (by simp)
              · rw [if_neg c18] at H
                exact absurd H (by simp)
    · rw [if_neg c5] at H
      exact absurd H (by simp)

/-! ### platformfwlaw07_awake: function 9 -/
def platformfwlaw07_awake.f (k : Nat)  : Option (Bool) := (sdt_Encode.f k (⟨#[83, 83, 68, 84]⟩ : ByteArray) 2 (⟨#[77, 69]⟩ : ByteArray) (⟨#[]⟩ : ByteArray)).bind fun bt121 => ((sdt_Decode.f k bt121.1).bind fun bt123 => (if bt121.2 = 0 then (if (bt121.1.size : Int) = 16 then (if 4 ≤ 8 then (if 8 ≤ (bt121.1.size : Int) then (if (bt121.1.extract 4 8).toList = ([16, 0, 0, 0] : List UInt8) then ((sdt_Sum.f k bt121.1).bind fun t130 => (if t130 = 0 then (if bt123.2.2.2.2.1 = 16 then (if bt123.2.2.2.2.2 = 0 then (some (bt123.1.toList == ([83, 83, 68, 84] : List UInt8) && (bt123.2.1 == 2 && (bt123.2.2.1.toList == ([77, 69] : List UInt8) && (bt123.2.2.2.1.toList == ([] : List UInt8)))))) else (some false)) else (some false)) else (some false))) else (some false)) else (none)) else (none)) else (some false)) else (some false)))
theorem platformfwlaw07_awake.mono : ∀ k, LeO (platformfwlaw07_awake.f k ) (platformfwlaw07_awake.f (k + 1) ) := by
  intro  k
  unfold platformfwlaw07_awake.f
  repeat' first
      | (with_reducible exact sdt_Decode.mono _ _)
      | (with_reducible exact sdt_Encode.mono _ _ _ _ _)
      | (with_reducible exact sdt_Sum.mono _ _)
      | (with_reducible exact LeO.refl _)
      | (with_reducible exact LeO.none _)
      | (with_reducible refine LeO.ite ?_ ?_)
      | (with_reducible refine LeO.bind ?_ (fun _ => ?_))
      | exact sdt_Decode.mono _ _
      | exact sdt_Encode.mono _ _ _ _ _
      | exact sdt_Sum.mono _ _
      | exact LeO.none _
      | refine LeO.ite ?_ ?_
      | refine LeO.bind ?_ (fun _ => ?_)
set_option maxHeartbeats 8000000 in
set_option maxRecDepth 100000 in
theorem platformfwlaw07_awake.calls (k : Nat)  (r : Bool) (w : World) (h : platformfwlaw07_awake.f k  = some r) :
    Calls Tryd.prog 9 #[] w fun e w' => e = .returned (.bool r) ∧ Below w.heap.size w w' := by
  have hu23 := Tryd.underlying23
  have HB := Aside0.mk (Below.refl w.heap.size w)
  have H : ((sdt_Encode.f k (⟨#[83, 83, 68, 84]⟩ : ByteArray) 2 (⟨#[77, 69]⟩ : ByteArray) (⟨#[]⟩ : ByteArray)).bind fun bt121 => ((sdt_Decode.f k bt121.1).bind fun bt123 => (if bt121.2 = 0 then (if (bt121.1.size : Int) = 16 then (if 4 ≤ 8 then (if 8 ≤ (bt121.1.size : Int) then (if (bt121.1.extract 4 8).toList = ([16, 0, 0, 0] : List UInt8) then ((sdt_Sum.f k bt121.1).bind fun t130 => (if t130 = 0 then (if bt123.2.2.2.2.1 = 16 then (if bt123.2.2.2.2.2 = 0 then (some (bt123.1.toList == ([83, 83, 68, 84] : List UInt8) && (bt123.2.1 == 2 && (bt123.2.2.1.toList == ([77, 69] : List UInt8) && (bt123.2.2.2.1.toList == ([] : List UInt8)))))) else (some false)) else (some false)) else (some false))) else (some false)) else (none)) else (none)) else (some false)) else (some false)))) = some r := h
  clear h
  replace H := Option.bind_eq_some_iff.mp H
  obtain ⟨⟨t121, t122⟩, A10, H⟩ := H
  replace H : ((sdt_Decode.f k t121).bind fun bt123 => (if t122 = 0 then (if (t121.size : Int) = 16 then (if 4 ≤ 8 then (if 8 ≤ (t121.size : Int) then (if (t121.extract 4 8).toList = ([16, 0, 0, 0] : List UInt8) then ((sdt_Sum.f k t121).bind fun t130 => (if t130 = 0 then (if bt123.2.2.2.2.1 = 16 then (if bt123.2.2.2.2.2 = 0 then (some (bt123.1.toList == ([83, 83, 68, 84] : List UInt8) && (bt123.2.1 == 2 && (bt123.2.2.1.toList == ([77, 69] : List UInt8) && (bt123.2.2.2.1.toList == ([] : List UInt8)))))) else (some false)) else (some false)) else (some false))) else (some false)) else (none)) else (none)) else (some false)) else (some false))) = some r := H
  have A1 := Aside0.mk A10
  clear A10
  replace H := Option.bind_eq_some_iff.mp H
  obtain ⟨⟨t123, t124, t125, t126, t127, t128⟩, A20, H⟩ := H
  replace H : (if t122 = 0 then (if (t121.size : Int) = 16 then (if 4 ≤ 8 then (if 8 ≤ (t121.size : Int) then (if (t121.extract 4 8).toList = ([16, 0, 0, 0] : List UInt8) then ((sdt_Sum.f k t121).bind fun t130 => (if t130 = 0 then (if t127 = 16 then (if t128 = 0 then (some (t123.toList == ([83, 83, 68, 84] : List UInt8) && (t124 == 2 && (t125.toList == ([77, 69] : List UInt8) && (t126.toList == ([] : List UInt8)))))) else (some false)) else (some false)) else (some false))) else (some false)) else (none)) else (none)) else (some false)) else (some false)) = some r := H
  have A2 := Aside0.mk A20
  clear A20
  by_cases c3 : t122 = 0
  · rw [if_pos c3] at H
    have c3b0 : (t122 == 0) = true := beq_iff_eq.mpr c3
    have c3b1 : (t122 != 0) = false := bne_eq_false_iff_eq.mpr c3
    clear c3
    by_cases c4 : (t121.size : Int) = 16
    · rw [if_pos c4] at H
      have c4b0 : ((t121.size : Int) == 16) = true := beq_iff_eq.mpr c4
      have c4b1 : ((t121.size : Int) != 16) = false := bne_eq_false_iff_eq.mpr c4
      clear c4
      by_cases c5 : 4 ≤ 8
      · rw [if_pos c5] at H
        have c5b0 := eq_true c5
        have c5b1 : decide (4 ≤ 8) = true := decide_eq_true c5
        clear c5
        by_cases c6 : 8 ≤ (t121.size : Int)
        · rw [if_pos c6] at H
          have c6b0 := eq_true c6
          have c6b1 : decide (8 ≤ (t121.size : Int)) = true := decide_eq_true c6
          clear c6
          by_cases c7 : (t121.extract 4 8).toList = ([16, 0, 0, 0] : List UInt8)
          · rw [if_pos c7] at H
            have c7b0 : ((t121.extract 4 8).toList == ([16, 0, 0, 0] : List UInt8)) = true := beq_iff_eq.mpr c7
            have c7b1 : ((t121.extract 4 8).toList != ([16, 0, 0, 0] : List UInt8)) = false := bne_eq_false_iff_eq.mpr c7
            clear c7
            replace H := Option.bind_eq_some_iff.mp H
            obtain ⟨t130, A80, H⟩ := H
            replace H : (if t130 = 0 then (if t127 = 16 then (if t128 = 0 then (some (t123.toList == ([83, 83, 68, 84] : List UInt8) && (t124 == 2 && (t125.toList == ([77, 69] : List UInt8) && (t126.toList == ([] : List UInt8)))))) else (some false)) else (some false)) else (some false)) = some r := H
            have A8 := Aside0.mk A80
            clear A80
            by_cases c9 : t130 = 0
            · rw [if_pos c9] at H
              have c9b0 : (t130 == 0) = true := beq_iff_eq.mpr c9
              have c9b1 : (t130 != 0) = false := bne_eq_false_iff_eq.mpr c9
              clear c9
              by_cases c10 : t127 = 16
              · rw [if_pos c10] at H
                have c10b0 : (t127 == 16) = true := beq_iff_eq.mpr c10
                have c10b1 : (t127 != 16) = false := bne_eq_false_iff_eq.mpr c10
                clear c10
                by_cases c11 : t128 = 0
                · rw [if_pos c11] at H
                  have c11b0 : (t128 == 0) = true := beq_iff_eq.mpr c11
                  have c11b1 : (t128 != 0) = false := bne_eq_false_iff_eq.mpr c11
                  clear c11
                  obtain rfl := Option.some.inj H
                  go_enter Tryd.func9, Tryd.ntmps9
                  go_wp2_with (first | ((with_reducible refine gate_callee (f := 15) rfl ?_); refine goesL_ (some 8) rfl rfl Tryd.func15 (by kernel_rfl) rfl #[.agg #[.string (⟨#[83, 83, 68, 84]⟩ : ByteArray), .int .i64 2, .string (⟨#[77, 69]⟩ : ByteArray), .string (⟨#[]⟩ : ByteArray)]] rfl (by (try simp only [List.map_toArray, List.map_cons, List.map_nil]); first | done | rfl | (simp only [List.length_drop, List.length_take]; rfl)) ?_; (with_reducible refine (sdt_Encode.calls k (⟨#[83, 83, 68, 84]⟩ : ByteArray) 2 (⟨#[77, 69]⟩ : ByteArray) (⟨#[]⟩ : ByteArray) t121 t122 _ A1.out).mono ?_); rintro e w12 ⟨rfl, hb⟩; refine ⟨_, rfl, ?_⟩; have n0_ := Aside0.mk (below_step (by repeat (first | (with_reducible first | exact HB.out | apply below_alloc | apply pw_below_drewN | apply below_drew1) | exact HB.out)) hb); clear HB; have HB := n0_; clear n0_; (try clear hb); (try clear hb2); (try clear hk); (try clear hi)) | ((with_reducible refine gate_callee (f := 16) rfl ?_); refine goesL_ (some 13) rfl rfl Tryd.func16 (by kernel_rfl) rfl #[.string t121] rfl (by (try simp only [List.map_toArray, List.map_cons, List.map_nil]); first | done | rfl | (simp only [List.length_drop, List.length_take]; rfl)) ?_; (with_reducible refine (sdt_Decode.calls k t121 t123 t124 t125 t126 t127 t128 _ A2.out).mono ?_); rintro e w13 ⟨rfl, hb⟩; refine ⟨_, rfl, ?_⟩; have n0_ := Aside0.mk (below_step (by repeat (first | (with_reducible first | exact HB.out | apply below_alloc | apply pw_below_drewN | apply below_drew1) | exact HB.out)) hb); clear HB; have HB := n0_; clear n0_; (try clear hb); (try clear hb2); (try clear hk); (try clear hi)) | ((with_reducible refine gate_dst (N := 3) rfl ?_); (try (refine gate_guard (by rfl) ?_; dsimp only)); refine box_event ?hg (N := 3) ?hd (cs := #[.string (⟨#[]⟩ : ByteArray), .int .i64 0, .string (⟨#[]⟩ : ByteArray), .string (⟨#[]⟩ : ByteArray)]) (t := 23) ?hr ?_; (case hd => rfl); (case hg => rfl); (case hr => first | (go_simp; done) | (go_simp; rfl)); intro gb129 hg w14 hbox hb; have n0_ := Aside0.mk (below_step (by repeat (first | (with_reducible first | exact HB.out | apply below_alloc | apply pw_below_drewN | apply below_drew1) | exact HB.out)) hb); have n1_ := Aside0.mk (hbox); have n2_ := Aside0.mk ((by rw [hg]; exact (below_size (by repeat (first | (with_reducible first | exact HB.out | apply below_alloc | apply pw_below_drewN | apply below_drew1) | exact HB.out))) : w.heap.size ≤ gb129)); have n3_ := Aside0.mk ((by rw [hg]; exact (below_size (by repeat (first | (with_reducible first | exact HB.out | apply below_alloc | apply pw_below_drewN | apply below_drew1) | exact HB.out))) : w.heap.size ≤ gb129)); clear HB; have HB := n0_; have BK129 := n1_; have GW129 := n2_; have GE129 := n3_; clear n0_ n1_ n2_ n3_; clear hb hbox hg; have hcz15_0 : w14.cell? ⟨gb129, 0, none⟩ = some (.string (⟨#[]⟩ : ByteArray)) := (blk_cell BK129.out 0).trans rfl; have hcz15_1 : w14.cell? ⟨gb129, 1, none⟩ = some (.int .i64 0) := (blk_cell BK129.out 1).trans rfl; have hcz15_2 : w14.cell? ⟨gb129, 2, none⟩ = some (.string (⟨#[]⟩ : ByteArray)) := (blk_cell BK129.out 2).trans rfl; have hcz15_3 : w14.cell? ⟨gb129, 3, none⟩ = some (.string (⟨#[]⟩ : ByteArray)) := (blk_cell BK129.out 3).trans rfl; have hfz15_0 := blk_frozen BK129.out 0; have hfz15_1 := blk_frozen BK129.out 1; have hfz15_2 := blk_frozen BK129.out 2; have hfz15_3 := blk_frozen BK129.out 3) | (go_at_call 12; (with_reducible refine (sdt_Sum.calls k t121 t130 _ A8.out).mono ?_); rintro e w' ⟨rfl, ⟨nd, rfl⟩⟩))
                  go_ret
                  exact ⟨by first | rfl | (simp [errW_none, errW_some] <;> rfl) | (simp [*, errW_none, errW_some] <;> rfl), by repeat (first | (with_reducible first | exact HB.out | apply below_alloc | apply pw_below_drewN | apply below_drew1 | refine below_set ?_ GE129.out) | exact HB.out)⟩
                · rw [if_neg c11] at H
                  have c11b0 : (t128 == 0) = false := beq_eq_false_iff_ne.mpr c11
                  have c11b1 : (t128 != 0) = true := bne_iff_ne.mpr c11
                  obtain rfl := Option.some.inj H
                  go_enter Tryd.func9, Tryd.ntmps9
                  go_wp2_with (first | ((with_reducible refine gate_callee (f := 15) rfl ?_); refine goesL_ (some 8) rfl rfl Tryd.func15 (by kernel_rfl) rfl #[.agg #[.string (⟨#[83, 83, 68, 84]⟩ : ByteArray), .int .i64 2, .string (⟨#[77, 69]⟩ : ByteArray), .string (⟨#[]⟩ : ByteArray)]] rfl (by (try simp only [List.map_toArray, List.map_cons, List.map_nil]); first | done | rfl | (simp only [List.length_drop, List.length_take]; rfl)) ?_; (with_reducible refine (sdt_Encode.calls k (⟨#[83, 83, 68, 84]⟩ : ByteArray) 2 (⟨#[77, 69]⟩ : ByteArray) (⟨#[]⟩ : ByteArray) t121 t122 _ A1.out).mono ?_); rintro e w16 ⟨rfl, hb⟩; refine ⟨_, rfl, ?_⟩; have n0_ := Aside0.mk (below_step (by repeat (first | (with_reducible first | exact HB.out | apply below_alloc | apply pw_below_drewN | apply below_drew1) | exact HB.out)) hb); clear HB; have HB := n0_; clear n0_; (try clear hb); (try clear hb2); (try clear hk); (try clear hi)) | ((with_reducible refine gate_callee (f := 16) rfl ?_); refine goesL_ (some 13) rfl rfl Tryd.func16 (by kernel_rfl) rfl #[.string t121] rfl (by (try simp only [List.map_toArray, List.map_cons, List.map_nil]); first | done | rfl | (simp only [List.length_drop, List.length_take]; rfl)) ?_; (with_reducible refine (sdt_Decode.calls k t121 t123 t124 t125 t126 t127 t128 _ A2.out).mono ?_); rintro e w17 ⟨rfl, hb⟩; refine ⟨_, rfl, ?_⟩; have n0_ := Aside0.mk (below_step (by repeat (first | (with_reducible first | exact HB.out | apply below_alloc | apply pw_below_drewN | apply below_drew1) | exact HB.out)) hb); clear HB; have HB := n0_; clear n0_; (try clear hb); (try clear hb2); (try clear hk); (try clear hi)) | ((with_reducible refine gate_dst (N := 3) rfl ?_); (try (refine gate_guard (by rfl) ?_; dsimp only)); refine box_event ?hg (N := 3) ?hd (cs := #[.string (⟨#[]⟩ : ByteArray), .int .i64 0, .string (⟨#[]⟩ : ByteArray), .string (⟨#[]⟩ : ByteArray)]) (t := 23) ?hr ?_; (case hd => rfl); (case hg => rfl); (case hr => first | (go_simp; done) | (go_simp; rfl)); intro gb129 hg w18 hbox hb; have n0_ := Aside0.mk (below_step (by repeat (first | (with_reducible first | exact HB.out | apply below_alloc | apply pw_below_drewN | apply below_drew1) | exact HB.out)) hb); have n1_ := Aside0.mk (hbox); have n2_ := Aside0.mk ((by rw [hg]; exact (below_size (by repeat (first | (with_reducible first | exact HB.out | apply below_alloc | apply pw_below_drewN | apply below_drew1) | exact HB.out))) : w.heap.size ≤ gb129)); have n3_ := Aside0.mk ((by rw [hg]; exact (below_size (by repeat (first | (with_reducible first | exact HB.out | apply below_alloc | apply pw_below_drewN | apply below_drew1) | exact HB.out))) : w.heap.size ≤ gb129)); clear HB; have HB := n0_; have BK129 := n1_; have GW129 := n2_; have GE129 := n3_; clear n0_ n1_ n2_ n3_; clear hb hbox hg; have hcz19_0 : w18.cell? ⟨gb129, 0, none⟩ = some (.string (⟨#[]⟩ : ByteArray)) := (blk_cell BK129.out 0).trans rfl; have hcz19_1 : w18.cell? ⟨gb129, 1, none⟩ = some (.int .i64 0) := (blk_cell BK129.out 1).trans rfl; have hcz19_2 : w18.cell? ⟨gb129, 2, none⟩ = some (.string (⟨#[]⟩ : ByteArray)) := (blk_cell BK129.out 2).trans rfl; have hcz19_3 : w18.cell? ⟨gb129, 3, none⟩ = some (.string (⟨#[]⟩ : ByteArray)) := (blk_cell BK129.out 3).trans rfl; have hfz19_0 := blk_frozen BK129.out 0; have hfz19_1 := blk_frozen BK129.out 1; have hfz19_2 := blk_frozen BK129.out 2; have hfz19_3 := blk_frozen BK129.out 3) | (go_at_call 12; (with_reducible refine (sdt_Sum.calls k t121 t130 _ A8.out).mono ?_); rintro e w' ⟨rfl, ⟨nd, rfl⟩⟩))
                  go_ret
                  exact ⟨by first | rfl | (simp [errW_none, errW_some] <;> rfl) | (simp [*, errW_none, errW_some] <;> rfl), by repeat (first | (with_reducible first | exact HB.out | apply below_alloc | apply pw_below_drewN | apply below_drew1 | refine below_set ?_ GE129.out) | exact HB.out)⟩
              · rw [if_neg c10] at H
                have c10b0 : (t127 == 16) = false := beq_eq_false_iff_ne.mpr c10
                have c10b1 : (t127 != 16) = true := bne_iff_ne.mpr c10
                obtain rfl := Option.some.inj H
                go_enter Tryd.func9, Tryd.ntmps9
                go_wp2_with (first | ((with_reducible refine gate_callee (f := 15) rfl ?_); refine goesL_ (some 8) rfl rfl Tryd.func15 (by kernel_rfl) rfl #[.agg #[.string (⟨#[83, 83, 68, 84]⟩ : ByteArray), .int .i64 2, .string (⟨#[77, 69]⟩ : ByteArray), .string (⟨#[]⟩ : ByteArray)]] rfl (by (try simp only [List.map_toArray, List.map_cons, List.map_nil]); first | done | rfl | (simp only [List.length_drop, List.length_take]; rfl)) ?_; (with_reducible refine (sdt_Encode.calls k (⟨#[83, 83, 68, 84]⟩ : ByteArray) 2 (⟨#[77, 69]⟩ : ByteArray) (⟨#[]⟩ : ByteArray) t121 t122 _ A1.out).mono ?_); rintro e w20 ⟨rfl, hb⟩; refine ⟨_, rfl, ?_⟩; have n0_ := Aside0.mk (below_step (by repeat (first | (with_reducible first | exact HB.out | apply below_alloc | apply pw_below_drewN | apply below_drew1) | exact HB.out)) hb); clear HB; have HB := n0_; clear n0_; (try clear hb); (try clear hb2); (try clear hk); (try clear hi)) | ((with_reducible refine gate_callee (f := 16) rfl ?_); refine goesL_ (some 13) rfl rfl Tryd.func16 (by kernel_rfl) rfl #[.string t121] rfl (by (try simp only [List.map_toArray, List.map_cons, List.map_nil]); first | done | rfl | (simp only [List.length_drop, List.length_take]; rfl)) ?_; (with_reducible refine (sdt_Decode.calls k t121 t123 t124 t125 t126 t127 t128 _ A2.out).mono ?_); rintro e w21 ⟨rfl, hb⟩; refine ⟨_, rfl, ?_⟩; have n0_ := Aside0.mk (below_step (by repeat (first | (with_reducible first | exact HB.out | apply below_alloc | apply pw_below_drewN | apply below_drew1) | exact HB.out)) hb); clear HB; have HB := n0_; clear n0_; (try clear hb); (try clear hb2); (try clear hk); (try clear hi)) | ((with_reducible refine gate_dst (N := 3) rfl ?_); (try (refine gate_guard (by rfl) ?_; dsimp only)); refine box_event ?hg (N := 3) ?hd (cs := #[.string (⟨#[]⟩ : ByteArray), .int .i64 0, .string (⟨#[]⟩ : ByteArray), .string (⟨#[]⟩ : ByteArray)]) (t := 23) ?hr ?_; (case hd => rfl); (case hg => rfl); (case hr => first | (go_simp; done) | (go_simp; rfl)); intro gb129 hg w22 hbox hb; have n0_ := Aside0.mk (below_step (by repeat (first | (with_reducible first | exact HB.out | apply below_alloc | apply pw_below_drewN | apply below_drew1) | exact HB.out)) hb); have n1_ := Aside0.mk (hbox); have n2_ := Aside0.mk ((by rw [hg]; exact (below_size (by repeat (first | (with_reducible first | exact HB.out | apply below_alloc | apply pw_below_drewN | apply below_drew1) | exact HB.out))) : w.heap.size ≤ gb129)); have n3_ := Aside0.mk ((by rw [hg]; exact (below_size (by repeat (first | (with_reducible first | exact HB.out | apply below_alloc | apply pw_below_drewN | apply below_drew1) | exact HB.out))) : w.heap.size ≤ gb129)); clear HB; have HB := n0_; have BK129 := n1_; have GW129 := n2_; have GE129 := n3_; clear n0_ n1_ n2_ n3_; clear hb hbox hg; have hcz23_0 : w22.cell? ⟨gb129, 0, none⟩ = some (.string (⟨#[]⟩ : ByteArray)) := (blk_cell BK129.out 0).trans rfl; have hcz23_1 : w22.cell? ⟨gb129, 1, none⟩ = some (.int .i64 0) := (blk_cell BK129.out 1).trans rfl; have hcz23_2 : w22.cell? ⟨gb129, 2, none⟩ = some (.string (⟨#[]⟩ : ByteArray)) := (blk_cell BK129.out 2).trans rfl; have hcz23_3 : w22.cell? ⟨gb129, 3, none⟩ = some (.string (⟨#[]⟩ : ByteArray)) := (blk_cell BK129.out 3).trans rfl; have hfz23_0 := blk_frozen BK129.out 0; have hfz23_1 := blk_frozen BK129.out 1; have hfz23_2 := blk_frozen BK129.out 2; have hfz23_3 := blk_frozen BK129.out 3) | (go_at_call 12; (with_reducible refine (sdt_Sum.calls k t121 t130 _ A8.out).mono ?_); rintro e w' ⟨rfl, ⟨nd, rfl⟩⟩))
                go_ret
                exact ⟨by first | rfl | (simp [errW_none, errW_some] <;> rfl) | (simp [*, errW_none, errW_some] <;> rfl), by repeat (first | (with_reducible first | exact HB.out | apply below_alloc | apply pw_below_drewN | apply below_drew1 | refine below_set ?_ GE129.out) | exact HB.out)⟩
            · rw [if_neg c9] at H
              have c9b0 : (t130 == 0) = false := beq_eq_false_iff_ne.mpr c9
              have c9b1 : (t130 != 0) = true := bne_iff_ne.mpr c9
              obtain rfl := Option.some.inj H
              go_enter Tryd.func9, Tryd.ntmps9
              go_wp2_with (first | ((with_reducible refine gate_callee (f := 15) rfl ?_); refine goesL_ (some 8) rfl rfl Tryd.func15 (by kernel_rfl) rfl #[.agg #[.string (⟨#[83, 83, 68, 84]⟩ : ByteArray), .int .i64 2, .string (⟨#[77, 69]⟩ : ByteArray), .string (⟨#[]⟩ : ByteArray)]] rfl (by (try simp only [List.map_toArray, List.map_cons, List.map_nil]); first | done | rfl | (simp only [List.length_drop, List.length_take]; rfl)) ?_; (with_reducible refine (sdt_Encode.calls k (⟨#[83, 83, 68, 84]⟩ : ByteArray) 2 (⟨#[77, 69]⟩ : ByteArray) (⟨#[]⟩ : ByteArray) t121 t122 _ A1.out).mono ?_); rintro e w24 ⟨rfl, hb⟩; refine ⟨_, rfl, ?_⟩; have n0_ := Aside0.mk (below_step (by repeat (first | (with_reducible first | exact HB.out | apply below_alloc | apply pw_below_drewN | apply below_drew1) | exact HB.out)) hb); clear HB; have HB := n0_; clear n0_; (try clear hb); (try clear hb2); (try clear hk); (try clear hi)) | ((with_reducible refine gate_callee (f := 16) rfl ?_); refine goesL_ (some 13) rfl rfl Tryd.func16 (by kernel_rfl) rfl #[.string t121] rfl (by (try simp only [List.map_toArray, List.map_cons, List.map_nil]); first | done | rfl | (simp only [List.length_drop, List.length_take]; rfl)) ?_; (with_reducible refine (sdt_Decode.calls k t121 t123 t124 t125 t126 t127 t128 _ A2.out).mono ?_); rintro e w25 ⟨rfl, hb⟩; refine ⟨_, rfl, ?_⟩; have n0_ := Aside0.mk (below_step (by repeat (first | (with_reducible first | exact HB.out | apply below_alloc | apply pw_below_drewN | apply below_drew1) | exact HB.out)) hb); clear HB; have HB := n0_; clear n0_; (try clear hb); (try clear hb2); (try clear hk); (try clear hi)) | ((with_reducible refine gate_dst (N := 3) rfl ?_); (try (refine gate_guard (by rfl) ?_; dsimp only)); refine box_event ?hg (N := 3) ?hd (cs := #[.string (⟨#[]⟩ : ByteArray), .int .i64 0, .string (⟨#[]⟩ : ByteArray), .string (⟨#[]⟩ : ByteArray)]) (t := 23) ?hr ?_; (case hd => rfl); (case hg => rfl); (case hr => first | (go_simp; done) | (go_simp; rfl)); intro gb129 hg w26 hbox hb; have n0_ := Aside0.mk (below_step (by repeat (first | (with_reducible first | exact HB.out | apply below_alloc | apply pw_below_drewN | apply below_drew1) | exact HB.out)) hb); have n1_ := Aside0.mk (hbox); have n2_ := Aside0.mk ((by rw [hg]; exact (below_size (by repeat (first | (with_reducible first | exact HB.out | apply below_alloc | apply pw_below_drewN | apply below_drew1) | exact HB.out))) : w.heap.size ≤ gb129)); have n3_ := Aside0.mk ((by rw [hg]; exact (below_size (by repeat (first | (with_reducible first | exact HB.out | apply below_alloc | apply pw_below_drewN | apply below_drew1) | exact HB.out))) : w.heap.size ≤ gb129)); clear HB; have HB := n0_; have BK129 := n1_; have GW129 := n2_; have GE129 := n3_; clear n0_ n1_ n2_ n3_; clear hb hbox hg; have hcz27_0 : w26.cell? ⟨gb129, 0, none⟩ = some (.string (⟨#[]⟩ : ByteArray)) := (blk_cell BK129.out 0).trans rfl; have hcz27_1 : w26.cell? ⟨gb129, 1, none⟩ = some (.int .i64 0) := (blk_cell BK129.out 1).trans rfl; have hcz27_2 : w26.cell? ⟨gb129, 2, none⟩ = some (.string (⟨#[]⟩ : ByteArray)) := (blk_cell BK129.out 2).trans rfl; have hcz27_3 : w26.cell? ⟨gb129, 3, none⟩ = some (.string (⟨#[]⟩ : ByteArray)) := (blk_cell BK129.out 3).trans rfl; have hfz27_0 := blk_frozen BK129.out 0; have hfz27_1 := blk_frozen BK129.out 1; have hfz27_2 := blk_frozen BK129.out 2; have hfz27_3 := blk_frozen BK129.out 3) | (go_at_call 12; (with_reducible refine (sdt_Sum.calls k t121 t130 _ A8.out).mono ?_); rintro e w' ⟨rfl, ⟨nd, rfl⟩⟩))
              go_ret
              exact ⟨by first | rfl | (simp [errW_none, errW_some] <;> rfl) | (simp [*, errW_none, errW_some] <;> rfl), by repeat (first | (with_reducible first | exact HB.out | apply below_alloc | apply pw_below_drewN | apply below_drew1 | refine below_set ?_ GE129.out) | exact HB.out)⟩
          · rw [if_neg c7] at H
            have c7b0 : ((t121.extract 4 8).toList == ([16, 0, 0, 0] : List UInt8)) = false := beq_eq_false_iff_ne.mpr c7
            have c7b1 : ((t121.extract 4 8).toList != ([16, 0, 0, 0] : List UInt8)) = true := bne_iff_ne.mpr c7
            obtain rfl := Option.some.inj H
            go_enter Tryd.func9, Tryd.ntmps9
            go_wp2_with (first | ((with_reducible refine gate_callee (f := 15) rfl ?_); refine goesL_ (some 8) rfl rfl Tryd.func15 (by kernel_rfl) rfl #[.agg #[.string (⟨#[83, 83, 68, 84]⟩ : ByteArray), .int .i64 2, .string (⟨#[77, 69]⟩ : ByteArray), .string (⟨#[]⟩ : ByteArray)]] rfl (by (try simp only [List.map_toArray, List.map_cons, List.map_nil]); first | done | rfl | (simp only [List.length_drop, List.length_take]; rfl)) ?_; (with_reducible refine (sdt_Encode.calls k (⟨#[83, 83, 68, 84]⟩ : ByteArray) 2 (⟨#[77, 69]⟩ : ByteArray) (⟨#[]⟩ : ByteArray) t121 t122 _ A1.out).mono ?_); rintro e w28 ⟨rfl, hb⟩; refine ⟨_, rfl, ?_⟩; have n0_ := Aside0.mk (below_step (by repeat (first | (with_reducible first | exact HB.out | apply below_alloc | apply pw_below_drewN | apply below_drew1) | exact HB.out)) hb); clear HB; have HB := n0_; clear n0_; (try clear hb); (try clear hb2); (try clear hk); (try clear hi)) | ((with_reducible refine gate_callee (f := 16) rfl ?_); refine goesL_ (some 13) rfl rfl Tryd.func16 (by kernel_rfl) rfl #[.string t121] rfl (by (try simp only [List.map_toArray, List.map_cons, List.map_nil]); first | done | rfl | (simp only [List.length_drop, List.length_take]; rfl)) ?_; (with_reducible refine (sdt_Decode.calls k t121 t123 t124 t125 t126 t127 t128 _ A2.out).mono ?_); rintro e w29 ⟨rfl, hb⟩; refine ⟨_, rfl, ?_⟩; have n0_ := Aside0.mk (below_step (by repeat (first | (with_reducible first | exact HB.out | apply below_alloc | apply pw_below_drewN | apply below_drew1) | exact HB.out)) hb); clear HB; have HB := n0_; clear n0_; (try clear hb); (try clear hb2); (try clear hk); (try clear hi)) | ((with_reducible refine gate_dst (N := 3) rfl ?_); (try (refine gate_guard (by rfl) ?_; dsimp only)); refine box_event ?hg (N := 3) ?hd (cs := #[.string (⟨#[]⟩ : ByteArray), .int .i64 0, .string (⟨#[]⟩ : ByteArray), .string (⟨#[]⟩ : ByteArray)]) (t := 23) ?hr ?_; (case hd => rfl); (case hg => rfl); (case hr => first | (go_simp; done) | (go_simp; rfl)); intro gb129 hg w30 hbox hb; have n0_ := Aside0.mk (below_step (by repeat (first | (with_reducible first | exact HB.out | apply below_alloc | apply pw_below_drewN | apply below_drew1) | exact HB.out)) hb); have n1_ := Aside0.mk (hbox); have n2_ := Aside0.mk ((by rw [hg]; exact (below_size (by repeat (first | (with_reducible first | exact HB.out | apply below_alloc | apply pw_below_drewN | apply below_drew1) | exact HB.out))) : w.heap.size ≤ gb129)); have n3_ := Aside0.mk ((by rw [hg]; exact (below_size (by repeat (first | (with_reducible first | exact HB.out | apply below_alloc | apply pw_below_drewN | apply below_drew1) | exact HB.out))) : w.heap.size ≤ gb129)); clear HB; have HB := n0_; have BK129 := n1_; have GW129 := n2_; have GE129 := n3_; clear n0_ n1_ n2_ n3_; clear hb hbox hg; have hcz31_0 : w30.cell? ⟨gb129, 0, none⟩ = some (.string (⟨#[]⟩ : ByteArray)) := (blk_cell BK129.out 0).trans rfl; have hcz31_1 : w30.cell? ⟨gb129, 1, none⟩ = some (.int .i64 0) := (blk_cell BK129.out 1).trans rfl; have hcz31_2 : w30.cell? ⟨gb129, 2, none⟩ = some (.string (⟨#[]⟩ : ByteArray)) := (blk_cell BK129.out 2).trans rfl; have hcz31_3 : w30.cell? ⟨gb129, 3, none⟩ = some (.string (⟨#[]⟩ : ByteArray)) := (blk_cell BK129.out 3).trans rfl; have hfz31_0 := blk_frozen BK129.out 0; have hfz31_1 := blk_frozen BK129.out 1; have hfz31_2 := blk_frozen BK129.out 2; have hfz31_3 := blk_frozen BK129.out 3))
            go_ret
            exact ⟨by first | rfl | (simp [errW_none, errW_some] <;> rfl) | (simp [*, errW_none, errW_some] <;> rfl), by repeat (first | (with_reducible first | exact HB.out | apply below_alloc | apply pw_below_drewN | apply below_drew1 | refine below_set ?_ GE129.out) | exact HB.out)⟩
        · rw [if_neg c6] at H
          exact absurd H (by simp)
      · rw [if_neg c5] at H
        exact absurd H (by simp)
    · rw [if_neg c4] at H
      have c4b0 : ((t121.size : Int) == 16) = false := beq_eq_false_iff_ne.mpr c4
      have c4b1 : ((t121.size : Int) != 16) = true := bne_iff_ne.mpr c4
      obtain rfl := Option.some.inj H
      go_enter Tryd.func9, Tryd.ntmps9
      go_wp2_with (first | ((with_reducible refine gate_callee (f := 15) rfl ?_); refine goesL_ (some 8) rfl rfl Tryd.func15 (by kernel_rfl) rfl #[.agg #[.string (⟨#[83, 83, 68, 84]⟩ : ByteArray), .int .i64 2, .string (⟨#[77, 69]⟩ : ByteArray), .string (⟨#[]⟩ : ByteArray)]] rfl (by (try simp only [List.map_toArray, List.map_cons, List.map_nil]); first | done | rfl | (simp only [List.length_drop, List.length_take]; rfl)) ?_; (with_reducible refine (sdt_Encode.calls k (⟨#[83, 83, 68, 84]⟩ : ByteArray) 2 (⟨#[77, 69]⟩ : ByteArray) (⟨#[]⟩ : ByteArray) t121 t122 _ A1.out).mono ?_); rintro e w32 ⟨rfl, hb⟩; refine ⟨_, rfl, ?_⟩; have n0_ := Aside0.mk (below_step (by repeat (first | (with_reducible first | exact HB.out | apply below_alloc | apply pw_below_drewN | apply below_drew1) | exact HB.out)) hb); clear HB; have HB := n0_; clear n0_; (try clear hb); (try clear hb2); (try clear hk); (try clear hi)) | ((with_reducible refine gate_callee (f := 16) rfl ?_); refine goesL_ (some 13) rfl rfl Tryd.func16 (by kernel_rfl) rfl #[.string t121] rfl (by (try simp only [List.map_toArray, List.map_cons, List.map_nil]); first | done | rfl | (simp only [List.length_drop, List.length_take]; rfl)) ?_; (with_reducible refine (sdt_Decode.calls k t121 t123 t124 t125 t126 t127 t128 _ A2.out).mono ?_); rintro e w33 ⟨rfl, hb⟩; refine ⟨_, rfl, ?_⟩; have n0_ := Aside0.mk (below_step (by repeat (first | (with_reducible first | exact HB.out | apply below_alloc | apply pw_below_drewN | apply below_drew1) | exact HB.out)) hb); clear HB; have HB := n0_; clear n0_; (try clear hb); (try clear hb2); (try clear hk); (try clear hi)) | ((with_reducible refine gate_dst (N := 3) rfl ?_); (try (refine gate_guard (by rfl) ?_; dsimp only)); refine box_event ?hg (N := 3) ?hd (cs := #[.string (⟨#[]⟩ : ByteArray), .int .i64 0, .string (⟨#[]⟩ : ByteArray), .string (⟨#[]⟩ : ByteArray)]) (t := 23) ?hr ?_; (case hd => rfl); (case hg => rfl); (case hr => first | (go_simp; done) | (go_simp; rfl)); intro gb129 hg w34 hbox hb; have n0_ := Aside0.mk (below_step (by repeat (first | (with_reducible first | exact HB.out | apply below_alloc | apply pw_below_drewN | apply below_drew1) | exact HB.out)) hb); have n1_ := Aside0.mk (hbox); have n2_ := Aside0.mk ((by rw [hg]; exact (below_size (by repeat (first | (with_reducible first | exact HB.out | apply below_alloc | apply pw_below_drewN | apply below_drew1) | exact HB.out))) : w.heap.size ≤ gb129)); have n3_ := Aside0.mk ((by rw [hg]; exact (below_size (by repeat (first | (with_reducible first | exact HB.out | apply below_alloc | apply pw_below_drewN | apply below_drew1) | exact HB.out))) : w.heap.size ≤ gb129)); clear HB; have HB := n0_; have BK129 := n1_; have GW129 := n2_; have GE129 := n3_; clear n0_ n1_ n2_ n3_; clear hb hbox hg; have hcz35_0 : w34.cell? ⟨gb129, 0, none⟩ = some (.string (⟨#[]⟩ : ByteArray)) := (blk_cell BK129.out 0).trans rfl; have hcz35_1 : w34.cell? ⟨gb129, 1, none⟩ = some (.int .i64 0) := (blk_cell BK129.out 1).trans rfl; have hcz35_2 : w34.cell? ⟨gb129, 2, none⟩ = some (.string (⟨#[]⟩ : ByteArray)) := (blk_cell BK129.out 2).trans rfl; have hcz35_3 : w34.cell? ⟨gb129, 3, none⟩ = some (.string (⟨#[]⟩ : ByteArray)) := (blk_cell BK129.out 3).trans rfl; have hfz35_0 := blk_frozen BK129.out 0; have hfz35_1 := blk_frozen BK129.out 1; have hfz35_2 := blk_frozen BK129.out 2; have hfz35_3 := blk_frozen BK129.out 3))
      go_ret
      exact ⟨by first | rfl | (simp [errW_none, errW_some] <;> rfl) | (simp [*, errW_none, errW_some] <;> rfl), by repeat (first | (with_reducible first | exact HB.out | apply below_alloc | apply pw_below_drewN | apply below_drew1 | refine below_set ?_ GE129.out) | exact HB.out)⟩
  · rw [if_neg c3] at H
    have c3b0 : (t122 == 0) = false := beq_eq_false_iff_ne.mpr c3
    have c3b1 : (t122 != 0) = true := bne_iff_ne.mpr c3
    obtain rfl := Option.some.inj H
    go_enter Tryd.func9, Tryd.ntmps9
    go_wp2_with (first | ((with_reducible refine gate_callee (f := 15) rfl ?_); refine goesL_ (some 8) rfl rfl Tryd.func15 (by kernel_rfl) rfl #[.agg #[.string (⟨#[83, 83, 68, 84]⟩ : ByteArray), .int .i64 2, .string (⟨#[77, 69]⟩ : ByteArray), .string (⟨#[]⟩ : ByteArray)]] rfl (by (try simp only [List.map_toArray, List.map_cons, List.map_nil]); first | done | rfl | (simp only [List.length_drop, List.length_take]; rfl)) ?_; (with_reducible refine (sdt_Encode.calls k (⟨#[83, 83, 68, 84]⟩ : ByteArray) 2 (⟨#[77, 69]⟩ : ByteArray) (⟨#[]⟩ : ByteArray) t121 t122 _ A1.out).mono ?_); rintro e w36 ⟨rfl, hb⟩; refine ⟨_, rfl, ?_⟩; have n0_ := Aside0.mk (below_step (by repeat (first | (with_reducible first | exact HB.out | apply below_alloc | apply pw_below_drewN | apply below_drew1) | exact HB.out)) hb); clear HB; have HB := n0_; clear n0_; (try clear hb); (try clear hb2); (try clear hk); (try clear hi)) | ((with_reducible refine gate_callee (f := 16) rfl ?_); refine goesL_ (some 13) rfl rfl Tryd.func16 (by kernel_rfl) rfl #[.string t121] rfl (by (try simp only [List.map_toArray, List.map_cons, List.map_nil]); first | done | rfl | (simp only [List.length_drop, List.length_take]; rfl)) ?_; (with_reducible refine (sdt_Decode.calls k t121 t123 t124 t125 t126 t127 t128 _ A2.out).mono ?_); rintro e w37 ⟨rfl, hb⟩; refine ⟨_, rfl, ?_⟩; have n0_ := Aside0.mk (below_step (by repeat (first | (with_reducible first | exact HB.out | apply below_alloc | apply pw_below_drewN | apply below_drew1) | exact HB.out)) hb); clear HB; have HB := n0_; clear n0_; (try clear hb); (try clear hb2); (try clear hk); (try clear hi)) | ((with_reducible refine gate_dst (N := 3) rfl ?_); (try (refine gate_guard (by rfl) ?_; dsimp only)); refine box_event ?hg (N := 3) ?hd (cs := #[.string (⟨#[]⟩ : ByteArray), .int .i64 0, .string (⟨#[]⟩ : ByteArray), .string (⟨#[]⟩ : ByteArray)]) (t := 23) ?hr ?_; (case hd => rfl); (case hg => rfl); (case hr => first | (go_simp; done) | (go_simp; rfl)); intro gb129 hg w38 hbox hb; have n0_ := Aside0.mk (below_step (by repeat (first | (with_reducible first | exact HB.out | apply below_alloc | apply pw_below_drewN | apply below_drew1) | exact HB.out)) hb); have n1_ := Aside0.mk (hbox); have n2_ := Aside0.mk ((by rw [hg]; exact (below_size (by repeat (first | (with_reducible first | exact HB.out | apply below_alloc | apply pw_below_drewN | apply below_drew1) | exact HB.out))) : w.heap.size ≤ gb129)); have n3_ := Aside0.mk ((by rw [hg]; exact (below_size (by repeat (first | (with_reducible first | exact HB.out | apply below_alloc | apply pw_below_drewN | apply below_drew1) | exact HB.out))) : w.heap.size ≤ gb129)); clear HB; have HB := n0_; have BK129 := n1_; have GW129 := n2_; have GE129 := n3_; clear n0_ n1_ n2_ n3_; clear hb hbox hg; have hcz39_0 : w38.cell? ⟨gb129, 0, none⟩ = some (.string (⟨#[]⟩ : ByteArray)) := (blk_cell BK129.out 0).trans rfl; have hcz39_1 : w38.cell? ⟨gb129, 1, none⟩ = some (.int .i64 0) := (blk_cell BK129.out 1).trans rfl; have hcz39_2 : w38.cell? ⟨gb129, 2, none⟩ = some (.string (⟨#[]⟩ : ByteArray)) := (blk_cell BK129.out 2).trans rfl; have hcz39_3 : w38.cell? ⟨gb129, 3, none⟩ = some (.string (⟨#[]⟩ : ByteArray)) := (blk_cell BK129.out 3).trans rfl; have hfz39_0 := blk_frozen BK129.out 0; have hfz39_1 := blk_frozen BK129.out 1; have hfz39_2 := blk_frozen BK129.out 2; have hfz39_3 := blk_frozen BK129.out 3))
    go_ret
    exact ⟨by first | rfl | (simp [errW_none, errW_some] <;> rfl) | (simp [*, errW_none, errW_some] <;> rfl), by repeat (first | (with_reducible first | exact HB.out | apply below_alloc | apply pw_below_drewN | apply below_drew1 | refine below_set ?_ GE129.out) | exact HB.out)⟩

/-! ### platformfwlaw07_table: function 11 -/
def platformfwlaw07_table.f (a0 : ByteArray) (a1 : Int) (a2 : ByteArray) (a3 : ByteArray) : Option (ByteArray × Int × ByteArray × ByteArray) := if (-9223372036854775808 ≤ a1 ∧ a1 ≤ 9223372036854775807) ∧ a0.size ≤ 9223372036854775807 ∧ a2.size ≤ 9223372036854775807 ∧ a3.size ≤ 9223372036854775807 then some (Go.Proofs.YtkpaglpophfeeaaDoor.Given.tabOf a0 a1 a2 a3) else none
theorem platformfwlaw07_table.calls (a0 : ByteArray) (a1 : Int) (a2 : ByteArray) (a3 : ByteArray) (r1 : ByteArray) (r2 : Int) (r3 : ByteArray) (r4 : ByteArray) (w : World) (h : platformfwlaw07_table.f a0 a1 a2 a3 = some (r1, r2, r3, r4)) :
    Calls Tryd.prog 11 #[.agg #[.string a0, .int .i64 a1, .string a2, .string a3]] w fun e w' => e = .returned (.agg #[.string r1, .int .i64 r2, .string r3, .string r4]) ∧ Below w.heap.size w w' := by
  unfold platformfwlaw07_table.f at h
  split at h
  · rename_i hc
    have hR := Option.some.inj h
    have hk := Go.Proofs.YtkpaglpophfeeaaDoor.Given.table_calls a0 a1 a2 a3 w hc.1.1 hc.1.2 hc.2.1 hc.2.2.1 hc.2.2.2
    rw [hR] at hk
    exact hk
  · exact absurd h (by simp)

/-! ### platformfwref07_Sum: function 13 -/
def platformfwref07_Sum.l0 : Nat → ByteArray → Int → Int → Option (Int)
  | 0, _, _, _ => none
  | k + 1, x0, x3, x4 => if x4 < (x0.size : Int) then (if 0 ≤ x4 then (platformfwref07_Sum.l0 k x0 ((x3 + (bt x0 x4)) % 256) (wrap64 (x4 + 1))) else (none)) else (some x3)
def platformfwref07_Sum.f (k : Nat) (a0 : ByteArray) : Option (Int) := platformfwref07_Sum.l0 k a0 0 0
theorem platformfwref07_Sum.mono_l : ∀ k, (∀ y0 y1 y2, LeO (platformfwref07_Sum.l0 k y0 y1 y2) (platformfwref07_Sum.l0 (k + 1) y0 y1 y2))
  | 0 => fun _ _ _ r h => by simp [platformfwref07_Sum.l0] at h
  | k + 1 => by
    have ih0 := platformfwref07_Sum.mono_l k
    · intro y0 y1 y2
      unfold platformfwref07_Sum.l0
      repeat' first
      | (with_reducible exact ih0 _ _ _)
      | (with_reducible exact LeO.refl _)
      | (with_reducible exact LeO.none _)
      | (with_reducible refine LeO.ite ?_ ?_)
      | (with_reducible refine LeO.bind ?_ (fun _ => ?_))
      | exact ih0 _ _ _
      | exact LeO.none _
      | refine LeO.ite ?_ ?_
      | refine LeO.bind ?_ (fun _ => ?_)
theorem platformfwref07_Sum.mono : ∀ a0 k, LeO (platformfwref07_Sum.f k a0) (platformfwref07_Sum.f (k + 1) a0) := by
  intro a0 k
  have ih0 := platformfwref07_Sum.mono_l k
  unfold platformfwref07_Sum.f
  repeat' first
      | (with_reducible exact ih0 _ _ _)
      | (with_reducible exact LeO.refl _)
      | (with_reducible exact LeO.none _)
      | (with_reducible refine LeO.ite ?_ ?_)
      | (with_reducible refine LeO.bind ?_ (fun _ => ?_))
      | exact ih0 _ _ _
      | exact LeO.none _
      | refine LeO.ite ?_ ?_
      | refine LeO.bind ?_ (fun _ => ?_)
set_option maxHeartbeats 8000000 in
set_option maxRecDepth 100000 in
theorem platformfwref07_Sum.calls (k : Nat) (a0 : ByteArray) (r : Int) (w : World) (h : platformfwref07_Sum.f k a0 = some r) :
    Calls Tryd.prog 13 #[.string a0] w fun e w' => e = .returned (.int .u8 r) ∧ Drawn0 w w' := by
  have H : (platformfwref07_Sum.l0 k a0 0 0) = some r := h
  clear h
  have H' := Aside0.mk H
  clear H
  go_enter Tryd.func13, Tryd.ntmps13
  go_wp2
  go_loopg [3, 4] k (fun kq v3 v4 w' => ∃ (x3_1 : Int) (x4_1 : Int), v3 = .int .u8 x3_1 ∧ v4 = .int .i64 x4_1 ∧ Aside0 (platformfwref07_Sum.l0 kq a0 x3_1 x4_1 = some r) ∧ Aside0 (kq ≤ k) ∧ Drawn0 w w')
  case atStart => exact ⟨(0), (0), (by first | rfl | (simp; done) | (simp [*]; done)), (by first | rfl | (simp; done) | (simp [*]; done)), H', ⟨Nat.le_refl _⟩, by repeat (first | exact Drawn0.refl _ | apply Drawn0.step)⟩
  case round =>
    clear H'
    try clear c1
    obtain ⟨x3_1, x4_1, rfl, rfl, HA, HK1, ⟨m1, rfl⟩⟩ := hrel
    cases gk with
    | zero => exact absurd HA.out (by simp [platformfwref07_Sum.l0])
    | succ k1 =>
      have H := HA.out
      clear HA
      simp only [platformfwref07_Sum.l0] at H
      by_cases c2 : x4_1 < (a0.size : Int)
      · rw [if_pos c2] at H
        have c2b0 : decide (x4_1 < (a0.size : Int)) = true := decide_eq_true c2
        clear c2
        by_cases c3 : 0 ≤ x4_1
        · rw [if_pos c3] at H
          have c3b0 : decide (0 ≤ x4_1) = true := decide_eq_true c3
          clear c3
          have H' := Aside0.mk H
          clear H
          have p4 : 0 ≤ (x4_1 : Int) := of_decide_eq_true (by first | (with_reducible assumption) | assumption)
          have q4 : x4_1 < (a0.size : Int) := of_decide_eq_true (by first | (with_reducible assumption) | assumption)
          have hx4 := bt_at a0 x4_1
          replace p4 := eq_true p4
          replace q4 := eq_true q4
          go_wp2
          go_roundg k1
          case measure => have := HK1.out; omega
          case rel => exact ⟨((x3_1 + (bt a0 x4_1)) % 256), (wrap64 (x4_1 + 1)), (by first | rfl | (simp; done) | (simp [*]; done)), (by first | rfl | (simp; done) | (simp [*]; done)), H', ⟨by have := HK1.out; omega⟩, by repeat (first | exact Drawn0.refl _ | apply Drawn0.step)⟩
        · rw [if_neg c3] at H
          exact absurd H (by simp)
      · rw [if_neg c2] at H
        have c2b0 : decide (x4_1 < (a0.size : Int)) = false := decide_eq_false c2
        clear c2
        obtain rfl := Option.some.inj H
        go_wp2
        go_ret
        exact ⟨by first | rfl | (simp; done) | (simp [*]; done), by repeat (first | exact Drawn0.refl _ | apply Drawn0.step)⟩

end Go.Proofs.YtkpaglpophfeeaaDoor.PA
