/-
  PagezipIncompressible: the Go function that states that a page of words whose upper halves are all different is stored unchanged after a byte 0. Proved for every input of the given statement Rows.PagezipIncompressibleSaid; no further condition.
-/
import Derived.Test.YtdfmjmabdggcjaaRows
import Derived.Test.YtdfmjmabdggcjaaPzV
import Derived.WalkKit
import Derived.Below
import Derived.ProofKit
import Derived.OpenShut
import Derived.ShutString
namespace Go.Proofs.Ytdfmjmabdggcjaa.pagezipIncompressible
open Go.ChangeShapes Go.WideShapes Go.ChangeAt Go.RowKit
open Go.ChangeMaps (open_string shut_string)
open Go.Proofs.Ytdfmjmabdggcjaa.Pz Go.Proofs.YtdfmjmabdggcjaaW.PrintWords
set_option linter.unusedSimpArgs false
set_option linter.unusedVariables false      -- a walk need not use every 'w<i>' (that an integer argument fits its kind)

theorem own : ownKnob Try.prog.godebug = none := by kernel_rfl

/-! ### STEP 1: THE WALK: the Go text returns true. 'Grown w w'': the world has at most new blocks (Derived/RowKit3.lean). Part the cases AHEAD of 'go_enter' where a test parts the walk; take each callee by a contract of your own. -/
set_option maxHeartbeats 8000000 in
set_option maxRecDepth 100000 in
theorem walk (a0 : Int) (a1 : Int) (w0 : (Lit.int .u16 a0).wf = true) (w1 : (Lit.int .u16 a1).wf = true) (w : World) :
    Calls Try.prog 8 #[.int .u16 a0, .int .u16 a1] w fun e w' => e = .returned (.bool true) ∧ Below w.heap.size w w' := by
  have h0 := u16_of_wf w0
  have h1 := u16_of_wf w1
  have HA := Lib.hid awake_calls
  clear w0 w1
  have hsd0 : 0 ≤ a0 % 60000 := Int.emod_nonneg _ (by decide)
  have hsd1 : a0 % 60000 < 60000 := Int.emod_lt_of_pos _ (by decide)
  obtain ⟨l0, l1⟩ := h1
  obtain ⟨s0, s1⟩ := h0
  have hmk := make256
  go_enter Try.func8, Try.ntmps8
  go_wp2_with fail
  clear hmk
  go_loopw [6] (fun c wr => ∃ i : Nat, i ≤ 64 ∧ c = .int .i64 i ∧ wr.ownsRow w.heap.size 5 1 (.slice (some ⟨w.heap.size, 0, none⟩) 256 256) 256 (nums .u8 (pageB (incP (a0 % 60000) a1 i))) ∧ Below w.heap.size w wr) (fun c _ => 64 - (intOf c).toNat)
  case atStart =>
    refine ⟨0, by omega, rfl, ?_, (Below.refl _ _).alloc (Nat.le_refl _) _⟩
    rw [incP_zero]
    exact own_made w w.heap.size 5 .u8 256 (Nat.le_refl _) (by decide)
  case round =>
    obtain ⟨i, hi, rfl, hL, hb⟩ := hrel
    by_cases hlt : i < 64
    · have hx0 : 0 ≤ ((i : Int) + 1 + a0 % 60000) * 65536 + a1 + i := by omega
      have hx1 : ((i : Int) + 1 + a0 % 60000) * 65536 + a1 + i < 4294967296 := by omega
      go_upto_region 6 with (fail)
      obtain ⟨x, hx⟩ : ∃ x, x = ((i : Int) + 1 + a0 % 60000) * 65536 + a1 + i := ⟨_, rfl⟩
      rw [← hx] at hx0 hx1 ⊢
      have Hx : Hid (inc (a0 % 60000) a1 i = x) := by rw [hx]; rfl
      clear hx
      go_wp2_with fail
      go_loopw [8] (fun c wi => ∃ j : Nat, j ≤ 4 ∧ c = .int .i64 j ∧ wi.ownsRow w.heap.size 5 1 (.slice (some ⟨w.heap.size, 0, none⟩) 256 256) 256 (nums .u8 (inB x (incP (a0 % 60000) a1 i) i j)) ∧ Below w.heap.size w wi) (fun c _ => 4 - (intOf c).toNat)
      case atStart => exact ⟨0, by omega, rfl, hL, hb⟩
      case round =>
        obtain ⟨j, hj, rfl, hL2, hb2⟩ := hrel
        by_cases hlj : j < 4
        · have c1 := own_at hL2 (4 * (i : Int) + j) (by omega) (by omega)
          rw [show (4 * (i : Int) + j).toNat = 4 * i + j by omega] at c1
          obtain ⟨c1, f1⟩ := c1
          go_wp2_with fail
          have hs3 := own_store hL2 (4 * (i : Int) + j) (x / 2 ^ (8 * j) % 256)
          rw [show (4 * (i : Int) + j).toNat = 4 * i + j by omega] at hs3
          go_roundw
          case rel => exact ⟨j + 1, by omega, by go_num, hs3.1, hb2.setCell (Nat.le_refl _) _⟩
          case measure => simp [intOf]; omega
        · have hj4 : j = 4 := by omega
          have hL3 : wr.ownsRow w.heap.size 5 1 (.slice (some ⟨w.heap.size, 0, none⟩) 256 256) 256 (nums .u8 (pageB (incP (a0 % 60000) a1 (i + 1)))) := by
            rw [incP_succ, Hx.out, ← inB_four x _ _ (by rw [incP_length]; exact hlt), ← hj4]; exact hL2
          have Hj := Lib.hid hj4
          clear hj4 hL2
          go_wp2_with fail
          go_roundw
          case rel => exact ⟨i + 1, by omega, by go_num, hL3, hb2⟩
          case measure => simp [intOf]; omega
    · have him : i = 64 := by omega
      have hL6 : wr.ownsRow w.heap.size 5 1 (.slice (some ⟨w.heap.size, 0, none⟩) 256 256) 256 (nums .u8 (pageB (incL (a0 % 60000) a1 64))) := by
        rw [← incP_all, ← him]; exact hL
      have Hi := Lib.hid him
      clear him hL
      have hcv := own_string (P := Try.prog) (src := 31) (dst := 9) (e := 5) Try.underlying31 Try.underlying5 Try.underlying9 hL6
      have Hcv6 : Hid (∀ W' : World, Below wr.heap.size wr W' → (convert 31 9 (.slice (some ⟨w.heap.size, 0, none⟩) 256 256)).run Try.prog W' = .ok (.string (strOfNums (pageB (incL (a0 % 60000) a1 64)))) W') := fun W' hB =>
        own_string (P := Try.prog) (src := 31) (dst := 9) (e := 5) Try.underlying31 Try.underlying5 Try.underlying9 (pw_own_below hL6 hB)
      have hinc := incomp (a0 % 60000) a1 hsd0 hsd1 l0 l1
      have hsz := page_size (incL (a0 % 60000) a1 64) (by simp [incL])
      have HC : Hid (∀ W : World, Calls Try.prog 11 #[.string (strOfNums (pageB (incL (a0 % 60000) a1 64)))] W fun e w' => e = .returned (.tuple #[.string (compS (strOfNums (pageB (incL (a0 % 60000) a1 64)))), .int .i64 0]) ∧ Below W.heap.size W w') := fun W => by
        have h := compress_calls (strOfNums (pageB (incL (a0 % 60000) a1 64))) W
        rwa [show compE (strOfNums (pageB (incL (a0 % 60000) a1 64))) = 0 by unfold compE; rw [if_pos hsz]] at h
      generalize compS (strOfNums (pageB (incL (a0 % 60000) a1 64))) = c at *
      generalize strOfNums (pageB (incL (a0 % 60000) a1 64)) = pg at *
      have heq : (c.toList == (({ data := #[0] } : ByteArray) ++ pg).toList) = true := by rw [hinc]; simp
      have hp1 : pg.size ≤ 256 := by omega
      clear hL6 hinc hsz
      go_wp2_with fail
      refine (HC.out _).mono ?_
      rintro e w6 ⟨rfl, hB6⟩
      have hb6 : Below w.heap.size w w6 := below_then hb hb.size hB6
      have hcv6 : (convert 31 9 (.slice (some ⟨w.heap.size, 0, none⟩) 256 256)).run Try.prog w6 = .ok (.string pg) w6 := Hcv6.out w6 hB6
      clear hB6 hb
      go_wp2_with fail
      refine (HA.out _).mono ?_
      rintro e w7 ⟨rfl, hB7⟩
      have hb7 : Below w.heap.size w w7 := below_then hb6 hb6.size hB7
      clear hB7 hb6
      go_wp2_with fail
      go_ret
      exact ⟨rfl, hb7⟩
  -- go_enter Try.func8, Try.ntmps8
  -- go_wp2
  -- go_ret
  -- exact ⟨rfl, by repeat (first | exact Grown.refl _ | apply Grown.drew | apply Grown.alloc)⟩

/-! ### THE ROW's STEP: WRITTEN OUT: LEAVE IT -/
set_option maxRecDepth 100000 in
theorem lifted (os : Os) (started : os.Started) (H : Type) (enc : TypeId × Value → H) :
    ReturnsInHanded {} Try.checked os 8 .any (Rows.pagezipIncompressibleSpec.pre6 enc Try.prog Try.f8 Rows.pagezipIncompressibleRow.domain false) (Rows.pagezipIncompressibleSpec.post enc Try.prog Try.f8 false true false false) := by
  refine returnsInHanded_of_change (C := Try.checked) own started (by kernel_rfl) Try.func8
    (ChangeSpec.witness6 (enc := enc) (C := Try.checked) false ⟨#[], #[.int .u16 0, .int .u16 0], []⟩ 8 (by kernel_rfl) (by kernel_rfl) (by kernel_rfl) (by kernel_rfl)) ?_
  intro W base args ds gs before hval0 hW hcnd _
  have hval : ∀ (j : Nat) t v, Try.f8.params[j]? = some t → args[j]? = some v → Value.okWide Try.prog W .any base t v := hval0
  have hW' := hW
  obtain ⟨p, q, hA0, hV, rfl, hfz, hnd⟩ := hW
  have hA : DataW.TrodAll enc Try.prog W 0 (fun _ => true) true Try.f8.params.toList args.toList ds p := hA0
  rw [Try.params8] at hA hval
  obtain ⟨v0, vs0, d0, ds0, p0, q0, hargs, rfl, rfl, h0, r0⟩ := trodAll_cons hA
  obtain ⟨v1, vs1, d1, ds1, p1, q1, rfl, rfl, rfl, h1, r1⟩ := trodAll_cons r0
  obtain ⟨rfl, rfl, rfl⟩ := trodAll_nil r1
  obtain rfl : args = #[v0, v1] := by cases args; simp_all
  obtain ⟨rfl, rfl⟩ := trodVars_none hV
  obtain ⟨a0, rfl, rfl, rfl, w0⟩ := open_int Try.underlying38 (hval 0 38 v0 rfl rfl) h0
  obtain ⟨a1, rfl, rfl, rfl, w1⟩ := open_int Try.underlying38 (hval 1 38 v1 rfl rfl) h1
  clear hA0 hval0
  simp only [List.append_nil] at hW'
  refine (walk a0 a1 w0 w1 W).mono fun e W' ⟨he, bel⟩ => ?_
  subst he
  exact ⟨_, rfl, _, _, _, [], [], [], hW', (trodAll_cons_mk (shut_bool Try.underlying4 _) trodAll_mk0), (trodAll_cons_mk (shut_int Try.underlying38 w0) (trodAll_cons_mk (shut_int Try.underlying38 w1) trodAll_mk0)), rfl, bel.frame _, fun h => by cases h⟩

theorem over : Rows.pagezipIncompressibleRow.holds Try.pinned (OpenSpec.ofChange Rows.pagezipIncompressibleSpec) :=
  OpenClaim.holds_of_wide 8 Try.f8 rfl rfl rfl rfl rfl rfl rfl ⟨rfl, rfl, rfl, rfl, rfl⟩ rfl rfl rfl rfl rfl (by kernel_rfl) Try.func8 (by kernel_rfl)
    (of_decide_eq_true (by kernel_rfl)) (by unfold Func.isWrapper; first | (rw [if_pos (by decide +kernel)]; kernel_rfl) | (rw [if_neg (by decide +kernel)]; exact ⟨rfl, rfl⟩))
    (fun os started H enc _ => lifted os started H enc)

/-- ████ THE STATEMENT ████ -/
theorem proved : Rows.PagezipIncompressibleSaid :=
  over
#print axioms proved
end Go.Proofs.Ytdfmjmabdggcjaa.pagezipIncompressible
