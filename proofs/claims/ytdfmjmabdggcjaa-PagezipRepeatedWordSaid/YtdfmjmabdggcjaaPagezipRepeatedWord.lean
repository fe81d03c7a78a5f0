/-
  PagezipRepeatedWord: States the exact compressed length of a page that contains one word at n positions and zeros elsewhere: 17 bytes, 4 bytes for the first occurrence (3 if its upper half is 0), and 1 byte for each further one. Proved for every input of the given statement Rows.PagezipRepeatedWordSaid; no further condition.
-/
import Derived.Test.YtdfmjmabdggcjaaRows
import Derived.Test.YtdfmjmabdggcjaaPzU
import Derived.WalkKit
import Derived.Below
import Derived.ProofKit
import Derived.OpenShut
import Derived.ShutString
namespace Go.Proofs.Ytdfmjmabdggcjaa.pagezipRepeatedWord
open Go.ChangeShapes Go.WideShapes Go.ChangeAt Go.RowKit
open Go.ChangeMaps (open_string shut_string)
open Go.Proofs.Ytdfmjmabdggcjaa.Pz Go.Proofs.YtdfmjmabdggcjaaW.PrintWords
set_option linter.unusedSimpArgs false
set_option linter.unusedVariables false      -- a walk need not use every 'w<i>' (that an integer argument fits its kind)

theorem own : ownKnob Try.prog.godebug = none := by kernel_rfl

/-! ### STEP 1: THE WALK: the Go text returns true. 'Grown w w'': the world has at most new blocks (Derived/RowKit3.lean). Part the cases AHEAD of 'go_enter' where a test parts the walk; take each callee by a contract of your own. -/
set_option maxHeartbeats 8000000 in
set_option maxRecDepth 100000 in
theorem walk (a0 : Int) (a1 : Int) (w0 : (Lit.int .u32 a0).wf = true) (w1 : (Lit.int .i64 a1).wf = true) (w : World) :
    Calls Try.prog 7 #[.int .u32 a0, .int .i64 a1] w fun e w' => e = .returned (.bool true) ∧ Below w.heap.size w w' := by
  have hu := u32_of_wf w0
  have hat := i64_of_wf w1
  have HA := Lib.hid awake_calls
  clear w0 w1
  obtain ⟨x, hx, hne, hx0, hx1⟩ : ∃ x : Int, x = (if a0 = 0 then 1 else a0) ∧ x ≠ 0 ∧ 0 ≤ x ∧ x < 4294967296 := by
    refine ⟨_, rfl, ?_⟩
    split <;> omega
  have HN := Lib.hid hne
  have HX := Lib.hid hx
  have hmk := make256
  clear hne hx
  go_enter Try.func7, Try.ntmps7
  go_wp2_with fail
  refine (mod_calls a1 65 hat.1 hat.2 (by omega) (by omega) _).mono ?_
  rintro e w5 ⟨⟨r, hr0, hr1, hre, rfl⟩, rfl⟩
  clear hre
  obtain ⟨m, rfl⟩ := Int.eq_ofNat_of_zero_le hr0
  go_upto_if 15 with (fail)
  go_cut [0] (fun s0 wx => s0 = .int .u32 x ∧ w = wx)
  case first =>
    by_cases hz : a0 = 0
    · have hb : (a0 == 0) = true := by simpa using hz
      have Hx1 : Hid (x = 1) := by rw [HX.out, if_pos hz]; rfl
      clear hz
      go_wp2_with fail
      go_meet
      exact ⟨by rw [Hx1.out], rfl⟩
    · have hb : (a0 == 0) = false := by simpa using hz
      have Hx1 : Hid (x = a0) := by rw [HX.out, if_neg hz]; rfl
      clear hz
      go_wp2_with fail
      go_meet
      exact ⟨by rw [Hx1.out], rfl⟩
  case rest =>
    obtain ⟨rfl, rfl⟩ := hcut
    clear HX
    go_wp2_with fail
    clear hmk
    go_loopw [7] (fun c wr => ∃ i : Nat, i ≤ m ∧ c = .int .i64 i ∧ wr.ownsRow w.heap.size 5 1 (.slice (some ⟨w.heap.size, 0, none⟩) 256 256) 256 (nums .u8 (pageB (rw_ x i))) ∧ Below w.heap.size w wr) (fun c _ => m - (intOf c).toNat)
    case atStart =>
      refine ⟨0, by omega, rfl, ?_, (Below.refl _ _).alloc (Nat.le_refl _) _⟩
      rw [rw_zero]
      exact own_made w w.heap.size 5 .u8 256 (Nat.le_refl _) (by decide)
    case round =>
      obtain ⟨i, hi, rfl, hL, hb⟩ := hrel
      by_cases hlt : i < m
      · have hq : 5 * i % 64 < 64 := Nat.mod_lt _ (by decide)
        have HQ : Hid ((5 * (i : Int) % 64) = ((5 * i % 64 : Nat) : Int)) := by show _ = _; omega
        go_wp2_with fail
        go_loopw [8] (fun c wi => ∃ j : Nat, j ≤ 4 ∧ c = .int .i64 j ∧ wi.ownsRow w.heap.size 5 1 (.slice (some ⟨w.heap.size, 0, none⟩) 256 256) 256 (nums .u8 (inB x (rw_ x i) (5 * i % 64) j)) ∧ Below w.heap.size w wi) (fun c _ => 4 - (intOf c).toNat)
        case atStart => exact ⟨0, by omega, rfl, hL, hb⟩
        case round =>
          obtain ⟨j, hj, rfl, hL2, hb2⟩ := hrel
          by_cases hlj : j < 4
          · have c1 := own_at hL2 (4 * (5 * (i : Int) % 64) + j) (by rw [HQ.out]; omega) (by rw [HQ.out]; omega)
            rw [show (4 * (5 * (i : Int) % 64) + j).toNat = 4 * (5 * i % 64) + j by rw [HQ.out]; omega] at c1
            obtain ⟨c1, f1⟩ := c1
            go_wp2_with fail
            have hs3 := own_store hL2 (4 * (5 * (i : Int) % 64) + j) (x / 2 ^ (8 * j) % 256)
            rw [show (4 * (5 * (i : Int) % 64) + j).toNat = 4 * (5 * i % 64) + j by rw [HQ.out]; omega] at hs3
            go_roundw
            case rel => exact ⟨j + 1, by omega, by go_num, hs3.1, hb2.setCell (Nat.le_refl _) _⟩
            case measure => simp [intOf]; omega
          · have hj4 : j = 4 := by omega
            have hL3 : wr.ownsRow w.heap.size 5 1 (.slice (some ⟨w.heap.size, 0, none⟩) 256 256) 256 (nums .u8 (pageB (rw_ x (i + 1)))) := by
              rw [rw_succ, ← inB_four x _ _ (by rw [rw_length]; exact hq), ← hj4]; exact hL2
            have Hj := Lib.hid hj4
            clear hj4 hL2
            go_wp2_with fail
            go_roundw
            case rel => exact ⟨i + 1, by omega, by go_num, hL3, hb2⟩
            case measure => simp [intOf]; omega
      · have him : i = m := by omega
        subst him
        have hcv := own_string (P := Try.prog) (src := 31) (dst := 9) (e := 5) Try.underlying31 Try.underlying5 Try.underlying9 hL
        have hlen := rw_len HN.out ⟨hx0, hx1⟩ i (by omega)
        have HC : Hid (∀ W : World, Calls Try.prog 11 #[.string (strOfNums (pageB (rw_ x i)))] W fun e w' => e = .returned (.tuple #[.string (compS (strOfNums (pageB (rw_ x i)))), .int .i64 0]) ∧ Below W.heap.size W w') := fun W => by
          have h := compress_calls (strOfNums (pageB (rw_ x i))) W
          rwa [show compE (strOfNums (pageB (rw_ x i))) = 0 by unfold compE; rw [if_pos (page_size _ (rw_length x i))]] at h
        generalize compS (strOfNums (pageB (rw_ x i))) = c at *
        generalize strOfNums (pageB (rw_ x i)) = pg at *
        by_cases hm0 : i = 0
        · rw [if_pos hm0] at hlen
          have hd : ¬ 0 < i := by omega
          have he : (c.size : Int) = 17 := by omega
          clear hlen hm0
          go_wp2_with fail
          refine (HC.out _).mono ?_
          rintro e w6 ⟨rfl, hB6⟩
          have hb6 : Below w.heap.size w w6 := below_then hb hb.size hB6
          clear hB6 hb
          go_wp2_with fail
          refine (HA.out _).mono ?_
          rintro e w7 ⟨rfl, hB7⟩
          have hb7 : Below w.heap.size w w7 := below_then hb6 hb6.size hB7
          clear hB7 hb6
          go_wp2_with fail
          go_ret
          exact ⟨rfl, hb7⟩
        · rw [if_neg hm0] at hlen
          have hd : 0 < i := by omega
          by_cases hx6 : x / 65536 = 0
          · rw [if_pos hx6] at hlen
            have hbx : (x / 65536 == 0) = true := by simpa using hx6
            have he : (c.size : Int) = 21 + (i : Int) - 1 - 1 := by omega
            clear hlen hm0 hx6
            go_wp2_with fail
            refine (HC.out _).mono ?_
            rintro e w6 ⟨rfl, hB6⟩
            have hb6 : Below w.heap.size w w6 := below_then hb hb.size hB6
            clear hB6 hb
            go_wp2_with fail
            refine (HA.out _).mono ?_
            rintro e w7 ⟨rfl, hB7⟩
            have hb7 : Below w.heap.size w w7 := below_then hb6 hb6.size hB7
            clear hB7 hb6
            go_wp2_with fail
            go_ret
            exact ⟨rfl, hb7⟩
          · rw [if_neg hx6] at hlen
            have hbx : (x / 65536 == 0) = false := by simpa using hx6
            have he : (c.size : Int) = 21 + (i : Int) - 1 := by omega
            clear hlen hm0 hx6
            go_wp2_with fail
            refine (HC.out _).mono ?_
            rintro e w6 ⟨rfl, hB6⟩
            have hb6 : Below w.heap.size w w6 := below_then hb hb.size hB6
            clear hB6 hb
            go_wp2_with fail
            refine (HA.out _).mono ?_
            rintro e w7 ⟨rfl, hB7⟩
            have hb7 : Below w.heap.size w w7 := below_then hb6 hb6.size hB7
            clear hB7 hb6
            go_wp2_with fail
            go_ret
            exact ⟨rfl, hb7⟩
  -- go_enter Try.func7, Try.ntmps7
  -- go_wp2
  -- go_ret
  -- exact ⟨rfl, by repeat (first | exact Grown.refl _ | apply Grown.drew | apply Grown.alloc)⟩

/-! ### THE ROW's STEP: WRITTEN OUT: LEAVE IT -/
set_option maxRecDepth 100000 in
theorem lifted (os : Os) (started : os.Started) (H : Type) (enc : TypeId × Value → H) :
    ReturnsInHanded {} Try.checked os 7 .any (Rows.pagezipRepeatedWordSpec.pre6 enc Try.prog Try.f7 Rows.pagezipRepeatedWordRow.domain false) (Rows.pagezipRepeatedWordSpec.post enc Try.prog Try.f7 false true false false) := by
  refine returnsInHanded_of_change (C := Try.checked) own started (by kernel_rfl) Try.func7
    (ChangeSpec.witness6 (enc := enc) (C := Try.checked) false ⟨#[], #[.int .u32 0, .int .i64 0], []⟩ 8 (by kernel_rfl) (by kernel_rfl) (by kernel_rfl) (by kernel_rfl)) ?_
  intro W base args ds gs before hval0 hW hcnd _
  have hval : ∀ (j : Nat) t v, Try.f7.params[j]? = some t → args[j]? = some v → Value.okWide Try.prog W .any base t v := hval0
  have hW' := hW
  obtain ⟨p, q, hA0, hV, rfl, hfz, hnd⟩ := hW
  have hA : DataW.TrodAll enc Try.prog W 0 (fun _ => true) true Try.f7.params.toList args.toList ds p := hA0
  rw [Try.params7] at hA hval
  obtain ⟨v0, vs0, d0, ds0, p0, q0, hargs, rfl, rfl, h0, r0⟩ := trodAll_cons hA
  obtain ⟨v1, vs1, d1, ds1, p1, q1, rfl, rfl, rfl, h1, r1⟩ := trodAll_cons r0
  obtain ⟨rfl, rfl, rfl⟩ := trodAll_nil r1
  obtain rfl : args = #[v0, v1] := by cases args; simp_all
  obtain ⟨rfl, rfl⟩ := trodVars_none hV
  obtain ⟨a0, rfl, rfl, rfl, w0⟩ := open_int Try.underlying35 (hval 0 35 v0 rfl rfl) h0
  obtain ⟨a1, rfl, rfl, rfl, w1⟩ := open_int Try.underlying3 (hval 1 3 v1 rfl rfl) h1
  clear hA0 hval0
  simp only [List.append_nil] at hW'
  refine (walk a0 a1 w0 w1 W).mono fun e W' ⟨he, bel⟩ => ?_
  subst he
  exact ⟨_, rfl, _, _, _, [], [], [], hW', (trodAll_cons_mk (shut_bool Try.underlying4 _) trodAll_mk0), (trodAll_cons_mk (shut_int Try.underlying35 w0) (trodAll_cons_mk (shut_int Try.underlying3 w1) trodAll_mk0)), rfl, bel.frame _, fun h => by cases h⟩

theorem over : Rows.pagezipRepeatedWordRow.holds Try.pinned (OpenSpec.ofChange Rows.pagezipRepeatedWordSpec) :=
  OpenClaim.holds_of_wide 7 Try.f7 rfl rfl rfl rfl rfl rfl rfl ⟨rfl, rfl, rfl, rfl, rfl⟩ rfl rfl rfl rfl rfl (by kernel_rfl) Try.func7 (by kernel_rfl)
    (of_decide_eq_true (by kernel_rfl)) (by unfold Func.isWrapper; first | (rw [if_pos (by decide +kernel)]; kernel_rfl) | (rw [if_neg (by decide +kernel)]; exact ⟨rfl, rfl⟩))
    (fun os started H enc _ => lifted os started H enc)

/-- ████ THE STATEMENT ████ -/
theorem proved : Rows.PagezipRepeatedWordSaid :=
  over
#print axioms proved
end Go.Proofs.Ytdfmjmabdggcjaa.pagezipRepeatedWord
