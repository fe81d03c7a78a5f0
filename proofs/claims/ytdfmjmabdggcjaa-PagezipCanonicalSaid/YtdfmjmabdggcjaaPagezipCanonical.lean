/-
  PagezipCanonical: the Go function that states that every string that Decompress accepts is the compressed form of its result, so that no page has two compressed forms; at most 600 bytes and 64 words. Proved for every input of the given statement Rows.PagezipCanonicalSaid; no further condition.
-/
import Derived.Test.YtdfmjmabdggcjaaRows
import Derived.Test.YtdfmjmabdggcjaaPzR
import Derived.WalkKit
import Derived.ProofKit
import Derived.OpenShut
import Derived.ShutString
import Derived.ChangeOld
import Derived.Below
namespace Go.Proofs.Ytdfmjmabdggcjaa.pagezipCanonical
open Go.ChangeShapes Go.WideShapes Go.ChangeAt Go.RowKit
open Go.ChangeMaps (open_string shut_string)
open Go.Proofs.Ytdfmjmabdggcjaa.Pz Go.Proofs.YtdfmjmabdggcjaaW.PrintWords
set_option linter.unusedSimpArgs false
set_option linter.unusedVariables false

theorem own : ownKnob Try.prog.godebug = none := by kernel_rfl
theorem laidOut : laidOutB Try.prog = true := by kernel_rfl

/-- WHAT THE WALK IS TOLD OF A SLICE OF INTEGERS THAT CAME IN: it is nil; or it leads to a row of 'cap' cells, the numbers 'zs' (the first 'len' are its elements, the rest its spare room), each fitting its kind. -/
def IsRow (k : IntKind) (w : World) (a : Option Addr) (len cap : Nat) (zs : List Int) : Prop :=
  (a = none ∧ len = 0 ∧ cap = 0 ∧ zs = []) ∨
  ∃ x, a = some x ∧ len ≤ cap ∧ cap ≤ maxLen ∧ zs.length = cap ∧ (∀ i, i < zs.length → w.cell? (x.add i) = some (.int k (zs.getD i 0))) ∧ ∀ n ∈ zs, (Lit.int k n).wf = true

/-! ### STEP 1: THE WALK: the Go text returns true, AND WRITES NOTHING THAT WAS THERE: 'Below w.heap.size w w'' (Derived/Below.lean: '.refl', '.alloc', '.drew', '.setCell' at a new block, '.trans'). Open each 'IsRow' by 'rcases' AHEAD of 'go_enter'; part every test ahead of the walk. -/
set_option maxHeartbeats 8000000 in
set_option maxRecDepth 100000 in
theorem walk (a0 : ByteArray) (a1 : Option Addr) (len1 cap1 : Nat) (z1 : List Int) (a2 : Int) (a3 : Int) (a4 : Int) (w : World) (w0 : a0.size ≤ maxLen) (w1 : IsRow .u32 w a1 len1 cap1 z1) (w2 : (Lit.int .u8 a2).wf = true) (w3 : (Lit.int .i64 a3).wf = true) (w4 : (Lit.int .u8 a4).wf = true) :
    Calls Try.prog 6 #[.string a0, .slice a1 len1 cap1, .int .u8 a2, .int .i64 a3, .int .u8 a4] w fun e w' => e = .returned (.bool true) ∧ Below w.heap.size w w' := by
  have hu := u8_of_wf w2
  have hat := i64_of_wf w3
  have hc8 := u8_of_wf w4
  have hR := reads_of_row w1
  have hX := u32_of_row w1
  have HR := Lib.hid hR
  have HX := Lib.hid hX
  have h63 := hR.2.1
  have HA := Lib.hid awake_calls
  unfold maxLen at w0
  clear w1 w2 w3 w4 hX hR
  by_cases hbig : 600 < a0.size ∨ 64 < len1
  · by_cases h6 : 600 < a0.size
    · have hd : decide ((600 : Int) < a0.size) = true := decide_eq_true (by omega)
      go_enter Try.func6, Try.ntmps6
      go_wp2_with fail
      refine (HA.out _).mono ?_
      rintro e w' ⟨rfl, hB⟩
      go_wp2_with fail
      go_ret
      exact ⟨rfl, hB⟩
    · have hd : decide ((600 : Int) < a0.size) = false := decide_eq_false (by omega)
      have hd2 : decide ((64 : Int) < len1) = true := decide_eq_true (by omega)
      go_enter Try.func6, Try.ntmps6
      go_wp2_with fail
      refine (HA.out _).mono ?_
      rintro e w' ⟨rfl, hB⟩
      go_wp2_with fail
      go_ret
      exact ⟨rfl, hB⟩
  · have hd : decide ((600 : Int) < a0.size) = false := decide_eq_false (by omega)
    have hd2 : decide ((64 : Int) < len1) = false := decide_eq_false (by omega)
    have hs0 : a0.size ≤ 600 := by omega
    clear hbig
    go_enter Try.func6, Try.ntmps6
    go_wp2_with fail
    refine (page_calls a1 len1 cap1 _ a2 _ HR.out HX.out hu.1 hu.2).mono ?_
    rintro e w3 ⟨⟨p, hp, rfl⟩, hb3⟩
    have HC : Hid (∀ W : World, Calls Try.prog 11 #[.string p] W fun e w' => e = .returned (.tuple #[.string (compS p), .int .i64 0]) ∧ Below W.heap.size W w') := fun W => by
      have h := compress_calls p W
      rwa [show compE p = 0 by unfold compE; rw [if_pos hp]] at h
    have hsz := compS_size p hp
    generalize compS p = x at *
    obtain ⟨hs1, hs2⟩ := hsz
    have hne : ((x.size : Int) == 0) = false := by rw [beq_eq_false_iff_ne]; omega
    clear hp
    go_wp2_with fail
    refine (HC.out _).mono ?_
    rintro e w4 ⟨rfl, hB4⟩
    have hb4 : Below w.heap.size w w4 := below_then hb3 hb3.size hB4
    clear hb3 hB4
    go_wp2_with fail
    refine (mod_calls a3 (x.size : Int) hat.1 hat.2 (by omega) (by omega) _).mono ?_
    rintro e w5 ⟨⟨r, hr0, hr1, hre, rfl⟩, rfl⟩
    clear hre
    obtain ⟨K, rfl⟩ := Int.eq_ofNat_of_zero_le hr0
    have hcv : ∀ W : World, (convert 31 9 (.slice (some ⟨W.heap.size, 0, none⟩) 1 1)).run Try.prog (W.alloc (.cells #[.int .u8 a4] 5)) = .ok (.string (strOfNums [a4])) (W.alloc (.cells #[.int .u8 a4] 5)) := fun W =>
      own_string (P := Try.prog) (src := 31) (dst := 9) (e := 5) Try.underlying31 Try.underlying5 Try.underlying9 (own_lit W 0 5 .u8 [a4] (Nat.zero_le _) (by simp))
    have hcv2 : ∀ W : World, (convert 31 9 (.slice (some ⟨W.heap.size, 0, none⟩) 1 1)).run Try.prog (W.alloc (.cells #[.int .u8 a4] 5)).drew = .ok (.string (strOfNums [a4])) (W.alloc (.cells #[.int .u8 a4] 5)).drew := fun W =>
      own_string (P := Try.prog) (w := (W.alloc (.cells #[.int .u8 a4] 5)).drew) (src := 31) (dst := 9) (e := 5) Try.underlying31 Try.underlying5 Try.underlying9 (own_lit W 0 5 .u8 [a4] (Nat.zero_le _) (by simp))
    have hy1 : (strOfNums [a4]).size ≤ 1 := by rw [strOfNums_size]; simp
    generalize strOfNums [a4] = y at *
    have hK : K + 1 ≤ x.size := by omega
    have hK0 : K ≤ x.size := by omega
    go_wp2_with fail
    go_region
    go_wp2_with fail
    have hl2 : (x.extract 0 K ++ y ++ x.extract (K + 1) x.size).size ≤ 70000 := by
      rw [ByteArray.size_append, ByteArray.size_append, ByteArray.size_extract, ByteArray.size_extract]; omega
    generalize x.extract 0 K ++ y ++ x.extract (K + 1) x.size = s2 at hl2 ⊢
    have HI : Hid (∀ k : Nat, k < 2 → ∃ t : ByteArray, t.size ≤ 70000 ∧ ∀ W : World, (Instr.index 34 (.agg #[.string a0, .string s2]) (.int .i64 (k : Int))).run Try.prog W = .ok (.string t) W) := by
      intro k hk
      rcases (show k = 0 ∨ k = 1 by omega) with rfl | rfl
      · exact ⟨a0, by omega, fun W => by kernel_rfl⟩
      · exact ⟨s2, hl2, fun W => by kernel_rfl⟩
    clear hl2 hcv hcv2
    have hb5 : Below w.heap.size w (w4.alloc (.cells #[.int .u8 a4] 5)).drew := below_drew (hb4.alloc hb4.size _)
    go_loopw [61] (fun c wr => ∃ k : Nat, k ≤ 2 ∧ c = .int .i64 k ∧ Below w.heap.size w wr) (fun c _ => 2 - (intOf c).toNat)
    case atStart => exact ⟨0, by omega, rfl, hb5⟩
    case round =>
      obtain ⟨k, hk, rfl, hB⟩ := hrel
      by_cases hlt : k < 2
      · obtain ⟨t, ht, hix⟩ := HI.out k hlt
        have HD : Hid (∀ W : World, Calls Try.prog 14 #[.string t] W fun e w' => e = decR t ∧ Below W.heap.size W w') := decompress_calls t ht
        clear ht
        rcases decR_cases t with ⟨q, hq1, hq2, hq⟩ | hq
        · have Hq := Lib.hid hq
          have HQ : Hid (∀ W : World, Calls Try.prog 11 #[.string q] W fun e w' => e = .returned (.tuple #[.string t, .int .i64 0]) ∧ Below W.heap.size W w') := fun W => by
            have h := compress_calls q W
            rwa [hq2, show compE q = 0 by unfold compE; rw [if_pos hq1]] at h
          clear hq hq1 hq2
          go_wp2_with fail
          refine (HD.out _).mono ?_
          rintro e w6 ⟨rfl, hB6⟩
          rw [Hq.out]
          go_wp2_with fail
          refine (HQ.out _).mono ?_
          rintro e w7 ⟨rfl, hB7⟩
          have hB8 : Below w.heap.size w w7 := below_then (below_then hB hB.size hB6) (Nat.le_trans hB.size hB6.size) hB7
          clear hB6 hB7
          go_wp2_with fail
          go_roundw
          case rel => exact ⟨k + 1, by omega, by go_num, hB8⟩
          case measure => simp [intOf]; omega
        · have Hq := Lib.hid hq
          clear hq
          go_wp2_with fail
          refine (HD.out _).mono ?_
          rintro e w6 ⟨rfl, hB6⟩
          rw [Hq.out]
          have hB8 : Below w.heap.size w w6 := below_then hB hB.size hB6
          clear hB6
          go_wp2_with fail
          go_roundw
          case rel => exact ⟨k + 1, by omega, by go_num, hB8⟩
          case measure => simp [intOf]; omega
      · go_wp2_with fail
        refine (HA.out _).mono ?_
        rintro e w6 ⟨rfl, hB6⟩
        have hb6 : Below w.heap.size w w6 := below_then hB hB.size hB6
        clear hB6
        go_wp2_with fail
        go_ret
        exact ⟨rfl, hb6⟩

/-! ### THE ROW's STEP: WRITTEN OUT: LEAVE IT -/
set_option maxRecDepth 100000 in
theorem lifted (os : Os) (started : os.Started) (H : Type) (enc : TypeId × Value → H) :
    ReturnsInHanded {} Try.checked os 6 .any (Rows.pagezipCanonicalSpec.pre6 enc Try.prog Try.f6 Rows.pagezipCanonicalRow.domain false) (Rows.pagezipCanonicalSpec.post enc Try.prog Try.f6 false true false false) := by
  refine returnsInHanded_of_change (C := Try.checked) own started (by kernel_rfl) Try.func6
    (ChangeSpec.witness6 (enc := enc) (C := Try.checked) false ⟨#[], #[.string ByteArray.empty, .slice none 0 0, .int .u8 0, .int .i64 0, .int .u8 0], []⟩ 8 (by kernel_rfl) (by kernel_rfl) (by kernel_rfl) (by kernel_rfl)) ?_
  intro W base args ds gs before hval0 hW hcnd _
  have hval : ∀ (j : Nat) t v, Try.f6.params[j]? = some t → args[j]? = some v → Value.okWide Try.prog W .any base t v := hval0
  have hW' := hW
  obtain ⟨p, q, hA0, hV, rfl, hfz, hnd⟩ := hW
  have hA : DataW.TrodAll enc Try.prog W 0 (fun _ => true) true Try.f6.params.toList args.toList ds p := hA0
  rw [Try.params6] at hA hval
  obtain ⟨v0, vs0, d0, ds0, p0, q0, hargs, rfl, rfl, h0, r0⟩ := trodAll_cons hA
  obtain ⟨v1, vs1, d1, ds1, p1, q1, rfl, rfl, rfl, h1, r1⟩ := trodAll_cons r0
  obtain ⟨v2, vs2, d2, ds2, p2, q2, rfl, rfl, rfl, h2, r2⟩ := trodAll_cons r1
  obtain ⟨v3, vs3, d3, ds3, p3, q3, rfl, rfl, rfl, h3, r3⟩ := trodAll_cons r2
  obtain ⟨v4, vs4, d4, ds4, p4, q4, rfl, rfl, rfl, h4, r4⟩ := trodAll_cons r3
  obtain ⟨rfl, rfl, rfl⟩ := trodAll_nil r4
  obtain rfl : args = #[v0, v1, v2, v3, v4] := by cases args; simp_all
  obtain ⟨rfl, rfl⟩ := trodVars_none hV
  obtain ⟨a0, rfl, rfl, rfl, w0⟩ := open_string Try.underlying9 (hval 0 9 v0 rfl rfl) h0
  obtain ⟨a1, len1, cap1, rfl⟩ := okWide_slice Try.underlying22 (hval 1 22 v1 rfl rfl)
  have k1 := h1
  have lt1 : ∀ x ∈ p1, x.block < W.heap.size := by obtain ⟨m, hm⟩ := k1; exact DataW.trod_lt m _ _ _ hm
  obtain ⟨z1, w1⟩ : ∃ zs, IsRow .u32 W a1 len1 cap1 zs := by
    obtain ⟨fuel, hf⟩ := h1
    rcases open_ints Try.underlying22 Try.underlying35 (by kernel_rfl) hf with ⟨hcs, _⟩ | ⟨x, l, c, zs, hcs, _, hl, hm, hz, _, hcell, hwz⟩
    · simp [Value.cells] at hcs
      obtain ⟨rfl, rfl, rfl⟩ := hcs
      exact ⟨[], .inl ⟨rfl, rfl, rfl, rfl⟩⟩
    · simp [Value.cells] at hcs
      obtain ⟨rfl, rfl, rfl⟩ := hcs
      exact ⟨zs, .inr ⟨_, rfl, hl, hm, by simpa using hz, hcell, hwz⟩⟩
  obtain ⟨a2, rfl, rfl, rfl, w2⟩ := open_int Try.underlying5 (hval 2 5 v2 rfl rfl) h2
  obtain ⟨a3, rfl, rfl, rfl, w3⟩ := open_int Try.underlying3 (hval 3 3 v3 rfl rfl) h3
  obtain ⟨a4, rfl, rfl, rfl, w4⟩ := open_int Try.underlying5 (hval 4 5 v4 rfl rfl) h4
  clear hA0 hval0
  refine (walk a0 a1 len1 cap1 z1 a2 a3 a4 W w0 w1 w2 w3 w4).mono fun e W' ⟨he, bel⟩ => ?_
  subst he
  exact ⟨_, rfl, _, _, _, [], _, [], hW', trodAll_mk1 (shut_bool Try.underlying4 _), (trodAll_cons_mk (shut_string Try.underlying9 w0) (trodAll_cons_mk (Below.trod laidOut (by kernel_rfl) (of_decide_eq_true (by kernel_rfl)) k1 bel lt1) (trodAll_cons_mk (shut_int Try.underlying5 w2) (trodAll_cons_mk (shut_int Try.underlying3 w3) (trodAll_cons_mk (shut_int Try.underlying5 w4) trodAll_mk0))))), rfl, bel.frame _, fun h => by cases h⟩

theorem over : Rows.pagezipCanonicalRow.holds Try.pinned (OpenSpec.ofChange Rows.pagezipCanonicalSpec) :=
  OpenClaim.holds_of_wide 6 Try.f6 rfl rfl rfl rfl rfl rfl rfl ⟨rfl, rfl, rfl, rfl, rfl⟩ rfl rfl rfl rfl rfl (by kernel_rfl) Try.func6 (by kernel_rfl)
    (of_decide_eq_true (by kernel_rfl)) (by unfold Func.isWrapper; first | (rw [if_pos (by decide +kernel)]; kernel_rfl) | (rw [if_neg (by decide +kernel)]; exact ⟨rfl, rfl⟩))
    (fun os started H enc _ => lifted os started H enc)

/-- ████ THE STATEMENT ████ -/
theorem proved : Rows.PagezipCanonicalSaid := over
#print axioms proved
end Go.Proofs.Ytdfmjmabdggcjaa.pagezipCanonical
