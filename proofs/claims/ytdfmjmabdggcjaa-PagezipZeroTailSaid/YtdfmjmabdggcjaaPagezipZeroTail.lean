/-
  PagezipZeroTail: the Go function that states that replacing the words from some position on by zeros never makes the compressed form longer; at most 64 words. Proved for every input of the given statement Rows.PagezipZeroTailSaid; no further condition.
-/
import Derived.Test.YtdfmjmabdggcjaaRows
import Derived.Test.YtdfmjmabdggcjaaPzT
import Derived.WalkKit
import Derived.ProofKit
import Derived.OpenShut
import Derived.ShutString
import Derived.ChangeOld
import Derived.Below
namespace Go.Proofs.Ytdfmjmabdggcjaa.pagezipZeroTail
open Go.ChangeShapes Go.WideShapes Go.ChangeAt Go.RowKit
open Go.ChangeMaps (open_string shut_string)
open Go.Proofs.Ytdfmjmabdggcjaa.Pz Go.Proofs.YtdfmjmabdggcjaaW.PrintWords
set_option linter.unusedSimpArgs false
set_option linter.unusedVariables false

theorem own : ownKnob Try.prog.godebug = none := by kernel_rfl
theorem laidOut : laidOutB Try.prog = true := by kernel_rfl

/-- WHAT THE WALK IS TOLD OF A SLICE OF INTEGERS THAT CAME IN: it is nil; or it leads to a row of 'cap' cells, the numbers 'zs' (the first 'len' are its elements, the rest its spare room), each fitting its kind. -/
def IsRow (k : IntKind) (w : World) (a : Option Addr) (len cap : Nat) (zs : List Int) : Prop :=
  (a = none ∧ len = 0 ∧ cap = 0 ∧ zs = []) ∨
  ∃ x, a = some x ∧ len ≤ cap ∧ cap ≤ maxLen ∧ zs.length = cap ∧ (∀ i, i < zs.length → w.cell? (x.add i) = some (.int k (zs.getD i 0))) ∧ ∀ n ∈ zs, (Lit.int k n).wf = true

/-! ### STEP 1: THE WALK: the Go text returns true, AND WRITES NOTHING THAT WAS THERE: 'Below w.heap.size w w'' (Derived/Below.lean: '.refl', '.alloc', '.drew', '.setCell' at a new block, '.trans'). Open each 'IsRow' by 'rcases' AHEAD of 'go_enter'; part every test ahead of the walk. -/
set_option maxHeartbeats 8000000 in
set_option maxRecDepth 100000 in
theorem walk (a0 : Option Addr) (len0 cap0 : Nat) (z0 : List Int) (a1 : Int) (a2 : Int) (w : World) (w0 : IsRow .u32 w a0 len0 cap0 z0) (w1 : (Lit.int .u8 a1).wf = true) (w2 : (Lit.int .i64 a2).wf = true) :
    Calls Try.prog 9 #[.slice a0 len0 cap0, .int .u8 a1, .int .i64 a2] w fun e w' => e = .returned (.bool true) ∧ Below w.heap.size w w' := by
  have hu := u8_of_wf w1
  have hat := i64_of_wf w2
  have hR := reads_of_row w0
  have hX := u32_of_row w0
  have HR := Lib.hid hR
  have HX := Lib.hid hX
  have h63 := hR.2.1
  have HA := Lib.hid awake_calls
  clear w0 w1 w2 hX hR
  by_cases hbig : 64 < len0
  · have hd2 : decide ((64 : Int) < len0) = true := decide_eq_true (by omega)
    go_enter Try.func9, Try.ntmps9
    go_wp2_with fail
    refine (HA.out _).mono ?_
    rintro e w' ⟨rfl, hB⟩
    go_wp2_with fail
    go_ret
    exact ⟨rfl, hB⟩
  · have hd2 : decide ((64 : Int) < len0) = false := decide_eq_false (by omega)
    go_enter Try.func9, Try.ntmps9
    go_wp2_with fail
    refine (page_calls a0 len0 cap0 _ a1 _ HR.out HX.out hu.1 hu.2).mono ?_
    rintro e w3 ⟨⟨p, hp, rfl⟩, hb3⟩
    go_wp2_with fail
    refine (mod_calls a2 65 hat.1 hat.2 (by omega) (by omega) _).mono ?_
    rintro e w5 ⟨⟨r, hr0, hr1, hre, rfl⟩, rfl⟩
    clear hre
    obtain ⟨K, rfl⟩ := Int.eq_ofNat_of_zero_le hr0
    have hK : K ≤ 64 := by omega
    have HC : Hid (∀ W : World, Calls Try.prog 11 #[.string p] W fun e w' => e = .returned (.tuple #[.string (compS p), .int .i64 0]) ∧ Below W.heap.size W w') := fun W => by
      have h := compress_calls p W
      rwa [show compE p = 0 by unfold compE; rw [if_pos hp]] at h
    have HQ : Hid (∀ W : World, Calls Try.prog 11 #[.string (cutz p K)] W fun e w' => e = .returned (.tuple #[.string (compS (cutz p K)), .int .i64 0]) ∧ Below W.heap.size W w') := fun W => by
      have h := compress_calls (cutz p K) W
      rwa [show compE (cutz p K) = 0 by unfold compE; rw [if_pos (cutz_size p hp K hK)]] at h
    have hle := cutz_shorter p hp K hK
    have hdle : decide ((compS (cutz p K)).size ≤ (compS p).size) = true := decide_eq_true hle
    have Hcz : Hid (cutz p K = p.extract 0 (4 * K) ++ strOfNums (List.replicate (256 - 4 * K) 0)) := rfl
    have hp1 : 256 ≤ p.size := by omega
    have hp2 : p.size ≤ 256 := by omega
    have hps : p.size ≤ 256 := hp2
    have hm : (256 : Int) - 4 * (K : Int) = ((256 - 4 * K : Nat) : Int) := by omega
    have hmk : ∀ W : World, (Instr.makeSlice 31 (.int .i64 (256 - 4 * (K : Int))) (.int .i64 (256 - 4 * (K : Int)))).run Try.prog W = .ok (.slice (some ⟨W.heap.size, 0, none⟩) (256 - 4 * K) (256 - 4 * K)) (W.alloc (.cells (madeCells #[.int .u8 0] (256 - 4 * K)) 5)) := by
      rw [hm]
      exact print_make (P := Try.prog) 31 5 .u8 1 Try.underlying31 (by kernel_rfl) (by decide) (256 - 4 * K) (by omega)
    have hcv : ∀ W : World, (convert 31 9 (.slice (some ⟨W.heap.size, 0, none⟩) (256 - 4 * K) (256 - 4 * K))).run Try.prog (W.alloc (.cells (madeCells #[.int .u8 0] (256 - 4 * K)) 5)).drew = .ok (.string (strOfNums (List.replicate (256 - 4 * K) 0))) (W.alloc (.cells (madeCells #[.int .u8 0] (256 - 4 * K)) 5)).drew := fun W =>
      own_string (P := Try.prog) (w := (W.alloc (.cells (madeCells #[.int .u8 0] (256 - 4 * K)) 5)).drew) (src := 31) (dst := 9) (e := 5) Try.underlying31 Try.underlying5 Try.underlying9 (own_made W 0 5 .u8 (256 - 4 * K) (Nat.zero_le _) (by omega))
    have hsz : (strOfNums (List.replicate (256 - 4 * K) 0)).size ≤ 256 := by rw [strOfNums_size, List.length_replicate]; omega
    clear hm hle hp
    generalize strOfNums (List.replicate (256 - 4 * K) 0) = z at *
    generalize compS (cutz p K) = cq at *
    generalize cutz p K = qq at *
    generalize compS p = cp at *
    generalize madeCells #[.int .u8 0] (256 - 4 * K) = mc at *
    have hK4 : 4 * K ≤ p.size := by omega
    go_wp2_with fail
    go_region
    all_goals
      rw [← Hcz.out]
      have hb4 : Below w.heap.size w (w3.alloc (.cells mc 5)).drew := below_drew (hb3.alloc hb3.size _)
      go_wp2_with fail
      clear hmk hcv
      refine (HC.out _).mono ?_
      rintro e w6 ⟨rfl, hB6⟩
      have hb6 : Below w.heap.size w w6 := below_then hb4 hb4.size hB6
      clear hb4 hB6 hb3
      go_wp2_with fail
      refine (HQ.out _).mono ?_
      rintro e w7 ⟨rfl, hB7⟩
      have hb7 : Below w.heap.size w w7 := below_then hb6 hb6.size hB7
      clear hb6 hB7
      go_wp2_with fail
      refine (HA.out _).mono ?_
      rintro e w8 ⟨rfl, hB8⟩
      have hb8 : Below w.heap.size w w8 := below_then hb7 hb7.size hB8
      clear hb7 hB8
      go_wp2_with fail
      go_ret
      exact ⟨rfl, hb8⟩

/-! ### THE ROW's STEP: WRITTEN OUT: LEAVE IT -/
set_option maxRecDepth 100000 in
theorem lifted (os : Os) (started : os.Started) (H : Type) (enc : TypeId × Value → H) :
    ReturnsInHanded {} Try.checked os 9 .any (Rows.pagezipZeroTailSpec.pre6 enc Try.prog Try.f9 Rows.pagezipZeroTailRow.domain false) (Rows.pagezipZeroTailSpec.post enc Try.prog Try.f9 false true false false) := by
  refine returnsInHanded_of_change (C := Try.checked) own started (by kernel_rfl) Try.func9
    (ChangeSpec.witness6 (enc := enc) (C := Try.checked) false ⟨#[], #[.slice none 0 0, .int .u8 0, .int .i64 0], []⟩ 8 (by kernel_rfl) (by kernel_rfl) (by kernel_rfl) (by kernel_rfl)) ?_
  intro W base args ds gs before hval0 hW hcnd _
  have hval : ∀ (j : Nat) t v, Try.f9.params[j]? = some t → args[j]? = some v → Value.okWide Try.prog W .any base t v := hval0
  have hW' := hW
  obtain ⟨p, q, hA0, hV, rfl, hfz, hnd⟩ := hW
  have hA : DataW.TrodAll enc Try.prog W 0 (fun _ => true) true Try.f9.params.toList args.toList ds p := hA0
  rw [Try.params9] at hA hval
  obtain ⟨v0, vs0, d0, ds0, p0, q0, hargs, rfl, rfl, h0, r0⟩ := trodAll_cons hA
  obtain ⟨v1, vs1, d1, ds1, p1, q1, rfl, rfl, rfl, h1, r1⟩ := trodAll_cons r0
  obtain ⟨v2, vs2, d2, ds2, p2, q2, rfl, rfl, rfl, h2, r2⟩ := trodAll_cons r1
  obtain ⟨rfl, rfl, rfl⟩ := trodAll_nil r2
  obtain rfl : args = #[v0, v1, v2] := by cases args; simp_all
  obtain ⟨rfl, rfl⟩ := trodVars_none hV
  obtain ⟨a0, len0, cap0, rfl⟩ := okWide_slice Try.underlying22 (hval 0 22 v0 rfl rfl)
  have k0 := h0
  have lt0 : ∀ x ∈ p0, x.block < W.heap.size := by obtain ⟨m, hm⟩ := k0; exact DataW.trod_lt m _ _ _ hm
  obtain ⟨z0, w0⟩ : ∃ zs, IsRow .u32 W a0 len0 cap0 zs := by
    obtain ⟨fuel, hf⟩ := h0
    rcases open_ints Try.underlying22 Try.underlying35 (by kernel_rfl) hf with ⟨hcs, _⟩ | ⟨x, l, c, zs, hcs, _, hl, hm, hz, _, hcell, hwz⟩
    · simp [Value.cells] at hcs
      obtain ⟨rfl, rfl, rfl⟩ := hcs
      exact ⟨[], .inl ⟨rfl, rfl, rfl, rfl⟩⟩
    · simp [Value.cells] at hcs
      obtain ⟨rfl, rfl, rfl⟩ := hcs
      exact ⟨zs, .inr ⟨_, rfl, hl, hm, by simpa using hz, hcell, hwz⟩⟩
  obtain ⟨a1, rfl, rfl, rfl, w1⟩ := open_int Try.underlying5 (hval 1 5 v1 rfl rfl) h1
  obtain ⟨a2, rfl, rfl, rfl, w2⟩ := open_int Try.underlying3 (hval 2 3 v2 rfl rfl) h2
  clear hA0 hval0
  refine (walk a0 len0 cap0 z0 a1 a2 W w0 w1 w2).mono fun e W' ⟨he, bel⟩ => ?_
  subst he
  exact ⟨_, rfl, _, _, _, [], _, [], hW', trodAll_mk1 (shut_bool Try.underlying4 _), (trodAll_cons_mk (Below.trod laidOut (by kernel_rfl) (of_decide_eq_true (by kernel_rfl)) k0 bel lt0) (trodAll_cons_mk (shut_int Try.underlying5 w1) (trodAll_cons_mk (shut_int Try.underlying3 w2) trodAll_mk0))), rfl, bel.frame _, fun h => by cases h⟩

theorem over : Rows.pagezipZeroTailRow.holds Try.pinned (OpenSpec.ofChange Rows.pagezipZeroTailSpec) :=
  OpenClaim.holds_of_wide 9 Try.f9 rfl rfl rfl rfl rfl rfl rfl ⟨rfl, rfl, rfl, rfl, rfl⟩ rfl rfl rfl rfl rfl (by kernel_rfl) Try.func9 (by kernel_rfl)
    (of_decide_eq_true (by kernel_rfl)) (by unfold Func.isWrapper; first | (rw [if_pos (by decide +kernel)]; kernel_rfl) | (rw [if_neg (by decide +kernel)]; exact ⟨rfl, rfl⟩))
    (fun os started H enc _ => lifted os started H enc)

/-- ████ THE STATEMENT ████ -/
theorem proved : Rows.PagezipZeroTailSaid := over
#print axioms proved
end Go.Proofs.Ytdfmjmabdggcjaa.pagezipZeroTail
