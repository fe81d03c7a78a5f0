/-
  PagezipCompressAgrees: the Go function that states that Compress returns the reference's result for arbitrary strings and for pages of arbitrary and of similar words; at most 600 bytes and 64 words. Proved for every input of the given statement Rows.PagezipCompressAgreesSaid; no further condition.
-/
import Derived.Test.YtdfmjmabdggcjaaRows
import Derived.Test.YtdfmjmabdggcjaaPzK
import Derived.WalkKit
import Derived.ProofKit
import Derived.OpenShut
import Derived.ShutString
import Derived.ChangeOld
import Derived.Below
namespace Go.Proofs.Ytdfmjmabdggcjaa.pagezipCompressAgrees
open Go.ChangeShapes Go.WideShapes Go.ChangeAt Go.RowKit
open Go.ChangeMaps (open_string shut_string)
open Go.Proofs.Ytdfmjmabdggcjaa.Pz Go.Proofs.YtdfmjmabdggcjaaW.PrintWords
set_option linter.unusedSimpArgs false
set_option linter.unusedVariables false

theorem own : ownKnob Try.prog.godebug = none := by kernel_rfl
theorem laidOut : laidOutB Try.prog = true := by kernel_rfl

/-- WHAT THE WALK IS TOLD OF A SLICE OF INTEGERS THAT CAME IN: it is nil; or it leads to a row of 'cap' cells, the numbers 'zs' (the first 'len' are its elements, the rest its spare room), each fitting its kind. -/
def IsRow (k : IntKind) (w : World) (a : Option Addr) (len cap : Nat) (zs : List Int) : Prop :=
  (a = none ∧ len = 0 ∧ cap = 0 ∧ zs = []) ∨
  ∃ x, a = some x ∧ len ≤ cap ∧ cap ≤ maxLen ∧ zs.length = cap ∧ (∀ i, i < zs.length → w.cell? (x.add i) = some (.int k (zs.getD i 0))) ∧ ∀ n ∈ zs, (Lit.int k n).wf = true

/-! ### STEP 1: THE WALK: the Go text returns true, AND WRITES NOTHING THAT WAS THERE: 'Below w.heap.size w w'' (Derived/Below.lean: '.refl', '.alloc', '.drew', '.setCell' at a new block, '.trans'). Open each 'IsRow' by 'rcases' AHEAD of 'go_enter'; part every test ahead of the walk. -/
set_option maxHeartbeats 8000000 in
set_option maxRecDepth 100000 in
theorem walk (a0 : ByteArray) (a1 : Option Addr) (len1 cap1 : Nat) (z1 : List Int) (a2 : Int) (w : World) (w0 : a0.size ≤ maxLen) (w1 : IsRow .u32 w a1 len1 cap1 z1) (w2 : (Lit.int .u8 a2).wf = true) :
    Calls Try.prog 3 #[.string a0, .slice a1 len1 cap1, .int .u8 a2] w fun e w' => e = .returned (.bool true) ∧ Below w.heap.size w w' := by
  have hu := u8_of_wf w2
  have hR := reads_of_row w1
  have hX := u32_of_row w1
  have HR := Lib.hid hR
  have HX := Lib.hid hX
  have h63 := hR.2.1
  unfold maxLen at w0
  clear w1 w2 hX hR
  by_cases hbig : 600 < a0.size ∨ 64 < len1
  · have HA := Lib.hid awake_calls
    by_cases h6 : 600 < a0.size
    · have hd : decide ((600 : Int) < a0.size) = true := decide_eq_true (by omega)
      go_enter Try.func3, Try.ntmps3
      go_wp2_with fail
      refine (HA.out _).mono ?_
      rintro e w' ⟨rfl, hB⟩
      go_wp2_with fail
      go_ret
      exact ⟨rfl, hB⟩
    · have hd : decide ((600 : Int) < a0.size) = false := decide_eq_false (by omega)
      have hd2 : decide ((64 : Int) < len1) = true := decide_eq_true (by omega)
      go_enter Try.func3, Try.ntmps3
      go_wp2_with fail
      refine (HA.out _).mono ?_
      rintro e w' ⟨rfl, hB⟩
      go_wp2_with fail
      go_ret
      exact ⟨rfl, hB⟩
  · have hd : decide ((600 : Int) < a0.size) = false := decide_eq_false (by omega)
    have hd2 : decide ((64 : Int) < len1) = false := decide_eq_false (by omega)
    have HA := Lib.hid awake_calls
    go_enter Try.func3, Try.ntmps3
    go_wp2_with fail
    refine (compress_calls a0 _).mono ?_
    rintro e w1 ⟨rfl, hB1⟩
    go_wp2_with fail
    refine (refc_calls a0 _).mono ?_
    rintro e w2 ⟨rfl, hB2⟩
    have hb2 : Below w.heap.size w w2 := below_then hB1 hB1.size hB2
    go_wp2_with fail
    refine (page_calls a1 len1 cap1 _ a2 _ (HR.out.below hb2) HX.out hu.1 hu.2).mono ?_
    rintro e w3 ⟨⟨p, hp, rfl⟩, hB3⟩
    have hb3 : Below w.heap.size w w3 := below_then hb2 hb2.size hB3
    have Hp := Lib.hid hp
    clear hp hb2 hB3 hB1 hB2
    go_wp2_with fail
    refine (compress_calls p _).mono ?_
    rintro e w4 ⟨rfl, hB4⟩
    go_wp2_with fail
    refine (refc_calls p _).mono ?_
    rintro e w5 ⟨rfl, hB5⟩
    have hb5 : Below w.heap.size w w5 := below_then (below_then hb3 hb3.size hB4) (Nat.le_trans hb3.size hB4.size) hB5
    clear hb3 hB4 hB5
    go_wp2_with fail
    refine (HA.out _).mono ?_
    rintro e w6 ⟨rfl, hB6⟩
    have hb6 : Below w.heap.size w w6 := below_then hb5 hb5.size hB6
    clear hb5 hB6
    go_wp2_with fail
    go_ret
    exact ⟨rfl, hb6⟩

/-! ### THE ROW's STEP: WRITTEN OUT: LEAVE IT -/
set_option maxRecDepth 100000 in
theorem lifted (os : Os) (started : os.Started) (H : Type) (enc : TypeId × Value → H) :
    ReturnsInHanded {} Try.checked os 3 .any (Rows.pagezipCompressAgreesSpec.pre6 enc Try.prog Try.f3 Rows.pagezipCompressAgreesRow.domain false) (Rows.pagezipCompressAgreesSpec.post enc Try.prog Try.f3 false true false false) := by
  refine returnsInHanded_of_change (C := Try.checked) own started (by kernel_rfl) Try.func3
    (ChangeSpec.witness6 (enc := enc) (C := Try.checked) false ⟨#[], #[.string ByteArray.empty, .slice none 0 0, .int .u8 0], []⟩ 8 (by kernel_rfl) (by kernel_rfl) (by kernel_rfl) (by kernel_rfl)) ?_
  intro W base args ds gs before hval0 hW hcnd _
  have hval : ∀ (j : Nat) t v, Try.f3.params[j]? = some t → args[j]? = some v → Value.okWide Try.prog W .any base t v := hval0
  have hW' := hW
  obtain ⟨p, q, hA0, hV, rfl, hfz, hnd⟩ := hW
  have hA : DataW.TrodAll enc Try.prog W 0 (fun _ => true) true Try.f3.params.toList args.toList ds p := hA0
  rw [Try.params3] at hA hval
  obtain ⟨v0, vs0, d0, ds0, p0, q0, hargs, rfl, rfl, h0, r0⟩ := trodAll_cons hA
  obtain ⟨v1, vs1, d1, ds1, p1, q1, rfl, rfl, rfl, h1, r1⟩ := trodAll_cons r0
  obtain ⟨v2, vs2, d2, ds2, p2, q2, rfl, rfl, rfl, h2, r2⟩ := trodAll_cons r1
  obtain ⟨rfl, rfl, rfl⟩ := trodAll_nil r2
  obtain rfl : args = #[v0, v1, v2] := by cases args; simp_all
  obtain ⟨rfl, rfl⟩ := trodVars_none hV
  obtain ⟨a0, rfl, rfl, rfl, w0⟩ := open_string Try.underlying9 (hval 0 9 v0 rfl rfl) h0
  obtain ⟨a1, len1, cap1, rfl⟩ := okWide_slice Try.underlying22 (hval 1 22 v1 rfl rfl)
  have k1 := h1
  have lt1 : ∀ x ∈ p1, x.block < W.heap.size := by obtain ⟨m, hm⟩ := k1; exact DataW.trod_lt m _ _ _ hm
  obtain ⟨z1, w1⟩ : ∃ zs, IsRow .u32 W a1 len1 cap1 zs := by
    obtain ⟨fuel, hf⟩ := h1
    rcases open_ints Try.underlying22 Try.underlying35 (by kernel_rfl) hf with ⟨hcs, _⟩ | ⟨x, l, c, zs, hcs, _, hl, hm, hz, _, hcell, hwz⟩
    · simp [Value.cells] at hcs
      obtain ⟨rfl, rfl, rfl⟩ := hcs
      exact ⟨[], .inl ⟨rfl, rfl, rfl, rfl⟩⟩
    · simp [Value.cells] at hcs
      obtain ⟨rfl, rfl, rfl⟩ := hcs
      exact ⟨zs, .inr ⟨_, rfl, hl, hm, by simpa using hz, hcell, hwz⟩⟩
  obtain ⟨a2, rfl, rfl, rfl, w2⟩ := open_int Try.underlying5 (hval 2 5 v2 rfl rfl) h2
  clear hA0 hval0
  refine (walk a0 a1 len1 cap1 z1 a2 W w0 w1 w2).mono fun e W' ⟨he, bel⟩ => ?_
  subst he
  exact ⟨_, rfl, _, _, _, [], _, [], hW', trodAll_mk1 (shut_bool Try.underlying4 _), (trodAll_cons_mk (shut_string Try.underlying9 w0) (trodAll_cons_mk (Below.trod laidOut (by kernel_rfl) (of_decide_eq_true (by kernel_rfl)) k1 bel lt1) (trodAll_cons_mk (shut_int Try.underlying5 w2) trodAll_mk0))), rfl, bel.frame _, fun h => by cases h⟩

theorem over : Rows.pagezipCompressAgreesRow.holds Try.pinned (OpenSpec.ofChange Rows.pagezipCompressAgreesSpec) :=
  OpenClaim.holds_of_wide 3 Try.f3 rfl rfl rfl rfl rfl rfl rfl ⟨rfl, rfl, rfl, rfl, rfl⟩ rfl rfl rfl rfl rfl (by kernel_rfl) Try.func3 (by kernel_rfl)
    (of_decide_eq_true (by kernel_rfl)) (by unfold Func.isWrapper; first | (rw [if_pos (by decide +kernel)]; kernel_rfl) | (rw [if_neg (by decide +kernel)]; exact ⟨rfl, rfl⟩))
    (fun os started H enc _ => lifted os started H enc)

/-- ████ THE STATEMENT ████ -/
theorem proved : Rows.PagezipCompressAgreesSaid := over
#print axioms proved
end Go.Proofs.Ytdfmjmabdggcjaa.pagezipCompressAgrees
