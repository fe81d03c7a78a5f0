import Derived.Test.YtkpaglpophfeeaaDoorProg
import Derived.Lib.SmallJoins
import Derived.OpenShut
import Derived.ProofKit
import Derived.RowKit
import Derived.KernelRfl
namespace Go.Proofs.YtkpaglpophfeeaaDoor.Sp
open Go.RowKit Go.ChangeShapes Go.WideShapes Go.Joins
set_option linter.unusedVariables false
set_option linter.unusedSimpArgs false
section
variable {H : Type} {enc : TypeId × Value → H} {W : World} {base b0 : Nat} {spare : Nat → Bool} {held : Bool} {r : Reach}
theorem table_of_trod {v : Value} {d : DataW H} {p : List MemPlace} (hv : Value.okWide Tryd.prog W r b0 23 v) (h : DataW.Trod enc Tryd.prog W base spare held 23 v d p) :
    ∃ (s0 : ByteArray) (n : Int) (s2 s3 : ByteArray), v = .agg #[.string s0, .int .i64 n, .string s2, .string s3] ∧ s0.size ≤ 9223372036854775807 ∧ (-9223372036854775808 ≤ n ∧ n ≤ 9223372036854775807) ∧ s2.size ≤ 9223372036854775807 ∧ s3.size ≤ 9223372036854775807 := by
  obtain ⟨v0, v1, v2, v3, y0, y1, y2, y3, n, rfl, _, _, h0, h1, h2, h3⟩ := open_agg4 Tryd.underlying23 (by kernel_rfl) (by kernel_rfl) hv h
  obtain ⟨s0, e0, _, m0⟩ := DataW.trod_string Tryd.underlying9 h0
  obtain ⟨z, e1, _, w1⟩ := DataW.trod_int Tryd.underlying3 h1
  obtain ⟨s2, e2, _, m2⟩ := DataW.trod_string Tryd.underlying9 h2
  obtain ⟨s3, e3, _, m3⟩ := DataW.trod_string Tryd.underlying9 h3
  simp only [List.cons.injEq, and_true] at e0 e1 e2 e3
  subst e0 e1 e2 e3
  simp [Lit.wf, IntKind.min, IntKind.max, IntKind.signed, IntKind.bits] at w1
  unfold maxLen at m0 m2 m3
  exact ⟨s0, z, s2, s3, rfl, m0, ⟨w1.1, by omega⟩, m2, m3⟩
end
end Go.Proofs.YtkpaglpophfeeaaDoor.Sp
