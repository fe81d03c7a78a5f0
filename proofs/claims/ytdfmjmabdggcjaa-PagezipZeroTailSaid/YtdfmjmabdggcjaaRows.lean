/-
  No cell of these rows narrows 'for every input' (looked for: loops, veiled, ifaces, maps, wideKeys, modest, calm, conditions, laid).
  DERIVED. THE GIVEN ROWS OF THIS SEAT. 7 by the template 'for every input the law returns true; each argument reads behind the call as it read before'; 0 by the template 'total and deterministic' (their statements: YtdfmjmabdggcjaaTotals.lean).
  GIVEN WITH THE SEED: the statements are not yours to turn. If you find one false, say at which input.
  Laid BY PROGRAM, IN A SANDBOX (cutbox-rows.mjs): the forced cells as the released guide's own fill.sh prints them over the translation 1c3b59e3b8bee944… (all of the seat's roots in one cut). By AI agents, Wed Nov 11 2026. No macro, syntax, notation, axiom, sorry.
-/
import Derived.Test.YtdfmjmabdggcjaaChecked
import GoSem.Claim
import GoSem.ClaimJoined
import GoSem.ClaimMapViews
import Derived.JoinedTies
import Derived.KernelRfl
namespace Go.Proofs.Ytdfmjmabdggcjaa
/- THE CELL 'sum', in the pinned program and in every row, IS THE sha256 OF THE DUMP (.gsa) THAT YtdfmjmabdggcjaaProg.lean LOADS. Nothing in Lean hashes anything: it is a label: what it is worth is what the hold of that sum in a sandbox is worth. -/
noncomputable def Try.pinned : Pinned := { name := "ytdfmjmabdggcjaa", sum := "1c3b59e3b8bee9445e069980fe971af34b53daeda67ddabd2e4a5a7ebcc4b613", checked := Try.checked }
namespace Rows
def none {H : Type} : Left H := { results := [], args := [] }

/-- 'platformfwlaw33.PagezipCompressAgrees': WHATEVER THE INPUT: true; the input reads as it did. -/
def pagezipCompressAgreesSpec : ChangeSpec := { name := "pagezipCompressAgrees", fn := fun _ => fun
  | [d1, d2, d3] => { results := [.lit (.bool true)], args := [d1, d2, d3] }
  | _ => none }
def pagezipCompressAgreesRow : OpenClaim := { program := "ytdfmjmabdggcjaa", sum := "1c3b59e3b8bee9445e069980fe971af34b53daeda67ddabd2e4a5a7ebcc4b613", func := "platformfw/platformfwlaw33.PagezipCompressAgrees", spec := "pagezipCompressAgrees", apart := false }
def PagezipCompressAgreesSaid : Prop := pagezipCompressAgreesRow.holds Try.pinned (OpenSpec.ofChange pagezipCompressAgreesSpec)

/-- ITS FALSE NEIGHBOUR: 'it returns false'. Refute it at one input. -/
def pagezipCompressAgreesWrong : ChangeSpec := { name := "pagezipCompressAgrees", fn := fun _ => fun
  | [d1, d2, d3] => { results := [.lit (.bool false)], args := [d1, d2, d3] }
  | _ => none }
def PagezipCompressAgreesWrongFalsely : Prop := pagezipCompressAgreesRow.holds Try.pinned (OpenSpec.ofChange pagezipCompressAgreesWrong)

/-- 'platformfwlaw33.PagezipRoundTrip': WHATEVER THE INPUT: true; the input reads as it did. -/
def pagezipRoundTripSpec : ChangeSpec := { name := "pagezipRoundTrip", fn := fun _ => fun
  | [d1, d2] => { results := [.lit (.bool true)], args := [d1, d2] }
  | _ => none }
def pagezipRoundTripRow : OpenClaim := { program := "ytdfmjmabdggcjaa", sum := "1c3b59e3b8bee9445e069980fe971af34b53daeda67ddabd2e4a5a7ebcc4b613", func := "platformfw/platformfwlaw33.PagezipRoundTrip", spec := "pagezipRoundTrip", apart := false }
def PagezipRoundTripSaid : Prop := pagezipRoundTripRow.holds Try.pinned (OpenSpec.ofChange pagezipRoundTripSpec)

/-- ITS FALSE NEIGHBOUR: 'it returns false'. Refute it at one input. -/
def pagezipRoundTripWrong : ChangeSpec := { name := "pagezipRoundTrip", fn := fun _ => fun
  | [d1, d2] => { results := [.lit (.bool false)], args := [d1, d2] }
  | _ => none }
def PagezipRoundTripWrongFalsely : Prop := pagezipRoundTripRow.holds Try.pinned (OpenSpec.ofChange pagezipRoundTripWrong)

/-- 'platformfwlaw33.PagezipDecompressAgrees': WHATEVER THE INPUT: true; the input reads as it did. -/
def pagezipDecompressAgreesSpec : ChangeSpec := { name := "pagezipDecompressAgrees", fn := fun _ => fun
  | [d1, d2, d3, d4, d5] => { results := [.lit (.bool true)], args := [d1, d2, d3, d4, d5] }
  | _ => none }
def pagezipDecompressAgreesRow : OpenClaim := { program := "ytdfmjmabdggcjaa", sum := "1c3b59e3b8bee9445e069980fe971af34b53daeda67ddabd2e4a5a7ebcc4b613", func := "platformfw/platformfwlaw33.PagezipDecompressAgrees", spec := "pagezipDecompressAgrees", apart := false }
def PagezipDecompressAgreesSaid : Prop := pagezipDecompressAgreesRow.holds Try.pinned (OpenSpec.ofChange pagezipDecompressAgreesSpec)

/-- ITS FALSE NEIGHBOUR: 'it returns false'. Refute it at one input. -/
def pagezipDecompressAgreesWrong : ChangeSpec := { name := "pagezipDecompressAgrees", fn := fun _ => fun
  | [d1, d2, d3, d4, d5] => { results := [.lit (.bool false)], args := [d1, d2, d3, d4, d5] }
  | _ => none }
def PagezipDecompressAgreesWrongFalsely : Prop := pagezipDecompressAgreesRow.holds Try.pinned (OpenSpec.ofChange pagezipDecompressAgreesWrong)

/-- 'platformfwlaw33.PagezipCanonical': WHATEVER THE INPUT: true; the input reads as it did. -/
def pagezipCanonicalSpec : ChangeSpec := { name := "pagezipCanonical", fn := fun _ => fun
  | [d1, d2, d3, d4, d5] => { results := [.lit (.bool true)], args := [d1, d2, d3, d4, d5] }
  | _ => none }
def pagezipCanonicalRow : OpenClaim := { program := "ytdfmjmabdggcjaa", sum := "1c3b59e3b8bee9445e069980fe971af34b53daeda67ddabd2e4a5a7ebcc4b613", func := "platformfw/platformfwlaw33.PagezipCanonical", spec := "pagezipCanonical", apart := false }
def PagezipCanonicalSaid : Prop := pagezipCanonicalRow.holds Try.pinned (OpenSpec.ofChange pagezipCanonicalSpec)

/-- ITS FALSE NEIGHBOUR: 'it returns false'. Refute it at one input. -/
def pagezipCanonicalWrong : ChangeSpec := { name := "pagezipCanonical", fn := fun _ => fun
  | [d1, d2, d3, d4, d5] => { results := [.lit (.bool false)], args := [d1, d2, d3, d4, d5] }
  | _ => none }
def PagezipCanonicalWrongFalsely : Prop := pagezipCanonicalRow.holds Try.pinned (OpenSpec.ofChange pagezipCanonicalWrong)

/-- 'platformfwlaw33.PagezipRepeatedWord': WHATEVER THE INPUT: true; the input reads as it did. -/
def pagezipRepeatedWordSpec : ChangeSpec := { name := "pagezipRepeatedWord", fn := fun _ => fun
  | [d1, d2] => { results := [.lit (.bool true)], args := [d1, d2] }
  | _ => none }
def pagezipRepeatedWordRow : OpenClaim := { program := "ytdfmjmabdggcjaa", sum := "1c3b59e3b8bee9445e069980fe971af34b53daeda67ddabd2e4a5a7ebcc4b613", func := "platformfw/platformfwlaw33.PagezipRepeatedWord", spec := "pagezipRepeatedWord", apart := false }
def PagezipRepeatedWordSaid : Prop := pagezipRepeatedWordRow.holds Try.pinned (OpenSpec.ofChange pagezipRepeatedWordSpec)

/-- ITS FALSE NEIGHBOUR: 'it returns false'. Refute it at one input. -/
def pagezipRepeatedWordWrong : ChangeSpec := { name := "pagezipRepeatedWord", fn := fun _ => fun
  | [d1, d2] => { results := [.lit (.bool false)], args := [d1, d2] }
  | _ => none }
def PagezipRepeatedWordWrongFalsely : Prop := pagezipRepeatedWordRow.holds Try.pinned (OpenSpec.ofChange pagezipRepeatedWordWrong)

/-- 'platformfwlaw33.PagezipIncompressible': WHATEVER THE INPUT: true; the input reads as it did. -/
def pagezipIncompressibleSpec : ChangeSpec := { name := "pagezipIncompressible", fn := fun _ => fun
  | [d1, d2] => { results := [.lit (.bool true)], args := [d1, d2] }
  | _ => none }
def pagezipIncompressibleRow : OpenClaim := { program := "ytdfmjmabdggcjaa", sum := "1c3b59e3b8bee9445e069980fe971af34b53daeda67ddabd2e4a5a7ebcc4b613", func := "platformfw/platformfwlaw33.PagezipIncompressible", spec := "pagezipIncompressible", apart := false }
def PagezipIncompressibleSaid : Prop := pagezipIncompressibleRow.holds Try.pinned (OpenSpec.ofChange pagezipIncompressibleSpec)

/-- ITS FALSE NEIGHBOUR: 'it returns false'. Refute it at one input. -/
def pagezipIncompressibleWrong : ChangeSpec := { name := "pagezipIncompressible", fn := fun _ => fun
  | [d1, d2] => { results := [.lit (.bool false)], args := [d1, d2] }
  | _ => none }
def PagezipIncompressibleWrongFalsely : Prop := pagezipIncompressibleRow.holds Try.pinned (OpenSpec.ofChange pagezipIncompressibleWrong)

/-- 'platformfwlaw33.PagezipZeroTail': WHATEVER THE INPUT: true; the input reads as it did. -/
def pagezipZeroTailSpec : ChangeSpec := { name := "pagezipZeroTail", fn := fun _ => fun
  | [d1, d2, d3] => { results := [.lit (.bool true)], args := [d1, d2, d3] }
  | _ => none }
def pagezipZeroTailRow : OpenClaim := { program := "ytdfmjmabdggcjaa", sum := "1c3b59e3b8bee9445e069980fe971af34b53daeda67ddabd2e4a5a7ebcc4b613", func := "platformfw/platformfwlaw33.PagezipZeroTail", spec := "pagezipZeroTail", apart := false }
def PagezipZeroTailSaid : Prop := pagezipZeroTailRow.holds Try.pinned (OpenSpec.ofChange pagezipZeroTailSpec)

/-- ITS FALSE NEIGHBOUR: 'it returns false'. Refute it at one input. -/
def pagezipZeroTailWrong : ChangeSpec := { name := "pagezipZeroTail", fn := fun _ => fun
  | [d1, d2, d3] => { results := [.lit (.bool false)], args := [d1, d2, d3] }
  | _ => none }
def PagezipZeroTailWrongFalsely : Prop := pagezipZeroTailRow.holds Try.pinned (OpenSpec.ofChange pagezipZeroTailWrong)

/- THE SECOND FORM. 'bulk': how many values and letters a reading holds, each counted each time it is reached (what is shared counts as often as it is met; a slice's spare places count too). A statement '..UptoSaid' is the law's where the arguments, and the package variables that the reading takes, are together of bulk at most 1048576: NARROWER than '..Said'. Prove '..Said' where nothing that the law and all that it calls make is longer than what came in: it says more and counts as full. Else prove '..UptoSaid'. A law counts once. -/
mutual
def uptoBulk {H : Type} : DataW H → Nat
  | .lit (.string bytes) => bytes.length + 1
  | .lit _ => 1
  | .nil => 1
  | .ptr d => uptoBulk d + 1
  | .slice elems spare => uptoBulkAll elems + uptoBulkAll spare + 1
  | .agg parts => uptoBulkAll parts + 1
  | .iface _ d => uptoBulk d + 1
  | .map entries => uptoBulkEntries entries + 1
  | .held _ => 1
def uptoBulkAll {H : Type} : List (DataW H) → Nat
  | [] => 0
  | d :: r => uptoBulk d + uptoBulkAll r
def uptoBulkEntries {H : Type} : List (Lit × DataW H) → Nat
  | [] => 0
  | x :: r => uptoBulkEntry x + uptoBulkEntries r
def uptoBulkEntry {H : Type} : Lit × DataW H → Nat
  | (.string bytes, d) => bytes.length + uptoBulk d + 1
  | (_, d) => uptoBulk d + 1
 end
def uptoSmall : (H : Type) → List (DataW H) → Bool := fun _ ds => decide (uptoBulkAll ds ≤ 1048576)
def OpenSpec.upto (s : _root_.Go.ChangeSpec) : _root_.Go.OpenSpec := { _root_.Go.OpenSpec.ofChange s with cond := some uptoSmall }

/-- 'platformfwlaw33.PagezipCompressAgrees', WHERE WHAT IT READS IS OF BULK AT MOST 1048576: true; the input reads as it did. -/
def pagezipCompressAgreesUptoRow : OpenClaim := { program := "ytdfmjmabdggcjaa", sum := "1c3b59e3b8bee9445e069980fe971af34b53daeda67ddabd2e4a5a7ebcc4b613", func := "platformfw/platformfwlaw33.PagezipCompressAgrees", spec := "pagezipCompressAgrees", apart := false, narrowed := true }
def PagezipCompressAgreesUptoSaid : Prop := pagezipCompressAgreesUptoRow.holds Try.pinned (OpenSpec.upto pagezipCompressAgreesSpec)

/-- 'platformfwlaw33.PagezipRoundTrip', WHERE WHAT IT READS IS OF BULK AT MOST 1048576: true; the input reads as it did. -/
def pagezipRoundTripUptoRow : OpenClaim := { program := "ytdfmjmabdggcjaa", sum := "1c3b59e3b8bee9445e069980fe971af34b53daeda67ddabd2e4a5a7ebcc4b613", func := "platformfw/platformfwlaw33.PagezipRoundTrip", spec := "pagezipRoundTrip", apart := false, narrowed := true }
def PagezipRoundTripUptoSaid : Prop := pagezipRoundTripUptoRow.holds Try.pinned (OpenSpec.upto pagezipRoundTripSpec)

/-- 'platformfwlaw33.PagezipDecompressAgrees', WHERE WHAT IT READS IS OF BULK AT MOST 1048576: true; the input reads as it did. -/
def pagezipDecompressAgreesUptoRow : OpenClaim := { program := "ytdfmjmabdggcjaa", sum := "1c3b59e3b8bee9445e069980fe971af34b53daeda67ddabd2e4a5a7ebcc4b613", func := "platformfw/platformfwlaw33.PagezipDecompressAgrees", spec := "pagezipDecompressAgrees", apart := false, narrowed := true }
def PagezipDecompressAgreesUptoSaid : Prop := pagezipDecompressAgreesUptoRow.holds Try.pinned (OpenSpec.upto pagezipDecompressAgreesSpec)

/-- 'platformfwlaw33.PagezipCanonical', WHERE WHAT IT READS IS OF BULK AT MOST 1048576: true; the input reads as it did. -/
def pagezipCanonicalUptoRow : OpenClaim := { program := "ytdfmjmabdggcjaa", sum := "1c3b59e3b8bee9445e069980fe971af34b53daeda67ddabd2e4a5a7ebcc4b613", func := "platformfw/platformfwlaw33.PagezipCanonical", spec := "pagezipCanonical", apart := false, narrowed := true }
def PagezipCanonicalUptoSaid : Prop := pagezipCanonicalUptoRow.holds Try.pinned (OpenSpec.upto pagezipCanonicalSpec)

/-- 'platformfwlaw33.PagezipRepeatedWord', WHERE WHAT IT READS IS OF BULK AT MOST 1048576: true; the input reads as it did. -/
def pagezipRepeatedWordUptoRow : OpenClaim := { program := "ytdfmjmabdggcjaa", sum := "1c3b59e3b8bee9445e069980fe971af34b53daeda67ddabd2e4a5a7ebcc4b613", func := "platformfw/platformfwlaw33.PagezipRepeatedWord", spec := "pagezipRepeatedWord", apart := false, narrowed := true }
def PagezipRepeatedWordUptoSaid : Prop := pagezipRepeatedWordUptoRow.holds Try.pinned (OpenSpec.upto pagezipRepeatedWordSpec)

/-- 'platformfwlaw33.PagezipIncompressible', WHERE WHAT IT READS IS OF BULK AT MOST 1048576: true; the input reads as it did. -/
def pagezipIncompressibleUptoRow : OpenClaim := { program := "ytdfmjmabdggcjaa", sum := "1c3b59e3b8bee9445e069980fe971af34b53daeda67ddabd2e4a5a7ebcc4b613", func := "platformfw/platformfwlaw33.PagezipIncompressible", spec := "pagezipIncompressible", apart := false, narrowed := true }
def PagezipIncompressibleUptoSaid : Prop := pagezipIncompressibleUptoRow.holds Try.pinned (OpenSpec.upto pagezipIncompressibleSpec)

/-- 'platformfwlaw33.PagezipZeroTail', WHERE WHAT IT READS IS OF BULK AT MOST 1048576: true; the input reads as it did. -/
def pagezipZeroTailUptoRow : OpenClaim := { program := "ytdfmjmabdggcjaa", sum := "1c3b59e3b8bee9445e069980fe971af34b53daeda67ddabd2e4a5a7ebcc4b613", func := "platformfw/platformfwlaw33.PagezipZeroTail", spec := "pagezipZeroTail", apart := false, narrowed := true }
def PagezipZeroTailUptoSaid : Prop := pagezipZeroTailUptoRow.holds Try.pinned (OpenSpec.upto pagezipZeroTailSpec)

end Rows
end Go.Proofs.Ytdfmjmabdggcjaa
