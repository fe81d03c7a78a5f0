/-
  No cell of these rows narrows 'for every input' (looked for: loops, veiled, ifaces, maps, wideKeys, modest, calm, conditions, laid).
  DERIVED. THE GIVEN ROWS OF THIS SEAT. 7 by the template 'for every input the law returns true; each argument reads behind the call as it read before'; 0 by the template 'total and deterministic' (their statements: YtjdbhlmkcbgkjaaTotals.lean).
  GIVEN WITH THE SEED: the statements are not yours to turn. If you find one false, say at which input.
  Laid BY PROGRAM, IN A SANDBOX (cutbox-rows.mjs): the forced cells as the released guide's own fill.sh prints them over the translation 327c316f6c33d2a1… (all of the seat's roots in one cut). By AI agents, Wed Nov 11 2026. No macro, syntax, notation, axiom, sorry.
-/
import Derived.Test.YtjdbhlmkcbgkjaaChecked
import GoSem.Claim
import GoSem.ClaimJoined
import GoSem.ClaimMapViews
import Derived.JoinedTies
import Derived.KernelRfl
namespace Go.Proofs.Ytjdbhlmkcbgkjaa
/- THE CELL 'sum', in the pinned program and in every row, IS THE sha256 OF THE DUMP (.gsa) THAT YtjdbhlmkcbgkjaaProg.lean LOADS. Nothing in Lean hashes anything: it is a label: what it is worth is what the hold of that sum in a sandbox is worth. -/
noncomputable def Try.pinned : Pinned := { name := "ytjdbhlmkcbgkjaa", sum := "327c316f6c33d2a16fd1ee2cea34cfc42b224f29b8949dc667d9950629dd3cc5", checked := Try.checked }
namespace Rows
def none {H : Type} : Left H := { results := [], args := [] }

/-- 'platformfwlaw29.WakeupCallsAgree': WHATEVER THE INPUT: true; the input reads as it did. -/
def wakeupCallsAgreeSpec : ChangeSpec := { name := "wakeupCallsAgree", fn := fun _ => fun
  | [d1, d2] => { results := [.lit (.bool true)], args := [d1, d2] }
  | _ => none }
def wakeupCallsAgreeRow : OpenClaim := { program := "ytjdbhlmkcbgkjaa", sum := "327c316f6c33d2a16fd1ee2cea34cfc42b224f29b8949dc667d9950629dd3cc5", func := "platformfw/platformfwlaw29.WakeupCallsAgree", spec := "wakeupCallsAgree", apart := false }
def WakeupCallsAgreeSaid : Prop := wakeupCallsAgreeRow.holds Try.pinned (OpenSpec.ofChange wakeupCallsAgreeSpec)

/-- ITS FALSE NEIGHBOUR: 'it returns false'. Refute it at one input. -/
def wakeupCallsAgreeWrong : ChangeSpec := { name := "wakeupCallsAgree", fn := fun _ => fun
  | [d1, d2] => { results := [.lit (.bool false)], args := [d1, d2] }
  | _ => none }
def WakeupCallsAgreeWrongFalsely : Prop := wakeupCallsAgreeRow.holds Try.pinned (OpenSpec.ofChange wakeupCallsAgreeWrong)

/-- 'platformfwlaw29.WakeupNoEventIsLost': WHATEVER THE INPUT: true; the input reads as it did. -/
def wakeupNoEventIsLostSpec : ChangeSpec := { name := "wakeupNoEventIsLost", fn := fun _ => fun
  | [d1, d2, d3, d4, d5, d6] => { results := [.lit (.bool true)], args := [d1, d2, d3, d4, d5, d6] }
  | _ => none }
def wakeupNoEventIsLostRow : OpenClaim := { program := "ytjdbhlmkcbgkjaa", sum := "327c316f6c33d2a16fd1ee2cea34cfc42b224f29b8949dc667d9950629dd3cc5", func := "platformfw/platformfwlaw29.WakeupNoEventIsLost", spec := "wakeupNoEventIsLost", apart := false }
def WakeupNoEventIsLostSaid : Prop := wakeupNoEventIsLostRow.holds Try.pinned (OpenSpec.ofChange wakeupNoEventIsLostSpec)

/-- ITS FALSE NEIGHBOUR: 'it returns false'. Refute it at one input. -/
def wakeupNoEventIsLostWrong : ChangeSpec := { name := "wakeupNoEventIsLost", fn := fun _ => fun
  | [d1, d2, d3, d4, d5, d6] => { results := [.lit (.bool false)], args := [d1, d2, d3, d4, d5, d6] }
  | _ => none }
def WakeupNoEventIsLostWrongFalsely : Prop := wakeupNoEventIsLostRow.holds Try.pinned (OpenSpec.ofChange wakeupNoEventIsLostWrong)

/-- 'platformfwlaw29.WakeupAbortsExactly': WHATEVER THE INPUT: true; the input reads as it did. -/
def wakeupAbortsExactlySpec : ChangeSpec := { name := "wakeupAbortsExactly", fn := fun _ => fun
  | [d1, d2, d3] => { results := [.lit (.bool true)], args := [d1, d2, d3] }
  | _ => none }
def wakeupAbortsExactlyRow : OpenClaim := { program := "ytjdbhlmkcbgkjaa", sum := "327c316f6c33d2a16fd1ee2cea34cfc42b224f29b8949dc667d9950629dd3cc5", func := "platformfw/platformfwlaw29.WakeupAbortsExactly", spec := "wakeupAbortsExactly", apart := false }
def WakeupAbortsExactlySaid : Prop := wakeupAbortsExactlyRow.holds Try.pinned (OpenSpec.ofChange wakeupAbortsExactlySpec)

/-- ITS FALSE NEIGHBOUR: 'it returns false'. Refute it at one input. -/
def wakeupAbortsExactlyWrong : ChangeSpec := { name := "wakeupAbortsExactly", fn := fun _ => fun
  | [d1, d2, d3] => { results := [.lit (.bool false)], args := [d1, d2, d3] }
  | _ => none }
def WakeupAbortsExactlyWrongFalsely : Prop := wakeupAbortsExactlyRow.holds Try.pinned (OpenSpec.ofChange wakeupAbortsExactlyWrong)

/-- 'platformfwlaw29.WakeupPulseEnds': WHATEVER THE INPUT: true; the input reads as it did. -/
def wakeupPulseEndsSpec : ChangeSpec := { name := "wakeupPulseEnds", fn := fun _ => fun
  | [d1, d2, d3, d4] => { results := [.lit (.bool true)], args := [d1, d2, d3, d4] }
  | _ => none }
def wakeupPulseEndsRow : OpenClaim := { program := "ytjdbhlmkcbgkjaa", sum := "327c316f6c33d2a16fd1ee2cea34cfc42b224f29b8949dc667d9950629dd3cc5", func := "platformfw/platformfwlaw29.WakeupPulseEnds", spec := "wakeupPulseEnds", apart := false }
def WakeupPulseEndsSaid : Prop := wakeupPulseEndsRow.holds Try.pinned (OpenSpec.ofChange wakeupPulseEndsSpec)

/-- ITS FALSE NEIGHBOUR: 'it returns false'. Refute it at one input. -/
def wakeupPulseEndsWrong : ChangeSpec := { name := "wakeupPulseEnds", fn := fun _ => fun
  | [d1, d2, d3, d4] => { results := [.lit (.bool false)], args := [d1, d2, d3, d4] }
  | _ => none }
def WakeupPulseEndsWrongFalsely : Prop := wakeupPulseEndsRow.holds Try.pinned (OpenSpec.ofChange wakeupPulseEndsWrong)

/-- 'platformfwlaw29.WakeupAlarm': WHATEVER THE INPUT: true; the input reads as it did. -/
def wakeupAlarmSpec : ChangeSpec := { name := "wakeupAlarm", fn := fun _ => fun
  | [d1, d2, d3, d4] => { results := [.lit (.bool true)], args := [d1, d2, d3, d4] }
  | _ => none }
def wakeupAlarmRow : OpenClaim := { program := "ytjdbhlmkcbgkjaa", sum := "327c316f6c33d2a16fd1ee2cea34cfc42b224f29b8949dc667d9950629dd3cc5", func := "platformfw/platformfwlaw29.WakeupAlarm", spec := "wakeupAlarm", apart := false }
def WakeupAlarmSaid : Prop := wakeupAlarmRow.holds Try.pinned (OpenSpec.ofChange wakeupAlarmSpec)

/-- ITS FALSE NEIGHBOUR: 'it returns false'. Refute it at one input. -/
def wakeupAlarmWrong : ChangeSpec := { name := "wakeupAlarm", fn := fun _ => fun
  | [d1, d2, d3, d4] => { results := [.lit (.bool false)], args := [d1, d2, d3, d4] }
  | _ => none }
def WakeupAlarmWrongFalsely : Prop := wakeupAlarmRow.holds Try.pinned (OpenSpec.ofChange wakeupAlarmWrong)

/-- 'platformfwlaw29.WakeupCountsGrow': WHATEVER THE INPUT: true; the input reads as it did. -/
def wakeupCountsGrowSpec : ChangeSpec := { name := "wakeupCountsGrow", fn := fun _ => fun
  | [d1, d2] => { results := [.lit (.bool true)], args := [d1, d2] }
  | _ => none }
def wakeupCountsGrowRow : OpenClaim := { program := "ytjdbhlmkcbgkjaa", sum := "327c316f6c33d2a16fd1ee2cea34cfc42b224f29b8949dc667d9950629dd3cc5", func := "platformfw/platformfwlaw29.WakeupCountsGrow", spec := "wakeupCountsGrow", apart := false }
def WakeupCountsGrowSaid : Prop := wakeupCountsGrowRow.holds Try.pinned (OpenSpec.ofChange wakeupCountsGrowSpec)

/-- ITS FALSE NEIGHBOUR: 'it returns false'. Refute it at one input. -/
def wakeupCountsGrowWrong : ChangeSpec := { name := "wakeupCountsGrow", fn := fun _ => fun
  | [d1, d2] => { results := [.lit (.bool false)], args := [d1, d2] }
  | _ => none }
def WakeupCountsGrowWrongFalsely : Prop := wakeupCountsGrowRow.holds Try.pinned (OpenSpec.ofChange wakeupCountsGrowWrong)

/-- 'platformfwlaw29.WakeupSourcesAdd': WHATEVER THE INPUT: true; the input reads as it did. -/
def wakeupSourcesAddSpec : ChangeSpec := { name := "wakeupSourcesAdd", fn := fun _ => fun
  | [d1, d2] => { results := [.lit (.bool true)], args := [d1, d2] }
  | _ => none }
def wakeupSourcesAddRow : OpenClaim := { program := "ytjdbhlmkcbgkjaa", sum := "327c316f6c33d2a16fd1ee2cea34cfc42b224f29b8949dc667d9950629dd3cc5", func := "platformfw/platformfwlaw29.WakeupSourcesAdd", spec := "wakeupSourcesAdd", apart := false }
def WakeupSourcesAddSaid : Prop := wakeupSourcesAddRow.holds Try.pinned (OpenSpec.ofChange wakeupSourcesAddSpec)

/-- ITS FALSE NEIGHBOUR: 'it returns false'. Refute it at one input. -/
def wakeupSourcesAddWrong : ChangeSpec := { name := "wakeupSourcesAdd", fn := fun _ => fun
  | [d1, d2] => { results := [.lit (.bool false)], args := [d1, d2] }
  | _ => none }
def WakeupSourcesAddWrongFalsely : Prop := wakeupSourcesAddRow.holds Try.pinned (OpenSpec.ofChange wakeupSourcesAddWrong)

/- THE SECOND FORM. 'bulk': how many values and letters a reading holds, each counted each time it is reached (what is shared counts as often as it is met; a slice's spare places count too). A statement '..UptoSaid' is the law's where the arguments, and the package variables that the reading takes, are together of bulk at most 1048576: NARROWER than '..Said'. Prove '..Said' where nothing that the law and all that it calls make is longer than what came in: it says more and counts as full. Else prove '..UptoSaid'. A law counts once. -/
mutual
def uptoBulk {H : Type} : DataW H → Nat
  | .lit (.string bytes) => bytes.length + 1
  | .lit _ => 1
  | .nil => 1
  | .ptr d => uptoBulk d + 1
  | .slice elems spare => uptoBulkAll elems + uptoBulkAll spare + 1
  | .agg parts => uptoBulkAll parts + 1
  | .iface _ d => uptoBulk d + 1
  | .map entries => uptoBulkEntries entries + 1
  | .held _ => 1
def uptoBulkAll {H : Type} : List (DataW H) → Nat
  | [] => 0
  | d :: r => uptoBulk d + uptoBulkAll r
def uptoBulkEntries {H : Type} : List (Lit × DataW H) → Nat
  | [] => 0
  | x :: r => uptoBulkEntry x + uptoBulkEntries r
def uptoBulkEntry {H : Type} : Lit × DataW H → Nat
  | (.string bytes, d) => bytes.length + uptoBulk d + 1
  | (_, d) => uptoBulk d + 1
 end
def uptoSmall : (H : Type) → List (DataW H) → Bool := fun _ ds => decide (uptoBulkAll ds ≤ 1048576)
def OpenSpec.upto (s : _root_.Go.ChangeSpec) : _root_.Go.OpenSpec := { _root_.Go.OpenSpec.ofChange s with cond := some uptoSmall }

/-- 'platformfwlaw29.WakeupCallsAgree', WHERE WHAT IT READS IS OF BULK AT MOST 1048576: true; the input reads as it did. -/
def wakeupCallsAgreeUptoRow : OpenClaim := { program := "ytjdbhlmkcbgkjaa", sum := "327c316f6c33d2a16fd1ee2cea34cfc42b224f29b8949dc667d9950629dd3cc5", func := "platformfw/platformfwlaw29.WakeupCallsAgree", spec := "wakeupCallsAgree", apart := false, narrowed := true }
def WakeupCallsAgreeUptoSaid : Prop := wakeupCallsAgreeUptoRow.holds Try.pinned (OpenSpec.upto wakeupCallsAgreeSpec)

/-- 'platformfwlaw29.WakeupNoEventIsLost', WHERE WHAT IT READS IS OF BULK AT MOST 1048576: true; the input reads as it did. -/
def wakeupNoEventIsLostUptoRow : OpenClaim := { program := "ytjdbhlmkcbgkjaa", sum := "327c316f6c33d2a16fd1ee2cea34cfc42b224f29b8949dc667d9950629dd3cc5", func := "platformfw/platformfwlaw29.WakeupNoEventIsLost", spec := "wakeupNoEventIsLost", apart := false, narrowed := true }
def WakeupNoEventIsLostUptoSaid : Prop := wakeupNoEventIsLostUptoRow.holds Try.pinned (OpenSpec.upto wakeupNoEventIsLostSpec)

/-- 'platformfwlaw29.WakeupAbortsExactly', WHERE WHAT IT READS IS OF BULK AT MOST 1048576: true; the input reads as it did. -/
def wakeupAbortsExactlyUptoRow : OpenClaim := { program := "ytjdbhlmkcbgkjaa", sum := "327c316f6c33d2a16fd1ee2cea34cfc42b224f29b8949dc667d9950629dd3cc5", func := "platformfw/platformfwlaw29.WakeupAbortsExactly", spec := "wakeupAbortsExactly", apart := false, narrowed := true }
def WakeupAbortsExactlyUptoSaid : Prop := wakeupAbortsExactlyUptoRow.holds Try.pinned (OpenSpec.upto wakeupAbortsExactlySpec)

/-- 'platformfwlaw29.WakeupPulseEnds', WHERE WHAT IT READS IS OF BULK AT MOST 1048576: true; the input reads as it did. -/
def wakeupPulseEndsUptoRow : OpenClaim := { program := "ytjdbhlmkcbgkjaa", sum := "327c316f6c33d2a16fd1ee2cea34cfc42b224f29b8949dc667d9950629dd3cc5", func := "platformfw/platformfwlaw29.WakeupPulseEnds", spec := "wakeupPulseEnds", apart := false, narrowed := true }
def WakeupPulseEndsUptoSaid : Prop := wakeupPulseEndsUptoRow.holds Try.pinned (OpenSpec.upto wakeupPulseEndsSpec)

/-- 'platformfwlaw29.WakeupAlarm', WHERE WHAT IT READS IS OF BULK AT MOST 1048576: true; the input reads as it did. -/
def wakeupAlarmUptoRow : OpenClaim := { program := "ytjdbhlmkcbgkjaa", sum := "327c316f6c33d2a16fd1ee2cea34cfc42b224f29b8949dc667d9950629dd3cc5", func := "platformfw/platformfwlaw29.WakeupAlarm", spec := "wakeupAlarm", apart := false, narrowed := true }
def WakeupAlarmUptoSaid : Prop := wakeupAlarmUptoRow.holds Try.pinned (OpenSpec.upto wakeupAlarmSpec)

/-- 'platformfwlaw29.WakeupCountsGrow', WHERE WHAT IT READS IS OF BULK AT MOST 1048576: true; the input reads as it did. -/
def wakeupCountsGrowUptoRow : OpenClaim := { program := "ytjdbhlmkcbgkjaa", sum := "327c316f6c33d2a16fd1ee2cea34cfc42b224f29b8949dc667d9950629dd3cc5", func := "platformfw/platformfwlaw29.WakeupCountsGrow", spec := "wakeupCountsGrow", apart := false, narrowed := true }
def WakeupCountsGrowUptoSaid : Prop := wakeupCountsGrowUptoRow.holds Try.pinned (OpenSpec.upto wakeupCountsGrowSpec)

/-- 'platformfwlaw29.WakeupSourcesAdd', WHERE WHAT IT READS IS OF BULK AT MOST 1048576: true; the input reads as it did. -/
def wakeupSourcesAddUptoRow : OpenClaim := { program := "ytjdbhlmkcbgkjaa", sum := "327c316f6c33d2a16fd1ee2cea34cfc42b224f29b8949dc667d9950629dd3cc5", func := "platformfw/platformfwlaw29.WakeupSourcesAdd", spec := "wakeupSourcesAdd", apart := false, narrowed := true }
def WakeupSourcesAddUptoSaid : Prop := wakeupSourcesAddUptoRow.holds Try.pinned (OpenSpec.upto wakeupSourcesAddSpec)

end Rows
end Go.Proofs.Ytjdbhlmkcbgkjaa
