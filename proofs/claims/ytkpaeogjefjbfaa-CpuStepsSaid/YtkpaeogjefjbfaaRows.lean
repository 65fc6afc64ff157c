/-
  No cell of these rows narrows 'for every input' (looked for: loops, veiled, ifaces, maps, wideKeys, modest, calm, conditions, laid).
  DERIVED. THE GIVEN ROWS OF THIS SEAT. 7 by the template 'for every input the law returns true; each argument reads behind the call as it read before'; 0 by the template 'total and deterministic' (their statements: YtkpaeogjefjbfaaTotals.lean).
  GIVEN WITH THE SEED: the statements are not yours to turn. If you find one false, say at which input.
  Laid BY PROGRAM, IN A SANDBOX (cutbox-rows.mjs): the forced cells as the released guide's own fill.sh prints them over the translation 02e8fdab2ac3a452… (all of the seat's roots in one cut). By AI agents, Wed Nov 11 2026. No macro, syntax, notation, axiom, sorry.
-/
import Derived.Test.YtkpaeogjefjbfaaChecked
import GoSem.Claim
import GoSem.ClaimJoined
import GoSem.ClaimMapViews
import Derived.JoinedTies
import Derived.KernelRfl
namespace Go.Proofs.Ytkpaeogjefjbfaa
/- THE CELL 'sum', in the pinned program and in every row, IS THE sha256 OF THE DUMP (.gsa) THAT YtkpaeogjefjbfaaProg.lean LOADS. Nothing in Lean hashes anything: it is a label: what it is worth is what the hold of that sum in a sandbox is worth. -/
noncomputable def Try.pinned : Pinned := { name := "ytkpaeogjefjbfaa", sum := "02e8fdab2ac3a4523ebca1170d90ea777c5ed16727d6d8773e851e74d6b9bc14", checked := Try.checked }
namespace Rows
def none {H : Type} : Left H := { results := [], args := [] }

/-- 'clevislaw06.CpuReckons': WHATEVER THE INPUT: true; the input reads as it did. -/
def cpuReckonsSpec : ChangeSpec := { name := "cpuReckons", fn := fun _ => fun
  | [d1, d2] => { results := [.lit (.bool true)], args := [d1, d2] }
  | _ => none }
def cpuReckonsRow : OpenClaim := { program := "ytkpaeogjefjbfaa", sum := "02e8fdab2ac3a4523ebca1170d90ea777c5ed16727d6d8773e851e74d6b9bc14", func := "clevis/clevislaw06.CpuReckons", spec := "cpuReckons", inPlace := ["slices.overlaps[clevis/space.region]", "internal/bytealg.IndexByteString"], apart := false }
def CpuReckonsSaid : Prop := cpuReckonsRow.holds Try.pinned (OpenSpec.ofChange cpuReckonsSpec)

/-- ITS FALSE NEIGHBOUR: 'it returns false'. Refute it at one input. -/
def cpuReckonsWrong : ChangeSpec := { name := "cpuReckons", fn := fun _ => fun
  | [d1, d2] => { results := [.lit (.bool false)], args := [d1, d2] }
  | _ => none }
def CpuReckonsWrongFalsely : Prop := cpuReckonsRow.holds Try.pinned (OpenSpec.ofChange cpuReckonsWrong)

/-- 'clevislaw06.CpuParts': WHATEVER THE INPUT: true; the input reads as it did. -/
def cpuPartsSpec : ChangeSpec := { name := "cpuParts", fn := fun _ => fun
  | [d1, d2, d3] => { results := [.lit (.bool true)], args := [d1, d2, d3] }
  | _ => none }
def cpuPartsRow : OpenClaim := { program := "ytkpaeogjefjbfaa", sum := "02e8fdab2ac3a4523ebca1170d90ea777c5ed16727d6d8773e851e74d6b9bc14", func := "clevis/clevislaw06.CpuParts", spec := "cpuParts", inPlace := ["slices.overlaps[clevis/space.region]", "internal/bytealg.IndexByteString"], apart := false }
def CpuPartsSaid : Prop := cpuPartsRow.holds Try.pinned (OpenSpec.ofChange cpuPartsSpec)

/-- ITS FALSE NEIGHBOUR: 'it returns false'. Refute it at one input. -/
def cpuPartsWrong : ChangeSpec := { name := "cpuParts", fn := fun _ => fun
  | [d1, d2, d3] => { results := [.lit (.bool false)], args := [d1, d2, d3] }
  | _ => none }
def CpuPartsWrongFalsely : Prop := cpuPartsRow.holds Try.pinned (OpenSpec.ofChange cpuPartsWrong)

/-- 'clevislaw06.CpuSteps': WHATEVER THE INPUT: true; the input reads as it did. -/
def cpuStepsSpec : ChangeSpec := { name := "cpuSteps", fn := fun _ => fun
  | [d1, d2] => { results := [.lit (.bool true)], args := [d1, d2] }
  | _ => none }
def cpuStepsRow : OpenClaim := { program := "ytkpaeogjefjbfaa", sum := "02e8fdab2ac3a4523ebca1170d90ea777c5ed16727d6d8773e851e74d6b9bc14", func := "clevis/clevislaw06.CpuSteps", spec := "cpuSteps", inPlace := ["slices.overlaps[clevis/space.region]", "internal/bytealg.IndexByteString"], apart := false }
def CpuStepsSaid : Prop := cpuStepsRow.holds Try.pinned (OpenSpec.ofChange cpuStepsSpec)

/-- ITS FALSE NEIGHBOUR: 'it returns false'. Refute it at one input. -/
def cpuStepsWrong : ChangeSpec := { name := "cpuSteps", fn := fun _ => fun
  | [d1, d2] => { results := [.lit (.bool false)], args := [d1, d2] }
  | _ => none }
def CpuStepsWrongFalsely : Prop := cpuStepsRow.holds Try.pinned (OpenSpec.ofChange cpuStepsWrong)

/-- 'clevislaw06.CpuRuns': WHATEVER THE INPUT: true; the input reads as it did. -/
def cpuRunsSpec : ChangeSpec := { name := "cpuRuns", fn := fun _ => fun
  | [d1, d2] => { results := [.lit (.bool true)], args := [d1, d2] }
  | _ => none }
def cpuRunsRow : OpenClaim := { program := "ytkpaeogjefjbfaa", sum := "02e8fdab2ac3a4523ebca1170d90ea777c5ed16727d6d8773e851e74d6b9bc14", func := "clevis/clevislaw06.CpuRuns", spec := "cpuRuns", inPlace := ["slices.overlaps[clevis/space.region]", "internal/bytealg.IndexByteString"], apart := false }
def CpuRunsSaid : Prop := cpuRunsRow.holds Try.pinned (OpenSpec.ofChange cpuRunsSpec)

/-- ITS FALSE NEIGHBOUR: 'it returns false'. Refute it at one input. -/
def cpuRunsWrong : ChangeSpec := { name := "cpuRuns", fn := fun _ => fun
  | [d1, d2] => { results := [.lit (.bool false)], args := [d1, d2] }
  | _ => none }
def CpuRunsWrongFalsely : Prop := cpuRunsRow.holds Try.pinned (OpenSpec.ofChange cpuRunsWrong)

/-- 'clevislaw06.CpuTraps': WHATEVER THE INPUT: true; the input reads as it did. -/
def cpuTrapsSpec : ChangeSpec := { name := "cpuTraps", fn := fun _ => fun
  | [d] => { results := [.lit (.bool true)], args := [d] }
  | _ => none }
def cpuTrapsRow : OpenClaim := { program := "ytkpaeogjefjbfaa", sum := "02e8fdab2ac3a4523ebca1170d90ea777c5ed16727d6d8773e851e74d6b9bc14", func := "clevis/clevislaw06.CpuTraps", spec := "cpuTraps", inPlace := ["slices.overlaps[clevis/space.region]", "internal/bytealg.IndexByteString"], apart := false }
def CpuTrapsSaid : Prop := cpuTrapsRow.holds Try.pinned (OpenSpec.ofChange cpuTrapsSpec)

/-- ITS FALSE NEIGHBOUR: 'it returns false'. Refute it at one input. -/
def cpuTrapsWrong : ChangeSpec := { name := "cpuTraps", fn := fun _ => fun
  | [d] => { results := [.lit (.bool false)], args := [d] }
  | _ => none }
def CpuTrapsWrongFalsely : Prop := cpuTrapsRow.holds Try.pinned (OpenSpec.ofChange cpuTrapsWrong)

/-- 'clevislaw06.CpuStays': WHATEVER THE INPUT: true; the input reads as it did. -/
def cpuStaysSpec : ChangeSpec := { name := "cpuStays", fn := fun _ => fun
  | [d1, d2] => { results := [.lit (.bool true)], args := [d1, d2] }
  | _ => none }
def cpuStaysRow : OpenClaim := { program := "ytkpaeogjefjbfaa", sum := "02e8fdab2ac3a4523ebca1170d90ea777c5ed16727d6d8773e851e74d6b9bc14", func := "clevis/clevislaw06.CpuStays", spec := "cpuStays", inPlace := ["slices.overlaps[clevis/space.region]", "internal/bytealg.IndexByteString"], apart := false }
def CpuStaysSaid : Prop := cpuStaysRow.holds Try.pinned (OpenSpec.ofChange cpuStaysSpec)

/-- ITS FALSE NEIGHBOUR: 'it returns false'. Refute it at one input. -/
def cpuStaysWrong : ChangeSpec := { name := "cpuStays", fn := fun _ => fun
  | [d1, d2] => { results := [.lit (.bool false)], args := [d1, d2] }
  | _ => none }
def CpuStaysWrongFalsely : Prop := cpuStaysRow.holds Try.pinned (OpenSpec.ofChange cpuStaysWrong)

/-- 'clevislaw06.CpuEnds': WHATEVER THE INPUT: true; the input reads as it did. -/
def cpuEndsSpec : ChangeSpec := { name := "cpuEnds", fn := fun _ => fun
  | [d1, d2] => { results := [.lit (.bool true)], args := [d1, d2] }
  | _ => none }
def cpuEndsRow : OpenClaim := { program := "ytkpaeogjefjbfaa", sum := "02e8fdab2ac3a4523ebca1170d90ea777c5ed16727d6d8773e851e74d6b9bc14", func := "clevis/clevislaw06.CpuEnds", spec := "cpuEnds", inPlace := ["slices.overlaps[clevis/space.region]", "internal/bytealg.IndexByteString"], apart := false }
def CpuEndsSaid : Prop := cpuEndsRow.holds Try.pinned (OpenSpec.ofChange cpuEndsSpec)

/-- ITS FALSE NEIGHBOUR: 'it returns false'. Refute it at one input. -/
def cpuEndsWrong : ChangeSpec := { name := "cpuEnds", fn := fun _ => fun
  | [d1, d2] => { results := [.lit (.bool false)], args := [d1, d2] }
  | _ => none }
def CpuEndsWrongFalsely : Prop := cpuEndsRow.holds Try.pinned (OpenSpec.ofChange cpuEndsWrong)

/- THE SECOND FORM. 'bulk': how many values and letters a reading holds, each counted each time it is reached (what is shared counts as often as it is met; a slice's spare places count too). A statement '..UptoSaid' is the law's where the arguments, and the package variables that the reading takes, are together of bulk at most 1048576: NARROWER than '..Said'. Prove '..Said' where nothing that the law and all that it calls make is longer than what came in: it says more and counts as full. Else prove '..UptoSaid'. A law counts once. -/
mutual
def uptoBulk {H : Type} : DataW H → Nat
  | .lit (.string bytes) => bytes.length + 1
  | .lit _ => 1
  | .nil => 1
  | .ptr d => uptoBulk d + 1
  | .slice elems spare => uptoBulkAll elems + uptoBulkAll spare + 1
  | .agg parts => uptoBulkAll parts + 1
  | .iface _ d => uptoBulk d + 1
  | .map entries => uptoBulkEntries entries + 1
  | .held _ => 1
def uptoBulkAll {H : Type} : List (DataW H) → Nat
  | [] => 0
  | d :: r => uptoBulk d + uptoBulkAll r
def uptoBulkEntries {H : Type} : List (Lit × DataW H) → Nat
  | [] => 0
  | x :: r => uptoBulkEntry x + uptoBulkEntries r
def uptoBulkEntry {H : Type} : Lit × DataW H → Nat
  | (.string bytes, d) => bytes.length + uptoBulk d + 1
  | (_, d) => uptoBulk d + 1
 end
def uptoSmall : (H : Type) → List (DataW H) → Bool := fun _ ds => decide (uptoBulkAll ds ≤ 1048576)
def OpenSpec.upto (s : _root_.Go.ChangeSpec) : _root_.Go.OpenSpec := { _root_.Go.OpenSpec.ofChange s with cond := some uptoSmall }

/-- 'clevislaw06.CpuReckons', WHERE WHAT IT READS IS OF BULK AT MOST 1048576: true; the input reads as it did. -/
def cpuReckonsUptoRow : OpenClaim := { program := "ytkpaeogjefjbfaa", sum := "02e8fdab2ac3a4523ebca1170d90ea777c5ed16727d6d8773e851e74d6b9bc14", func := "clevis/clevislaw06.CpuReckons", spec := "cpuReckons", inPlace := ["slices.overlaps[clevis/space.region]", "internal/bytealg.IndexByteString"], apart := false, narrowed := true }
def CpuReckonsUptoSaid : Prop := cpuReckonsUptoRow.holds Try.pinned (OpenSpec.upto cpuReckonsSpec)

/-- 'clevislaw06.CpuParts', WHERE WHAT IT READS IS OF BULK AT MOST 1048576: true; the input reads as it did. -/
def cpuPartsUptoRow : OpenClaim := { program := "ytkpaeogjefjbfaa", sum := "02e8fdab2ac3a4523ebca1170d90ea777c5ed16727d6d8773e851e74d6b9bc14", func := "clevis/clevislaw06.CpuParts", spec := "cpuParts", inPlace := ["slices.overlaps[clevis/space.region]", "internal/bytealg.IndexByteString"], apart := false, narrowed := true }
def CpuPartsUptoSaid : Prop := cpuPartsUptoRow.holds Try.pinned (OpenSpec.upto cpuPartsSpec)

/-- 'clevislaw06.CpuSteps', WHERE WHAT IT READS IS OF BULK AT MOST 1048576: true; the input reads as it did. -/
def cpuStepsUptoRow : OpenClaim := { program := "ytkpaeogjefjbfaa", sum := "02e8fdab2ac3a4523ebca1170d90ea777c5ed16727d6d8773e851e74d6b9bc14", func := "clevis/clevislaw06.CpuSteps", spec := "cpuSteps", inPlace := ["slices.overlaps[clevis/space.region]", "internal/bytealg.IndexByteString"], apart := false, narrowed := true }
def CpuStepsUptoSaid : Prop := cpuStepsUptoRow.holds Try.pinned (OpenSpec.upto cpuStepsSpec)

/-- 'clevislaw06.CpuRuns', WHERE WHAT IT READS IS OF BULK AT MOST 1048576: true; the input reads as it did. -/
def cpuRunsUptoRow : OpenClaim := { program := "ytkpaeogjefjbfaa", sum := "02e8fdab2ac3a4523ebca1170d90ea777c5ed16727d6d8773e851e74d6b9bc14", func := "clevis/clevislaw06.CpuRuns", spec := "cpuRuns", inPlace := ["slices.overlaps[clevis/space.region]", "internal/bytealg.IndexByteString"], apart := false, narrowed := true }
def CpuRunsUptoSaid : Prop := cpuRunsUptoRow.holds Try.pinned (OpenSpec.upto cpuRunsSpec)

/-- 'clevislaw06.CpuTraps', WHERE WHAT IT READS IS OF BULK AT MOST 1048576: true; the input reads as it did. -/
def cpuTrapsUptoRow : OpenClaim := { program := "ytkpaeogjefjbfaa", sum := "02e8fdab2ac3a4523ebca1170d90ea777c5ed16727d6d8773e851e74d6b9bc14", func := "clevis/clevislaw06.CpuTraps", spec := "cpuTraps", inPlace := ["slices.overlaps[clevis/space.region]", "internal/bytealg.IndexByteString"], apart := false, narrowed := true }
def CpuTrapsUptoSaid : Prop := cpuTrapsUptoRow.holds Try.pinned (OpenSpec.upto cpuTrapsSpec)

/-- 'clevislaw06.CpuStays', WHERE WHAT IT READS IS OF BULK AT MOST 1048576: true; the input reads as it did. -/
def cpuStaysUptoRow : OpenClaim := { program := "ytkpaeogjefjbfaa", sum := "02e8fdab2ac3a4523ebca1170d90ea777c5ed16727d6d8773e851e74d6b9bc14", func := "clevis/clevislaw06.CpuStays", spec := "cpuStays", inPlace := ["slices.overlaps[clevis/space.region]", "internal/bytealg.IndexByteString"], apart := false, narrowed := true }
def CpuStaysUptoSaid : Prop := cpuStaysUptoRow.holds Try.pinned (OpenSpec.upto cpuStaysSpec)

/-- 'clevislaw06.CpuEnds', WHERE WHAT IT READS IS OF BULK AT MOST 1048576: true; the input reads as it did. -/
def cpuEndsUptoRow : OpenClaim := { program := "ytkpaeogjefjbfaa", sum := "02e8fdab2ac3a4523ebca1170d90ea777c5ed16727d6d8773e851e74d6b9bc14", func := "clevis/clevislaw06.CpuEnds", spec := "cpuEnds", inPlace := ["slices.overlaps[clevis/space.region]", "internal/bytealg.IndexByteString"], apart := false, narrowed := true }
def CpuEndsUptoSaid : Prop := cpuEndsUptoRow.holds Try.pinned (OpenSpec.upto cpuEndsSpec)

end Rows
end Go.Proofs.Ytkpaeogjefjbfaa
