/-
  No cell of these rows narrows 'for every input' (looked for: loops, veiled, ifaces, maps, wideKeys, modest, calm, conditions, laid).
  DERIVED. THE GIVEN ROWS OF THIS SEAT. 7 by the template 'for every input the law returns true; each argument reads behind the call as it read before'; 0 by the template 'total and deterministic' (their statements: YtpononkgeeahdaaTotals.lean).
  GIVEN WITH THE SEED: the statements are not yours to turn. If you find one false, say at which input.
  Laid BY PROGRAM, IN A SANDBOX (cutbox-rows.mjs): the forced cells as the released guide's own fill.sh prints them over the translation ed4c6bb4e8321b7e… (all of the seat's roots in one cut). By AI agents, Wed Nov 11 2026. No macro, syntax, notation, axiom, sorry.
-/
import Derived.Test.YtpononkgeeahdaaChecked
import GoSem.Claim
import GoSem.ClaimJoined
import GoSem.ClaimMapViews
import Derived.JoinedTies
import Derived.KernelRfl
namespace Go.Proofs.Ytpononkgeeahdaa
/- THE CELL 'sum', in the pinned program and in every row, IS THE sha256 OF THE DUMP (.gsa) THAT YtpononkgeeahdaaProg.lean LOADS. Nothing in Lean hashes anything: it is a label: what it is worth is what the hold of that sum in a sandbox is worth. -/
noncomputable def Try.pinned : Pinned := { name := "ytpononkgeeahdaa", sum := "ed4c6bb4e8321b7e39179aeb01e1ac5affac42fe991bc7de5748e565838e2021", checked := Try.checked }
namespace Rows
def none {H : Type} : Left H := { results := [], args := [] }

/-- 'clevislaw16.RelocWords': WHATEVER THE INPUT: true; the input reads as it did. -/
def relocWordsSpec : ChangeSpec := { name := "relocWords", fn := fun _ => fun
  | [d1, d2] => { results := [.lit (.bool true)], args := [d1, d2] }
  | _ => none }
def relocWordsRow : OpenClaim := { program := "ytpononkgeeahdaa", sum := "ed4c6bb4e8321b7e39179aeb01e1ac5affac42fe991bc7de5748e565838e2021", func := "clevis/clevislaw16.RelocWords", spec := "relocWords", apart := false }
def RelocWordsSaid : Prop := relocWordsRow.holds Try.pinned (OpenSpec.ofChange relocWordsSpec)

/-- ITS FALSE NEIGHBOUR: 'it returns false'. Refute it at one input. -/
def relocWordsWrong : ChangeSpec := { name := "relocWords", fn := fun _ => fun
  | [d1, d2] => { results := [.lit (.bool false)], args := [d1, d2] }
  | _ => none }
def RelocWordsWrongFalsely : Prop := relocWordsRow.holds Try.pinned (OpenSpec.ofChange relocWordsWrong)

/-- 'clevislaw16.RelocMoves': WHATEVER THE INPUT: true; the input reads as it did. -/
def relocMovesSpec : ChangeSpec := { name := "relocMoves", fn := fun _ => fun
  | [d1, d2, d3] => { results := [.lit (.bool true)], args := [d1, d2, d3] }
  | _ => none }
def relocMovesRow : OpenClaim := { program := "ytpononkgeeahdaa", sum := "ed4c6bb4e8321b7e39179aeb01e1ac5affac42fe991bc7de5748e565838e2021", func := "clevis/clevislaw16.RelocMoves", spec := "relocMoves", apart := false }
def RelocMovesSaid : Prop := relocMovesRow.holds Try.pinned (OpenSpec.ofChange relocMovesSpec)

/-- ITS FALSE NEIGHBOUR: 'it returns false'. Refute it at one input. -/
def relocMovesWrong : ChangeSpec := { name := "relocMoves", fn := fun _ => fun
  | [d1, d2, d3] => { results := [.lit (.bool false)], args := [d1, d2, d3] }
  | _ => none }
def RelocMovesWrongFalsely : Prop := relocMovesRow.holds Try.pinned (OpenSpec.ofChange relocMovesWrong)

/-- 'clevislaw16.RelocMissing': WHATEVER THE INPUT: true; the input reads as it did. -/
def relocMissingSpec : ChangeSpec := { name := "relocMissing", fn := fun _ => fun
  | [d1, d2] => { results := [.lit (.bool true)], args := [d1, d2] }
  | _ => none }
def relocMissingRow : OpenClaim := { program := "ytpononkgeeahdaa", sum := "ed4c6bb4e8321b7e39179aeb01e1ac5affac42fe991bc7de5748e565838e2021", func := "clevis/clevislaw16.RelocMissing", spec := "relocMissing", apart := false }
def RelocMissingSaid : Prop := relocMissingRow.holds Try.pinned (OpenSpec.ofChange relocMissingSpec)

/-- ITS FALSE NEIGHBOUR: 'it returns false'. Refute it at one input. -/
def relocMissingWrong : ChangeSpec := { name := "relocMissing", fn := fun _ => fun
  | [d1, d2] => { results := [.lit (.bool false)], args := [d1, d2] }
  | _ => none }
def RelocMissingWrongFalsely : Prop := relocMissingRow.holds Try.pinned (OpenSpec.ofChange relocMissingWrong)

/-- 'clevislaw16.RelocLast': WHATEVER THE INPUT: true; the input reads as it did. -/
def relocLastSpec : ChangeSpec := { name := "relocLast", fn := fun _ => fun
  | [d1, d2] => { results := [.lit (.bool true)], args := [d1, d2] }
  | _ => none }
def relocLastRow : OpenClaim := { program := "ytpononkgeeahdaa", sum := "ed4c6bb4e8321b7e39179aeb01e1ac5affac42fe991bc7de5748e565838e2021", func := "clevis/clevislaw16.RelocLast", spec := "relocLast", inPlace := ["slices.overlaps[clevis/space.region]"], apart := false }
def RelocLastSaid : Prop := relocLastRow.holds Try.pinned (OpenSpec.ofChange relocLastSpec)

/-- ITS FALSE NEIGHBOUR: 'it returns false'. Refute it at one input. -/
def relocLastWrong : ChangeSpec := { name := "relocLast", fn := fun _ => fun
  | [d1, d2] => { results := [.lit (.bool false)], args := [d1, d2] }
  | _ => none }
def RelocLastWrongFalsely : Prop := relocLastRow.holds Try.pinned (OpenSpec.ofChange relocLastWrong)

/-- 'clevislaw16.RelocCopies': WHATEVER THE INPUT: true; the input reads as it did. -/
def relocCopiesSpec : ChangeSpec := { name := "relocCopies", fn := fun _ => fun
  | [d1, d2, d3, d4] => { results := [.lit (.bool true)], args := [d1, d2, d3, d4] }
  | _ => none }
def relocCopiesRow : OpenClaim := { program := "ytpononkgeeahdaa", sum := "ed4c6bb4e8321b7e39179aeb01e1ac5affac42fe991bc7de5748e565838e2021", func := "clevis/clevislaw16.RelocCopies", spec := "relocCopies", inPlace := ["slices.overlaps[clevis/space.region]"], apart := false }
def RelocCopiesSaid : Prop := relocCopiesRow.holds Try.pinned (OpenSpec.ofChange relocCopiesSpec)

/-- ITS FALSE NEIGHBOUR: 'it returns false'. Refute it at one input. -/
def relocCopiesWrong : ChangeSpec := { name := "relocCopies", fn := fun _ => fun
  | [d1, d2, d3, d4] => { results := [.lit (.bool false)], args := [d1, d2, d3, d4] }
  | _ => none }
def RelocCopiesWrongFalsely : Prop := relocCopiesRow.holds Try.pinned (OpenSpec.ofChange relocCopiesWrong)

/-- 'clevislaw16.RelocApplies': WHATEVER THE INPUT: true; the input reads as it did. -/
def relocAppliesSpec : ChangeSpec := { name := "relocApplies", fn := fun _ => fun
  | [d1, d2, d3, d4] => { results := [.lit (.bool true)], args := [d1, d2, d3, d4] }
  | _ => none }
def relocAppliesRow : OpenClaim := { program := "ytpononkgeeahdaa", sum := "ed4c6bb4e8321b7e39179aeb01e1ac5affac42fe991bc7de5748e565838e2021", func := "clevis/clevislaw16.RelocApplies", spec := "relocApplies", inPlace := ["slices.overlaps[clevis/space.region]"], apart := false }
def RelocAppliesSaid : Prop := relocAppliesRow.holds Try.pinned (OpenSpec.ofChange relocAppliesSpec)

/-- ITS FALSE NEIGHBOUR: 'it returns false'. Refute it at one input. -/
def relocAppliesWrong : ChangeSpec := { name := "relocApplies", fn := fun _ => fun
  | [d1, d2, d3, d4] => { results := [.lit (.bool false)], args := [d1, d2, d3, d4] }
  | _ => none }
def RelocAppliesWrongFalsely : Prop := relocAppliesRow.holds Try.pinned (OpenSpec.ofChange relocAppliesWrong)

/-- 'clevislaw16.RelocOne': WHATEVER THE INPUT: true; the input reads as it did. -/
def relocOneSpec : ChangeSpec := { name := "relocOne", fn := fun _ => fun
  | [d1, d2, d3, d4, d5] => { results := [.lit (.bool true)], args := [d1, d2, d3, d4, d5] }
  | _ => none }
def relocOneRow : OpenClaim := { program := "ytpononkgeeahdaa", sum := "ed4c6bb4e8321b7e39179aeb01e1ac5affac42fe991bc7de5748e565838e2021", func := "clevis/clevislaw16.RelocOne", spec := "relocOne", inPlace := ["slices.overlaps[clevis/space.region]"], apart := false }
def RelocOneSaid : Prop := relocOneRow.holds Try.pinned (OpenSpec.ofChange relocOneSpec)

/-- ITS FALSE NEIGHBOUR: 'it returns false'. Refute it at one input. -/
def relocOneWrong : ChangeSpec := { name := "relocOne", fn := fun _ => fun
  | [d1, d2, d3, d4, d5] => { results := [.lit (.bool false)], args := [d1, d2, d3, d4, d5] }
  | _ => none }
def RelocOneWrongFalsely : Prop := relocOneRow.holds Try.pinned (OpenSpec.ofChange relocOneWrong)

/- THE SECOND FORM. 'bulk': how many values and letters a reading holds, each counted each time it is reached (what is shared counts as often as it is met; a slice's spare places count too). A statement '..UptoSaid' is the law's where the arguments, and the package variables that the reading takes, are together of bulk at most 1048576: NARROWER than '..Said'. Prove '..Said' where nothing that the law and all that it calls make is longer than what came in: it says more and counts as full. Else prove '..UptoSaid'. A law counts once. -/
mutual
def uptoBulk {H : Type} : DataW H → Nat
  | .lit (.string bytes) => bytes.length + 1
  | .lit _ => 1
  | .nil => 1
  | .ptr d => uptoBulk d + 1
  | .slice elems spare => uptoBulkAll elems + uptoBulkAll spare + 1
  | .agg parts => uptoBulkAll parts + 1
  | .iface _ d => uptoBulk d + 1
  | .map entries => uptoBulkEntries entries + 1
  | .held _ => 1
def uptoBulkAll {H : Type} : List (DataW H) → Nat
  | [] => 0
  | d :: r => uptoBulk d + uptoBulkAll r
def uptoBulkEntries {H : Type} : List (Lit × DataW H) → Nat
  | [] => 0
  | x :: r => uptoBulkEntry x + uptoBulkEntries r
def uptoBulkEntry {H : Type} : Lit × DataW H → Nat
  | (.string bytes, d) => bytes.length + uptoBulk d + 1
  | (_, d) => uptoBulk d + 1
 end
def uptoSmall : (H : Type) → List (DataW H) → Bool := fun _ ds => decide (uptoBulkAll ds ≤ 1048576)
def OpenSpec.upto (s : _root_.Go.ChangeSpec) : _root_.Go.OpenSpec := { _root_.Go.OpenSpec.ofChange s with cond := some uptoSmall }

/-- 'clevislaw16.RelocWords', WHERE WHAT IT READS IS OF BULK AT MOST 1048576: true; the input reads as it did. -/
def relocWordsUptoRow : OpenClaim := { program := "ytpononkgeeahdaa", sum := "ed4c6bb4e8321b7e39179aeb01e1ac5affac42fe991bc7de5748e565838e2021", func := "clevis/clevislaw16.RelocWords", spec := "relocWords", apart := false, narrowed := true }
def RelocWordsUptoSaid : Prop := relocWordsUptoRow.holds Try.pinned (OpenSpec.upto relocWordsSpec)

/-- 'clevislaw16.RelocMoves', WHERE WHAT IT READS IS OF BULK AT MOST 1048576: true; the input reads as it did. -/
def relocMovesUptoRow : OpenClaim := { program := "ytpononkgeeahdaa", sum := "ed4c6bb4e8321b7e39179aeb01e1ac5affac42fe991bc7de5748e565838e2021", func := "clevis/clevislaw16.RelocMoves", spec := "relocMoves", apart := false, narrowed := true }
def RelocMovesUptoSaid : Prop := relocMovesUptoRow.holds Try.pinned (OpenSpec.upto relocMovesSpec)

/-- 'clevislaw16.RelocMissing', WHERE WHAT IT READS IS OF BULK AT MOST 1048576: true; the input reads as it did. -/
def relocMissingUptoRow : OpenClaim := { program := "ytpononkgeeahdaa", sum := "ed4c6bb4e8321b7e39179aeb01e1ac5affac42fe991bc7de5748e565838e2021", func := "clevis/clevislaw16.RelocMissing", spec := "relocMissing", apart := false, narrowed := true }
def RelocMissingUptoSaid : Prop := relocMissingUptoRow.holds Try.pinned (OpenSpec.upto relocMissingSpec)

/-- 'clevislaw16.RelocLast', WHERE WHAT IT READS IS OF BULK AT MOST 1048576: true; the input reads as it did. -/
def relocLastUptoRow : OpenClaim := { program := "ytpononkgeeahdaa", sum := "ed4c6bb4e8321b7e39179aeb01e1ac5affac42fe991bc7de5748e565838e2021", func := "clevis/clevislaw16.RelocLast", spec := "relocLast", inPlace := ["slices.overlaps[clevis/space.region]"], apart := false, narrowed := true }
def RelocLastUptoSaid : Prop := relocLastUptoRow.holds Try.pinned (OpenSpec.upto relocLastSpec)

/-- 'clevislaw16.RelocCopies', WHERE WHAT IT READS IS OF BULK AT MOST 1048576: true; the input reads as it did. -/
def relocCopiesUptoRow : OpenClaim := { program := "ytpononkgeeahdaa", sum := "ed4c6bb4e8321b7e39179aeb01e1ac5affac42fe991bc7de5748e565838e2021", func := "clevis/clevislaw16.RelocCopies", spec := "relocCopies", inPlace := ["slices.overlaps[clevis/space.region]"], apart := false, narrowed := true }
def RelocCopiesUptoSaid : Prop := relocCopiesUptoRow.holds Try.pinned (OpenSpec.upto relocCopiesSpec)

/-- 'clevislaw16.RelocApplies', WHERE WHAT IT READS IS OF BULK AT MOST 1048576: true; the input reads as it did. -/
def relocAppliesUptoRow : OpenClaim := { program := "ytpononkgeeahdaa", sum := "ed4c6bb4e8321b7e39179aeb01e1ac5affac42fe991bc7de5748e565838e2021", func := "clevis/clevislaw16.RelocApplies", spec := "relocApplies", inPlace := ["slices.overlaps[clevis/space.region]"], apart := false, narrowed := true }
def RelocAppliesUptoSaid : Prop := relocAppliesUptoRow.holds Try.pinned (OpenSpec.upto relocAppliesSpec)

/-- 'clevislaw16.RelocOne', WHERE WHAT IT READS IS OF BULK AT MOST 1048576: true; the input reads as it did. -/
def relocOneUptoRow : OpenClaim := { program := "ytpononkgeeahdaa", sum := "ed4c6bb4e8321b7e39179aeb01e1ac5affac42fe991bc7de5748e565838e2021", func := "clevis/clevislaw16.RelocOne", spec := "relocOne", inPlace := ["slices.overlaps[clevis/space.region]"], apart := false, narrowed := true }
def RelocOneUptoSaid : Prop := relocOneUptoRow.holds Try.pinned (OpenSpec.upto relocOneSpec)

end Rows
end Go.Proofs.Ytpononkgeeahdaa
