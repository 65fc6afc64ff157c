/-
  No cell of these rows narrows 'for every input' (looked for: loops, veiled, ifaces, maps, wideKeys, modest, calm, conditions, laid).
  DERIVED. THE GIVEN ROWS OF THIS SEAT. 5 by the template 'for every input the law returns true; each argument reads behind the call as it read before'; 0 by the template 'total and deterministic' (their statements: YtlkelfaokbdddaaTotals.lean).
  GIVEN WITH THE SEED: the statements are not yours to turn. If you find one false, say at which input.
  Laid BY PROGRAM, IN A SANDBOX (cutbox-rows.mjs): the forced cells as the released guide's own fill.sh prints them over the translation e4d0fd12b0bf041c… (all of the seat's roots in one cut). By AI agents, Wed Nov 11 2026. No macro, syntax, notation, axiom, sorry.
-/
import Derived.Test.YtlkelfaokbdddaaChecked
import GoSem.Claim
import GoSem.ClaimJoined
import GoSem.ClaimMapViews
import Derived.JoinedTies
import Derived.KernelRfl
namespace Go.Proofs.Ytlkelfaokbdddaa
/- THE CELL 'sum', in the pinned program and in every row, IS THE sha256 OF THE DUMP (.gsa) THAT YtlkelfaokbdddaaProg.lean LOADS. Nothing in Lean hashes anything: it is a label: what it is worth is what the hold of that sum in a sandbox is worth. -/
noncomputable def Try.pinned : Pinned := { name := "ytlkelfaokbdddaa", sum := "e4d0fd12b0bf041c5643ea344d494de89c9bc51b8f6cfd5e011b05c66a2c5c67", checked := Try.checked }
namespace Rows
def none {H : Type} : Left H := { results := [], args := [] }

/-- 'clevislaw15.PlaceStands': WHATEVER THE INPUT: true; the input reads as it did. -/
def placeStandsSpec : ChangeSpec := { name := "placeStands", fn := fun _ => fun
  | [d1, d2, d3, d4] => { results := [.lit (.bool true)], args := [d1, d2, d3, d4] }
  | _ => none }
def placeStandsRow : OpenClaim := { program := "ytlkelfaokbdddaa", sum := "e4d0fd12b0bf041c5643ea344d494de89c9bc51b8f6cfd5e011b05c66a2c5c67", func := "clevis/clevislaw15.PlaceStands", spec := "placeStands", inPlace := ["slices.overlaps[clevis/space.region]"], apart := false }
def PlaceStandsSaid : Prop := placeStandsRow.holds Try.pinned (OpenSpec.ofChange placeStandsSpec)

/-- ITS FALSE NEIGHBOUR: 'it returns false'. Refute it at one input. -/
def placeStandsWrong : ChangeSpec := { name := "placeStands", fn := fun _ => fun
  | [d1, d2, d3, d4] => { results := [.lit (.bool false)], args := [d1, d2, d3, d4] }
  | _ => none }
def PlaceStandsWrongFalsely : Prop := placeStandsRow.holds Try.pinned (OpenSpec.ofChange placeStandsWrong)

/-- 'clevislaw15.PlaceBack': WHATEVER THE INPUT: true; the input reads as it did. -/
def placeBackSpec : ChangeSpec := { name := "placeBack", fn := fun _ => fun
  | [d1, d2] => { results := [.lit (.bool true)], args := [d1, d2] }
  | _ => none }
def placeBackRow : OpenClaim := { program := "ytlkelfaokbdddaa", sum := "e4d0fd12b0bf041c5643ea344d494de89c9bc51b8f6cfd5e011b05c66a2c5c67", func := "clevis/clevislaw15.PlaceBack", spec := "placeBack", inPlace := ["slices.overlaps[clevis/space.region]"], apart := false }
def PlaceBackSaid : Prop := placeBackRow.holds Try.pinned (OpenSpec.ofChange placeBackSpec)

/-- ITS FALSE NEIGHBOUR: 'it returns false'. Refute it at one input. -/
def placeBackWrong : ChangeSpec := { name := "placeBack", fn := fun _ => fun
  | [d1, d2] => { results := [.lit (.bool false)], args := [d1, d2] }
  | _ => none }
def PlaceBackWrongFalsely : Prop := placeBackRow.holds Try.pinned (OpenSpec.ofChange placeBackWrong)

/-- 'clevislaw15.PlaceRefuses': WHATEVER THE INPUT: true; the input reads as it did. -/
def placeRefusesSpec : ChangeSpec := { name := "placeRefuses", fn := fun _ => fun
  | [d1, d2] => { results := [.lit (.bool true)], args := [d1, d2] }
  | _ => none }
def placeRefusesRow : OpenClaim := { program := "ytlkelfaokbdddaa", sum := "e4d0fd12b0bf041c5643ea344d494de89c9bc51b8f6cfd5e011b05c66a2c5c67", func := "clevis/clevislaw15.PlaceRefuses", spec := "placeRefuses", inPlace := ["slices.overlaps[clevis/space.region]"], apart := false }
def PlaceRefusesSaid : Prop := placeRefusesRow.holds Try.pinned (OpenSpec.ofChange placeRefusesSpec)

/-- ITS FALSE NEIGHBOUR: 'it returns false'. Refute it at one input. -/
def placeRefusesWrong : ChangeSpec := { name := "placeRefuses", fn := fun _ => fun
  | [d1, d2] => { results := [.lit (.bool false)], args := [d1, d2] }
  | _ => none }
def PlaceRefusesWrongFalsely : Prop := placeRefusesRow.holds Try.pinned (OpenSpec.ofChange placeRefusesWrong)

/-- 'clevislaw15.PlaceMaps': WHATEVER THE INPUT: true; the input reads as it did. -/
def placeMapsSpec : ChangeSpec := { name := "placeMaps", fn := fun _ => fun
  | [d1, d2] => { results := [.lit (.bool true)], args := [d1, d2] }
  | _ => none }
def placeMapsRow : OpenClaim := { program := "ytlkelfaokbdddaa", sum := "e4d0fd12b0bf041c5643ea344d494de89c9bc51b8f6cfd5e011b05c66a2c5c67", func := "clevis/clevislaw15.PlaceMaps", spec := "placeMaps", inPlace := ["slices.overlaps[clevis/space.region]"], apart := false }
def PlaceMapsSaid : Prop := placeMapsRow.holds Try.pinned (OpenSpec.ofChange placeMapsSpec)

/-- ITS FALSE NEIGHBOUR: 'it returns false'. Refute it at one input. -/
def placeMapsWrong : ChangeSpec := { name := "placeMaps", fn := fun _ => fun
  | [d1, d2] => { results := [.lit (.bool false)], args := [d1, d2] }
  | _ => none }
def PlaceMapsWrongFalsely : Prop := placeMapsRow.holds Try.pinned (OpenSpec.ofChange placeMapsWrong)

/-- 'clevislaw15.PlaceUnmaps': WHATEVER THE INPUT: true; the input reads as it did. -/
def placeUnmapsSpec : ChangeSpec := { name := "placeUnmaps", fn := fun _ => fun
  | [d1, d2, d3, d4] => { results := [.lit (.bool true)], args := [d1, d2, d3, d4] }
  | _ => none }
def placeUnmapsRow : OpenClaim := { program := "ytlkelfaokbdddaa", sum := "e4d0fd12b0bf041c5643ea344d494de89c9bc51b8f6cfd5e011b05c66a2c5c67", func := "clevis/clevislaw15.PlaceUnmaps", spec := "placeUnmaps", inPlace := ["slices.overlaps[clevis/space.region]"], apart := false }
def PlaceUnmapsSaid : Prop := placeUnmapsRow.holds Try.pinned (OpenSpec.ofChange placeUnmapsSpec)

/-- ITS FALSE NEIGHBOUR: 'it returns false'. Refute it at one input. -/
def placeUnmapsWrong : ChangeSpec := { name := "placeUnmaps", fn := fun _ => fun
  | [d1, d2, d3, d4] => { results := [.lit (.bool false)], args := [d1, d2, d3, d4] }
  | _ => none }
def PlaceUnmapsWrongFalsely : Prop := placeUnmapsRow.holds Try.pinned (OpenSpec.ofChange placeUnmapsWrong)

/- THE SECOND FORM. 'bulk': how many values and letters a reading holds, each counted each time it is reached (what is shared counts as often as it is met; a slice's spare places count too). A statement '..UptoSaid' is the law's where the arguments, and the package variables that the reading takes, are together of bulk at most 1048576: NARROWER than '..Said'. Prove '..Said' where nothing that the law and all that it calls make is longer than what came in: it says more and counts as full. Else prove '..UptoSaid'. A law counts once. -/
mutual
def uptoBulk {H : Type} : DataW H → Nat
  | .lit (.string bytes) => bytes.length + 1
  | .lit _ => 1
  | .nil => 1
  | .ptr d => uptoBulk d + 1
  | .slice elems spare => uptoBulkAll elems + uptoBulkAll spare + 1
  | .agg parts => uptoBulkAll parts + 1
  | .iface _ d => uptoBulk d + 1
  | .map entries => uptoBulkEntries entries + 1
  | .held _ => 1
def uptoBulkAll {H : Type} : List (DataW H) → Nat
  | [] => 0
  | d :: r => uptoBulk d + uptoBulkAll r
def uptoBulkEntries {H : Type} : List (Lit × DataW H) → Nat
  | [] => 0
  | x :: r => uptoBulkEntry x + uptoBulkEntries r
def uptoBulkEntry {H : Type} : Lit × DataW H → Nat
  | (.string bytes, d) => bytes.length + uptoBulk d + 1
  | (_, d) => uptoBulk d + 1
 end
def uptoSmall : (H : Type) → List (DataW H) → Bool := fun _ ds => decide (uptoBulkAll ds ≤ 1048576)
def OpenSpec.upto (s : _root_.Go.ChangeSpec) : _root_.Go.OpenSpec := { _root_.Go.OpenSpec.ofChange s with cond := some uptoSmall }

/-- 'clevislaw15.PlaceStands', WHERE WHAT IT READS IS OF BULK AT MOST 1048576: true; the input reads as it did. -/
def placeStandsUptoRow : OpenClaim := { program := "ytlkelfaokbdddaa", sum := "e4d0fd12b0bf041c5643ea344d494de89c9bc51b8f6cfd5e011b05c66a2c5c67", func := "clevis/clevislaw15.PlaceStands", spec := "placeStands", inPlace := ["slices.overlaps[clevis/space.region]"], apart := false, narrowed := true }
def PlaceStandsUptoSaid : Prop := placeStandsUptoRow.holds Try.pinned (OpenSpec.upto placeStandsSpec)

/-- 'clevislaw15.PlaceBack', WHERE WHAT IT READS IS OF BULK AT MOST 1048576: true; the input reads as it did. -/
def placeBackUptoRow : OpenClaim := { program := "ytlkelfaokbdddaa", sum := "e4d0fd12b0bf041c5643ea344d494de89c9bc51b8f6cfd5e011b05c66a2c5c67", func := "clevis/clevislaw15.PlaceBack", spec := "placeBack", inPlace := ["slices.overlaps[clevis/space.region]"], apart := false, narrowed := true }
def PlaceBackUptoSaid : Prop := placeBackUptoRow.holds Try.pinned (OpenSpec.upto placeBackSpec)

/-- 'clevislaw15.PlaceRefuses', WHERE WHAT IT READS IS OF BULK AT MOST 1048576: true; the input reads as it did. -/
def placeRefusesUptoRow : OpenClaim := { program := "ytlkelfaokbdddaa", sum := "e4d0fd12b0bf041c5643ea344d494de89c9bc51b8f6cfd5e011b05c66a2c5c67", func := "clevis/clevislaw15.PlaceRefuses", spec := "placeRefuses", inPlace := ["slices.overlaps[clevis/space.region]"], apart := false, narrowed := true }
def PlaceRefusesUptoSaid : Prop := placeRefusesUptoRow.holds Try.pinned (OpenSpec.upto placeRefusesSpec)

/-- 'clevislaw15.PlaceMaps', WHERE WHAT IT READS IS OF BULK AT MOST 1048576: true; the input reads as it did. -/
def placeMapsUptoRow : OpenClaim := { program := "ytlkelfaokbdddaa", sum := "e4d0fd12b0bf041c5643ea344d494de89c9bc51b8f6cfd5e011b05c66a2c5c67", func := "clevis/clevislaw15.PlaceMaps", spec := "placeMaps", inPlace := ["slices.overlaps[clevis/space.region]"], apart := false, narrowed := true }
def PlaceMapsUptoSaid : Prop := placeMapsUptoRow.holds Try.pinned (OpenSpec.upto placeMapsSpec)

/-- 'clevislaw15.PlaceUnmaps', WHERE WHAT IT READS IS OF BULK AT MOST 1048576: true; the input reads as it did. -/
def placeUnmapsUptoRow : OpenClaim := { program := "ytlkelfaokbdddaa", sum := "e4d0fd12b0bf041c5643ea344d494de89c9bc51b8f6cfd5e011b05c66a2c5c67", func := "clevis/clevislaw15.PlaceUnmaps", spec := "placeUnmaps", inPlace := ["slices.overlaps[clevis/space.region]"], apart := false, narrowed := true }
def PlaceUnmapsUptoSaid : Prop := placeUnmapsUptoRow.holds Try.pinned (OpenSpec.upto placeUnmapsSpec)

end Rows
end Go.Proofs.Ytlkelfaokbdddaa
