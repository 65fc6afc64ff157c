/-
  No cell of these rows narrows 'for every input' (looked for: loops, veiled, ifaces, maps, wideKeys, modest, calm, conditions, laid).
  DERIVED. THE GIVEN ROWS OF THIS SEAT. 5 by the template 'for every input the law returns true; each argument reads behind the call as it read before'; 0 by the template 'total and deterministic' (their statements: YtpenejigebkkmaaTotals.lean).
  GIVEN WITH THE SEED: the statements are not yours to turn. If you find one false, say at which input.
  Laid BY PROGRAM, IN A SANDBOX (cutbox-rows.mjs): the forced cells as the released guide's own fill.sh prints them over the translation 7a944db3598065b3… (all of the seat's roots in one cut). By AI agents, Wed Nov 11 2026. No macro, syntax, notation, axiom, sorry.
-/
import Derived.Test.YtpenejigebkkmaaChecked
import GoSem.Claim
import GoSem.ClaimJoined
import GoSem.ClaimMapViews
import Derived.JoinedTies
import Derived.KernelRfl
namespace Go.Proofs.Ytpenejigebkkmaa
/- THE CELL 'sum', in the pinned program and in every row, IS THE sha256 OF THE DUMP (.gsa) THAT YtpenejigebkkmaaProg.lean LOADS. Nothing in Lean hashes anything: it is a label: what it is worth is what the hold of that sum in a sandbox is worth. -/
noncomputable def Try.pinned : Pinned := { name := "ytpenejigebkkmaa", sum := "7a944db3598065b3c9c3bcdd3bff501cb1b58ec95472ed72c13e8140ba6cf52f", checked := Try.checked }
namespace Rows
def none {H : Type} : Left H := { results := [], args := [] }

/-- 'clevislaw17.TlsOwn': WHATEVER THE INPUT: true; the input reads as it did. -/
def tlsOwnSpec : ChangeSpec := { name := "tlsOwn", fn := fun _ => fun
  | [d1, d2, d3, d4, d5, d6] => { results := [.lit (.bool true)], args := [d1, d2, d3, d4, d5, d6] }
  | _ => none }
def tlsOwnRow : OpenClaim := { program := "ytpenejigebkkmaa", sum := "7a944db3598065b3c9c3bcdd3bff501cb1b58ec95472ed72c13e8140ba6cf52f", func := "clevis/clevislaw17.TlsOwn", spec := "tlsOwn", inPlace := ["slices.overlaps[clevis/space.region]"], apart := false }
def TlsOwnSaid : Prop := tlsOwnRow.holds Try.pinned (OpenSpec.ofChange tlsOwnSpec)

/-- ITS FALSE NEIGHBOUR: 'it returns false'. Refute it at one input. -/
def tlsOwnWrong : ChangeSpec := { name := "tlsOwn", fn := fun _ => fun
  | [d1, d2, d3, d4, d5, d6] => { results := [.lit (.bool false)], args := [d1, d2, d3, d4, d5, d6] }
  | _ => none }
def TlsOwnWrongFalsely : Prop := tlsOwnRow.holds Try.pinned (OpenSpec.ofChange tlsOwnWrong)

/-- 'clevislaw17.TlsFresh': WHATEVER THE INPUT: true; the input reads as it did. -/
def tlsFreshSpec : ChangeSpec := { name := "tlsFresh", fn := fun _ => fun
  | [d1, d2, d3, d4] => { results := [.lit (.bool true)], args := [d1, d2, d3, d4] }
  | _ => none }
def tlsFreshRow : OpenClaim := { program := "ytpenejigebkkmaa", sum := "7a944db3598065b3c9c3bcdd3bff501cb1b58ec95472ed72c13e8140ba6cf52f", func := "clevis/clevislaw17.TlsFresh", spec := "tlsFresh", inPlace := ["slices.overlaps[clevis/space.region]"], apart := false }
def TlsFreshSaid : Prop := tlsFreshRow.holds Try.pinned (OpenSpec.ofChange tlsFreshSpec)

/-- ITS FALSE NEIGHBOUR: 'it returns false'. Refute it at one input. -/
def tlsFreshWrong : ChangeSpec := { name := "tlsFresh", fn := fun _ => fun
  | [d1, d2, d3, d4] => { results := [.lit (.bool false)], args := [d1, d2, d3, d4] }
  | _ => none }
def TlsFreshWrongFalsely : Prop := tlsFreshRow.holds Try.pinned (OpenSpec.ofChange tlsFreshWrong)

/-- 'clevislaw17.TlsNumbers': WHATEVER THE INPUT: true; the input reads as it did. -/
def tlsNumbersSpec : ChangeSpec := { name := "tlsNumbers", fn := fun _ => fun
  | [d1, d2, d3, d4, d5] => { results := [.lit (.bool true)], args := [d1, d2, d3, d4, d5] }
  | _ => none }
def tlsNumbersRow : OpenClaim := { program := "ytpenejigebkkmaa", sum := "7a944db3598065b3c9c3bcdd3bff501cb1b58ec95472ed72c13e8140ba6cf52f", func := "clevis/clevislaw17.TlsNumbers", spec := "tlsNumbers", inPlace := ["slices.overlaps[clevis/space.region]"], unfollowed := true, recurses := true, apart := false }
def TlsNumbersSaid : Prop := tlsNumbersRow.holds Try.pinned (OpenSpec.ofChange tlsNumbersSpec)

/-- ITS FALSE NEIGHBOUR: 'it returns false'. Refute it at one input. -/
def tlsNumbersWrong : ChangeSpec := { name := "tlsNumbers", fn := fun _ => fun
  | [d1, d2, d3, d4, d5] => { results := [.lit (.bool false)], args := [d1, d2, d3, d4, d5] }
  | _ => none }
def TlsNumbersWrongFalsely : Prop := tlsNumbersRow.holds Try.pinned (OpenSpec.ofChange tlsNumbersWrong)

/-- 'clevislaw17.TlsApart': WHATEVER THE INPUT: true; the input reads as it did. -/
def tlsApartSpec : ChangeSpec := { name := "tlsApart", fn := fun _ => fun
  | [d] => { results := [.lit (.bool true)], args := [d] }
  | _ => none }
def tlsApartRow : OpenClaim := { program := "ytpenejigebkkmaa", sum := "7a944db3598065b3c9c3bcdd3bff501cb1b58ec95472ed72c13e8140ba6cf52f", func := "clevis/clevislaw17.TlsApart", spec := "tlsApart", inPlace := ["slices.overlaps[clevis/space.region]"], unfollowed := true, recurses := true, apart := false }
def TlsApartSaid : Prop := tlsApartRow.holds Try.pinned (OpenSpec.ofChange tlsApartSpec)

/-- ITS FALSE NEIGHBOUR: 'it returns false'. Refute it at one input. -/
def tlsApartWrong : ChangeSpec := { name := "tlsApart", fn := fun _ => fun
  | [d] => { results := [.lit (.bool false)], args := [d] }
  | _ => none }
def TlsApartWrongFalsely : Prop := tlsApartRow.holds Try.pinned (OpenSpec.ofChange tlsApartWrong)

/-- 'clevislaw17.TlsGone': WHATEVER THE INPUT: true; the input reads as it did. -/
def tlsGoneSpec : ChangeSpec := { name := "tlsGone", fn := fun _ => fun
  | [d1, d2] => { results := [.lit (.bool true)], args := [d1, d2] }
  | _ => none }
def tlsGoneRow : OpenClaim := { program := "ytpenejigebkkmaa", sum := "7a944db3598065b3c9c3bcdd3bff501cb1b58ec95472ed72c13e8140ba6cf52f", func := "clevis/clevislaw17.TlsGone", spec := "tlsGone", inPlace := ["slices.overlaps[clevis/space.region]"], unfollowed := true, recurses := true, apart := false }
def TlsGoneSaid : Prop := tlsGoneRow.holds Try.pinned (OpenSpec.ofChange tlsGoneSpec)

/-- ITS FALSE NEIGHBOUR: 'it returns false'. Refute it at one input. -/
def tlsGoneWrong : ChangeSpec := { name := "tlsGone", fn := fun _ => fun
  | [d1, d2] => { results := [.lit (.bool false)], args := [d1, d2] }
  | _ => none }
def TlsGoneWrongFalsely : Prop := tlsGoneRow.holds Try.pinned (OpenSpec.ofChange tlsGoneWrong)

/- THE SECOND FORM. 'bulk': how many values and letters a reading holds, each counted each time it is reached (what is shared counts as often as it is met; a slice's spare places count too). A statement '..UptoSaid' is the law's where the arguments, and the package variables that the reading takes, are together of bulk at most 1048576: NARROWER than '..Said'. Prove '..Said' where nothing that the law and all that it calls make is longer than what came in: it says more and counts as full. Else prove '..UptoSaid'. A law counts once. -/
mutual
def uptoBulk {H : Type} : DataW H → Nat
  | .lit (.string bytes) => bytes.length + 1
  | .lit _ => 1
  | .nil => 1
  | .ptr d => uptoBulk d + 1
  | .slice elems spare => uptoBulkAll elems + uptoBulkAll spare + 1
  | .agg parts => uptoBulkAll parts + 1
  | .iface _ d => uptoBulk d + 1
  | .map entries => uptoBulkEntries entries + 1
  | .held _ => 1
def uptoBulkAll {H : Type} : List (DataW H) → Nat
  | [] => 0
  | d :: r => uptoBulk d + uptoBulkAll r
def uptoBulkEntries {H : Type} : List (Lit × DataW H) → Nat
  | [] => 0
  | x :: r => uptoBulkEntry x + uptoBulkEntries r
def uptoBulkEntry {H : Type} : Lit × DataW H → Nat
  | (.string bytes, d) => bytes.length + uptoBulk d + 1
  | (_, d) => uptoBulk d + 1
 end
def uptoSmall : (H : Type) → List (DataW H) → Bool := fun _ ds => decide (uptoBulkAll ds ≤ 1048576)
def OpenSpec.upto (s : _root_.Go.ChangeSpec) : _root_.Go.OpenSpec := { _root_.Go.OpenSpec.ofChange s with cond := some uptoSmall }

/-- 'clevislaw17.TlsOwn', WHERE WHAT IT READS IS OF BULK AT MOST 1048576: true; the input reads as it did. -/
def tlsOwnUptoRow : OpenClaim := { program := "ytpenejigebkkmaa", sum := "7a944db3598065b3c9c3bcdd3bff501cb1b58ec95472ed72c13e8140ba6cf52f", func := "clevis/clevislaw17.TlsOwn", spec := "tlsOwn", inPlace := ["slices.overlaps[clevis/space.region]"], apart := false, narrowed := true }
def TlsOwnUptoSaid : Prop := tlsOwnUptoRow.holds Try.pinned (OpenSpec.upto tlsOwnSpec)

/-- 'clevislaw17.TlsFresh', WHERE WHAT IT READS IS OF BULK AT MOST 1048576: true; the input reads as it did. -/
def tlsFreshUptoRow : OpenClaim := { program := "ytpenejigebkkmaa", sum := "7a944db3598065b3c9c3bcdd3bff501cb1b58ec95472ed72c13e8140ba6cf52f", func := "clevis/clevislaw17.TlsFresh", spec := "tlsFresh", inPlace := ["slices.overlaps[clevis/space.region]"], apart := false, narrowed := true }
def TlsFreshUptoSaid : Prop := tlsFreshUptoRow.holds Try.pinned (OpenSpec.upto tlsFreshSpec)

/-- 'clevislaw17.TlsNumbers', WHERE WHAT IT READS IS OF BULK AT MOST 1048576: true; the input reads as it did. -/
def tlsNumbersUptoRow : OpenClaim := { program := "ytpenejigebkkmaa", sum := "7a944db3598065b3c9c3bcdd3bff501cb1b58ec95472ed72c13e8140ba6cf52f", func := "clevis/clevislaw17.TlsNumbers", spec := "tlsNumbers", inPlace := ["slices.overlaps[clevis/space.region]"], unfollowed := true, recurses := true, apart := false, narrowed := true }
def TlsNumbersUptoSaid : Prop := tlsNumbersUptoRow.holds Try.pinned (OpenSpec.upto tlsNumbersSpec)

/-- 'clevislaw17.TlsApart', WHERE WHAT IT READS IS OF BULK AT MOST 1048576: true; the input reads as it did. -/
def tlsApartUptoRow : OpenClaim := { program := "ytpenejigebkkmaa", sum := "7a944db3598065b3c9c3bcdd3bff501cb1b58ec95472ed72c13e8140ba6cf52f", func := "clevis/clevislaw17.TlsApart", spec := "tlsApart", inPlace := ["slices.overlaps[clevis/space.region]"], unfollowed := true, recurses := true, apart := false, narrowed := true }
def TlsApartUptoSaid : Prop := tlsApartUptoRow.holds Try.pinned (OpenSpec.upto tlsApartSpec)

/-- 'clevislaw17.TlsGone', WHERE WHAT IT READS IS OF BULK AT MOST 1048576: true; the input reads as it did. -/
def tlsGoneUptoRow : OpenClaim := { program := "ytpenejigebkkmaa", sum := "7a944db3598065b3c9c3bcdd3bff501cb1b58ec95472ed72c13e8140ba6cf52f", func := "clevis/clevislaw17.TlsGone", spec := "tlsGone", inPlace := ["slices.overlaps[clevis/space.region]"], unfollowed := true, recurses := true, apart := false, narrowed := true }
def TlsGoneUptoSaid : Prop := tlsGoneUptoRow.holds Try.pinned (OpenSpec.upto tlsGoneSpec)

end Rows
end Go.Proofs.Ytpenejigebkkmaa
