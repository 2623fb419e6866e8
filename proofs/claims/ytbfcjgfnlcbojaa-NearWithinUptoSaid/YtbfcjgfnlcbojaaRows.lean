/-
  No cell of these rows narrows 'for every input' (looked for: loops, veiled, ifaces, maps, wideKeys, modest, calm, conditions, laid).
  DERIVED. THE GIVEN ROWS OF THIS SEAT. 5 by the template 'for every input the law returns true; each argument reads behind the call as it read before'; 0 by the template 'total and deterministic' (their statements: YtbfcjgfnlcbojaaTotals.lean).
  GIVEN WITH THE SEED: the statements are not yours to turn. If you find one false, say at which input.
  Laid BY PROGRAM, IN A SANDBOX (cutbox-rows.mjs): the forced cells as the released guide's own fill.sh prints them over the translation 37196b18eca5f14f… (all of the seat's roots in one cut). By AI agents, Wed Nov 11 2026. No macro, syntax, notation, axiom, sorry.
-/
import Derived.Test.YtbfcjgfnlcbojaaChecked
import GoSem.Claim
import GoSem.ClaimJoined
import GoSem.ClaimMapViews
import Derived.JoinedTies
import Derived.KernelRfl
namespace Go.Proofs.Ytbfcjgfnlcbojaa
/- THE CELL 'sum', in the pinned program and in every row, IS THE sha256 OF THE DUMP (.gsa) THAT YtbfcjgfnlcbojaaProg.lean LOADS. Nothing in Lean hashes anything: it is a label: what it is worth is what the hold of that sum in a sandbox is worth. -/
noncomputable def Try.pinned : Pinned := { name := "ytbfcjgfnlcbojaa", sum := "37196b18eca5f14f87036f9ea7933fa73782b2a4fd1d58ef9c87ec033e6b5c2a", checked := Try.checked }
namespace Rows
def none {H : Type} : Left H := { results := [], args := [] }

/-- 'hornbooklaw23.NearDistances': WHATEVER THE INPUT: true; the input reads as it did. -/
def nearDistancesSpec : ChangeSpec := { name := "nearDistances", fn := fun _ => fun
  | [d1, d2] => { results := [.lit (.bool true)], args := [d1, d2] }
  | _ => none }
def nearDistancesRow : OpenClaim := { program := "ytbfcjgfnlcbojaa", sum := "37196b18eca5f14f87036f9ea7933fa73782b2a4fd1d58ef9c87ec033e6b5c2a", func := "hornbook/hornbooklaw23.NearDistances", spec := "nearDistances", inPlace := ["internal/abi.NoEscape"], unfollowed := true, recurses := true, plainKeys := false, apart := false }
def NearDistancesSaid : Prop := nearDistancesRow.holds Try.pinned (OpenSpec.ofChange nearDistancesSpec)

/-- ITS FALSE NEIGHBOUR: 'it returns false'. Refute it at one input. -/
def nearDistancesWrong : ChangeSpec := { name := "nearDistances", fn := fun _ => fun
  | [d1, d2] => { results := [.lit (.bool false)], args := [d1, d2] }
  | _ => none }
def NearDistancesWrongFalsely : Prop := nearDistancesRow.holds Try.pinned (OpenSpec.ofChange nearDistancesWrong)

/-- 'hornbooklaw23.NearMeasure': WHATEVER THE INPUT: true; the input reads as it did. -/
def nearMeasureSpec : ChangeSpec := { name := "nearMeasure", fn := fun _ => fun
  | [d1, d2, d3] => { results := [.lit (.bool true)], args := [d1, d2, d3] }
  | _ => none }
def nearMeasureRow : OpenClaim := { program := "ytbfcjgfnlcbojaa", sum := "37196b18eca5f14f87036f9ea7933fa73782b2a4fd1d58ef9c87ec033e6b5c2a", func := "hornbook/hornbooklaw23.NearMeasure", spec := "nearMeasure", inPlace := ["internal/abi.NoEscape"], unfollowed := true, recurses := true, plainKeys := false, apart := false }
def NearMeasureSaid : Prop := nearMeasureRow.holds Try.pinned (OpenSpec.ofChange nearMeasureSpec)

/-- ITS FALSE NEIGHBOUR: 'it returns false'. Refute it at one input. -/
def nearMeasureWrong : ChangeSpec := { name := "nearMeasure", fn := fun _ => fun
  | [d1, d2, d3] => { results := [.lit (.bool false)], args := [d1, d2, d3] }
  | _ => none }
def NearMeasureWrongFalsely : Prop := nearMeasureRow.holds Try.pinned (OpenSpec.ofChange nearMeasureWrong)

/-- 'hornbooklaw23.NearEdits': WHATEVER THE INPUT: true; the input reads as it did. -/
def nearEditsSpec : ChangeSpec := { name := "nearEdits", fn := fun _ => fun
  | [d] => { results := [.lit (.bool true)], args := [d] }
  | _ => none }
def nearEditsRow : OpenClaim := { program := "ytbfcjgfnlcbojaa", sum := "37196b18eca5f14f87036f9ea7933fa73782b2a4fd1d58ef9c87ec033e6b5c2a", func := "hornbook/hornbooklaw23.NearEdits", spec := "nearEdits", inPlace := ["internal/abi.NoEscape"], unfollowed := true, recurses := true, plainKeys := false, apart := false }
def NearEditsSaid : Prop := nearEditsRow.holds Try.pinned (OpenSpec.ofChange nearEditsSpec)

/-- ITS FALSE NEIGHBOUR: 'it returns false'. Refute it at one input. -/
def nearEditsWrong : ChangeSpec := { name := "nearEdits", fn := fun _ => fun
  | [d] => { results := [.lit (.bool false)], args := [d] }
  | _ => none }
def NearEditsWrongFalsely : Prop := nearEditsRow.holds Try.pinned (OpenSpec.ofChange nearEditsWrong)

/-- 'hornbooklaw23.NearWithin': WHATEVER THE INPUT: true; the input reads as it did. -/
def nearWithinSpec : ChangeSpec := { name := "nearWithin", fn := fun _ => fun
  | [d] => { results := [.lit (.bool true)], args := [d] }
  | _ => none }
def nearWithinRow : OpenClaim := { program := "ytbfcjgfnlcbojaa", sum := "37196b18eca5f14f87036f9ea7933fa73782b2a4fd1d58ef9c87ec033e6b5c2a", func := "hornbook/hornbooklaw23.NearWithin", spec := "nearWithin", inPlace := ["internal/abi.NoEscape"], unfollowed := true, recurses := true, plainKeys := false, apart := false }
def NearWithinSaid : Prop := nearWithinRow.holds Try.pinned (OpenSpec.ofChange nearWithinSpec)

/-- ITS FALSE NEIGHBOUR: 'it returns false'. Refute it at one input. -/
def nearWithinWrong : ChangeSpec := { name := "nearWithin", fn := fun _ => fun
  | [d] => { results := [.lit (.bool false)], args := [d] }
  | _ => none }
def NearWithinWrongFalsely : Prop := nearWithinRow.holds Try.pinned (OpenSpec.ofChange nearWithinWrong)

/-- 'hornbooklaw23.NearWhole': WHATEVER THE INPUT: true; the input reads as it did. -/
def nearWholeSpec : ChangeSpec := { name := "nearWhole", fn := fun _ => fun
  | [d1, d2, d3] => { results := [.lit (.bool true)], args := [d1, d2, d3] }
  | _ => none }
def nearWholeRow : OpenClaim := { program := "ytbfcjgfnlcbojaa", sum := "37196b18eca5f14f87036f9ea7933fa73782b2a4fd1d58ef9c87ec033e6b5c2a", func := "hornbook/hornbooklaw23.NearWhole", spec := "nearWhole", inPlace := ["internal/abi.NoEscape"], unfollowed := true, recurses := true, plainKeys := false, apart := false }
def NearWholeSaid : Prop := nearWholeRow.holds Try.pinned (OpenSpec.ofChange nearWholeSpec)

/-- ITS FALSE NEIGHBOUR: 'it returns false'. Refute it at one input. -/
def nearWholeWrong : ChangeSpec := { name := "nearWhole", fn := fun _ => fun
  | [d1, d2, d3] => { results := [.lit (.bool false)], args := [d1, d2, d3] }
  | _ => none }
def NearWholeWrongFalsely : Prop := nearWholeRow.holds Try.pinned (OpenSpec.ofChange nearWholeWrong)

/- THE SECOND FORM. 'bulk': how many values and letters a reading holds, each counted each time it is reached (what is shared counts as often as it is met; a slice's spare places count too). A statement '..UptoSaid' is the law's where the arguments, and the package variables that the reading takes, are together of bulk at most 1048576: NARROWER than '..Said'. Prove '..Said' where nothing that the law and all that it calls make is longer than what came in: it says more and counts as full. Else prove '..UptoSaid'. A law counts once. -/
mutual
def uptoBulk {H : Type} : DataW H → Nat
  | .lit (.string bytes) => bytes.length + 1
  | .lit _ => 1
  | .nil => 1
  | .ptr d => uptoBulk d + 1
  | .slice elems spare => uptoBulkAll elems + uptoBulkAll spare + 1
  | .agg parts => uptoBulkAll parts + 1
  | .iface _ d => uptoBulk d + 1
  | .map entries => uptoBulkEntries entries + 1
  | .held _ => 1
def uptoBulkAll {H : Type} : List (DataW H) → Nat
  | [] => 0
  | d :: r => uptoBulk d + uptoBulkAll r
def uptoBulkEntries {H : Type} : List (Lit × DataW H) → Nat
  | [] => 0
  | x :: r => uptoBulkEntry x + uptoBulkEntries r
def uptoBulkEntry {H : Type} : Lit × DataW H → Nat
  | (.string bytes, d) => bytes.length + uptoBulk d + 1
  | (_, d) => uptoBulk d + 1
 end
def uptoSmall : (H : Type) → List (DataW H) → Bool := fun _ ds => decide (uptoBulkAll ds ≤ 1048576)
def OpenSpec.upto (s : _root_.Go.ChangeSpec) : _root_.Go.OpenSpec := { _root_.Go.OpenSpec.ofChange s with cond := some uptoSmall }

/-- 'hornbooklaw23.NearDistances', WHERE WHAT IT READS IS OF BULK AT MOST 1048576: true; the input reads as it did. -/
def nearDistancesUptoRow : OpenClaim := { program := "ytbfcjgfnlcbojaa", sum := "37196b18eca5f14f87036f9ea7933fa73782b2a4fd1d58ef9c87ec033e6b5c2a", func := "hornbook/hornbooklaw23.NearDistances", spec := "nearDistances", inPlace := ["internal/abi.NoEscape"], unfollowed := true, recurses := true, plainKeys := false, apart := false, narrowed := true }
def NearDistancesUptoSaid : Prop := nearDistancesUptoRow.holds Try.pinned (OpenSpec.upto nearDistancesSpec)

/-- 'hornbooklaw23.NearMeasure', WHERE WHAT IT READS IS OF BULK AT MOST 1048576: true; the input reads as it did. -/
def nearMeasureUptoRow : OpenClaim := { program := "ytbfcjgfnlcbojaa", sum := "37196b18eca5f14f87036f9ea7933fa73782b2a4fd1d58ef9c87ec033e6b5c2a", func := "hornbook/hornbooklaw23.NearMeasure", spec := "nearMeasure", inPlace := ["internal/abi.NoEscape"], unfollowed := true, recurses := true, plainKeys := false, apart := false, narrowed := true }
def NearMeasureUptoSaid : Prop := nearMeasureUptoRow.holds Try.pinned (OpenSpec.upto nearMeasureSpec)

/-- 'hornbooklaw23.NearEdits', WHERE WHAT IT READS IS OF BULK AT MOST 1048576: true; the input reads as it did. -/
def nearEditsUptoRow : OpenClaim := { program := "ytbfcjgfnlcbojaa", sum := "37196b18eca5f14f87036f9ea7933fa73782b2a4fd1d58ef9c87ec033e6b5c2a", func := "hornbook/hornbooklaw23.NearEdits", spec := "nearEdits", inPlace := ["internal/abi.NoEscape"], unfollowed := true, recurses := true, plainKeys := false, apart := false, narrowed := true }
def NearEditsUptoSaid : Prop := nearEditsUptoRow.holds Try.pinned (OpenSpec.upto nearEditsSpec)

/-- 'hornbooklaw23.NearWithin', WHERE WHAT IT READS IS OF BULK AT MOST 1048576: true; the input reads as it did. -/
def nearWithinUptoRow : OpenClaim := { program := "ytbfcjgfnlcbojaa", sum := "37196b18eca5f14f87036f9ea7933fa73782b2a4fd1d58ef9c87ec033e6b5c2a", func := "hornbook/hornbooklaw23.NearWithin", spec := "nearWithin", inPlace := ["internal/abi.NoEscape"], unfollowed := true, recurses := true, plainKeys := false, apart := false, narrowed := true }
def NearWithinUptoSaid : Prop := nearWithinUptoRow.holds Try.pinned (OpenSpec.upto nearWithinSpec)

/-- 'hornbooklaw23.NearWhole', WHERE WHAT IT READS IS OF BULK AT MOST 1048576: true; the input reads as it did. -/
def nearWholeUptoRow : OpenClaim := { program := "ytbfcjgfnlcbojaa", sum := "37196b18eca5f14f87036f9ea7933fa73782b2a4fd1d58ef9c87ec033e6b5c2a", func := "hornbook/hornbooklaw23.NearWhole", spec := "nearWhole", inPlace := ["internal/abi.NoEscape"], unfollowed := true, recurses := true, plainKeys := false, apart := false, narrowed := true }
def NearWholeUptoSaid : Prop := nearWholeUptoRow.holds Try.pinned (OpenSpec.upto nearWholeSpec)

end Rows
end Go.Proofs.Ytbfcjgfnlcbojaa
