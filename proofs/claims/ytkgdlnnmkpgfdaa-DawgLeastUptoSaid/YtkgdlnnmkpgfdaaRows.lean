/-
  No cell of these rows narrows 'for every input' (looked for: loops, veiled, ifaces, maps, wideKeys, modest, calm, conditions, laid).
  DERIVED. THE GIVEN ROWS OF THIS SEAT. 7 by the template 'for every input the law returns true; each argument reads behind the call as it read before'; 0 by the template 'total and deterministic' (their statements: YtkgdlnnmkpgfdaaTotals.lean).
  GIVEN WITH THE SEED: the statements are not yours to turn. If you find one false, say at which input.
  Laid BY PROGRAM, IN A SANDBOX (cutbox-rows.mjs): the forced cells as the released guide's own fill.sh prints them over the translation e9ebe6125c8f298a… (all of the seat's roots in one cut). By AI agents, Wed Nov 11 2026. No macro, syntax, notation, axiom, sorry.
-/
import Derived.Test.YtkgdlnnmkpgfdaaChecked
import GoSem.Claim
import GoSem.ClaimJoined
import GoSem.ClaimMapViews
import Derived.JoinedTies
import Derived.KernelRfl
namespace Go.Proofs.Ytkgdlnnmkpgfdaa
/- THE CELL 'sum', in the pinned program and in every row, IS THE sha256 OF THE DUMP (.gsa) THAT YtkgdlnnmkpgfdaaProg.lean LOADS. Nothing in Lean hashes anything: it is a label: what it is worth is what the hold of that sum in a sandbox is worth. -/
noncomputable def Try.pinned : Pinned := { name := "ytkgdlnnmkpgfdaa", sum := "e9ebe6125c8f298aa2a4bc77bcf2703bc6cb43588c76c677bef6b1147c1e68c8", checked := Try.checked }
namespace Rows
def none {H : Type} : Left H := { results := [], args := [] }

/-- 'hornbooklaw18.DawgBuilds': WHATEVER THE INPUT: true; the input reads as it did. -/
def dawgBuildsSpec : ChangeSpec := { name := "dawgBuilds", fn := fun _ => fun
  | [d] => { results := [.lit (.bool true)], args := [d] }
  | _ => none }
def dawgBuildsRow : OpenClaim := { program := "ytkgdlnnmkpgfdaa", sum := "e9ebe6125c8f298aa2a4bc77bcf2703bc6cb43588c76c677bef6b1147c1e68c8", func := "hornbook/hornbooklaw18.DawgBuilds", spec := "dawgBuilds", inPlace := ["internal/abi.NoEscape"], unfollowed := true, recurses := true, plainKeys := false, apart := false }
def DawgBuildsSaid : Prop := dawgBuildsRow.holds Try.pinned (OpenSpec.ofChange dawgBuildsSpec)

/-- ITS FALSE NEIGHBOUR: 'it returns false'. Refute it at one input. -/
def dawgBuildsWrong : ChangeSpec := { name := "dawgBuilds", fn := fun _ => fun
  | [d] => { results := [.lit (.bool false)], args := [d] }
  | _ => none }
def DawgBuildsWrongFalsely : Prop := dawgBuildsRow.holds Try.pinned (OpenSpec.ofChange dawgBuildsWrong)

/-- 'hornbooklaw18.DawgAccepts': WHATEVER THE INPUT: true; the input reads as it did. -/
def dawgAcceptsSpec : ChangeSpec := { name := "dawgAccepts", fn := fun _ => fun
  | [d1, d2] => { results := [.lit (.bool true)], args := [d1, d2] }
  | _ => none }
def dawgAcceptsRow : OpenClaim := { program := "ytkgdlnnmkpgfdaa", sum := "e9ebe6125c8f298aa2a4bc77bcf2703bc6cb43588c76c677bef6b1147c1e68c8", func := "hornbook/hornbooklaw18.DawgAccepts", spec := "dawgAccepts", inPlace := ["internal/abi.NoEscape"], unfollowed := true, recurses := true, plainKeys := false, apart := false }
def DawgAcceptsSaid : Prop := dawgAcceptsRow.holds Try.pinned (OpenSpec.ofChange dawgAcceptsSpec)

/-- ITS FALSE NEIGHBOUR: 'it returns false'. Refute it at one input. -/
def dawgAcceptsWrong : ChangeSpec := { name := "dawgAccepts", fn := fun _ => fun
  | [d1, d2] => { results := [.lit (.bool false)], args := [d1, d2] }
  | _ => none }
def DawgAcceptsWrongFalsely : Prop := dawgAcceptsRow.holds Try.pinned (OpenSpec.ofChange dawgAcceptsWrong)

/-- 'hornbooklaw18.DawgLeast': WHATEVER THE INPUT: true; the input reads as it did. -/
def dawgLeastSpec : ChangeSpec := { name := "dawgLeast", fn := fun _ => fun
  | [d] => { results := [.lit (.bool true)], args := [d] }
  | _ => none }
def dawgLeastRow : OpenClaim := { program := "ytkgdlnnmkpgfdaa", sum := "e9ebe6125c8f298aa2a4bc77bcf2703bc6cb43588c76c677bef6b1147c1e68c8", func := "hornbook/hornbooklaw18.DawgLeast", spec := "dawgLeast", inPlace := ["internal/abi.NoEscape"], unfollowed := true, recurses := true, plainKeys := false, apart := false }
def DawgLeastSaid : Prop := dawgLeastRow.holds Try.pinned (OpenSpec.ofChange dawgLeastSpec)

/-- ITS FALSE NEIGHBOUR: 'it returns false'. Refute it at one input. -/
def dawgLeastWrong : ChangeSpec := { name := "dawgLeast", fn := fun _ => fun
  | [d] => { results := [.lit (.bool false)], args := [d] }
  | _ => none }
def DawgLeastWrongFalsely : Prop := dawgLeastRow.holds Try.pinned (OpenSpec.ofChange dawgLeastWrong)

/-- 'hornbooklaw18.DawgPieces': WHATEVER THE INPUT: true; the input reads as it did. -/
def dawgPiecesSpec : ChangeSpec := { name := "dawgPieces", fn := fun _ => fun
  | [d1, d2] => { results := [.lit (.bool true)], args := [d1, d2] }
  | _ => none }
def dawgPiecesRow : OpenClaim := { program := "ytkgdlnnmkpgfdaa", sum := "e9ebe6125c8f298aa2a4bc77bcf2703bc6cb43588c76c677bef6b1147c1e68c8", func := "hornbook/hornbooklaw18.DawgPieces", spec := "dawgPieces", inPlace := ["internal/abi.NoEscape"], unfollowed := true, recurses := true, plainKeys := false, apart := false }
def DawgPiecesSaid : Prop := dawgPiecesRow.holds Try.pinned (OpenSpec.ofChange dawgPiecesSpec)

/-- ITS FALSE NEIGHBOUR: 'it returns false'. Refute it at one input. -/
def dawgPiecesWrong : ChangeSpec := { name := "dawgPieces", fn := fun _ => fun
  | [d1, d2] => { results := [.lit (.bool false)], args := [d1, d2] }
  | _ => none }
def DawgPiecesWrongFalsely : Prop := dawgPiecesRow.holds Try.pinned (OpenSpec.ofChange dawgPiecesWrong)

/-- 'hornbooklaw18.DawgKeeps': WHATEVER THE INPUT: true; the input reads as it did. -/
def dawgKeepsSpec : ChangeSpec := { name := "dawgKeeps", fn := fun _ => fun
  | [d] => { results := [.lit (.bool true)], args := [d] }
  | _ => none }
def dawgKeepsRow : OpenClaim := { program := "ytkgdlnnmkpgfdaa", sum := "e9ebe6125c8f298aa2a4bc77bcf2703bc6cb43588c76c677bef6b1147c1e68c8", func := "hornbook/hornbooklaw18.DawgKeeps", spec := "dawgKeeps", inPlace := ["internal/abi.NoEscape"], unfollowed := true, recurses := true, plainKeys := false, apart := false }
def DawgKeepsSaid : Prop := dawgKeepsRow.holds Try.pinned (OpenSpec.ofChange dawgKeepsSpec)

/-- ITS FALSE NEIGHBOUR: 'it returns false'. Refute it at one input. -/
def dawgKeepsWrong : ChangeSpec := { name := "dawgKeeps", fn := fun _ => fun
  | [d] => { results := [.lit (.bool false)], args := [d] }
  | _ => none }
def DawgKeepsWrongFalsely : Prop := dawgKeepsRow.holds Try.pinned (OpenSpec.ofChange dawgKeepsWrong)

/-- 'hornbooklaw18.DawgPlays': WHATEVER THE INPUT: true; the input reads as it did. -/
def dawgPlaysSpec : ChangeSpec := { name := "dawgPlays", fn := fun _ => fun
  | [d1, d2] => { results := [.lit (.bool true)], args := [d1, d2] }
  | _ => none }
def dawgPlaysRow : OpenClaim := { program := "ytkgdlnnmkpgfdaa", sum := "e9ebe6125c8f298aa2a4bc77bcf2703bc6cb43588c76c677bef6b1147c1e68c8", func := "hornbook/hornbooklaw18.DawgPlays", spec := "dawgPlays", inPlace := ["internal/abi.NoEscape"], unfollowed := true, recurses := true, plainKeys := false, apart := false }
def DawgPlaysSaid : Prop := dawgPlaysRow.holds Try.pinned (OpenSpec.ofChange dawgPlaysSpec)

/-- ITS FALSE NEIGHBOUR: 'it returns false'. Refute it at one input. -/
def dawgPlaysWrong : ChangeSpec := { name := "dawgPlays", fn := fun _ => fun
  | [d1, d2] => { results := [.lit (.bool false)], args := [d1, d2] }
  | _ => none }
def DawgPlaysWrongFalsely : Prop := dawgPlaysRow.holds Try.pinned (OpenSpec.ofChange dawgPlaysWrong)

/-- 'hornbooklaw18.DawgTwins': WHATEVER THE INPUT: true; the input reads as it did. -/
def dawgTwinsSpec : ChangeSpec := { name := "dawgTwins", fn := fun _ => fun
  | [d1, d2] => { results := [.lit (.bool true)], args := [d1, d2] }
  | _ => none }
def dawgTwinsRow : OpenClaim := { program := "ytkgdlnnmkpgfdaa", sum := "e9ebe6125c8f298aa2a4bc77bcf2703bc6cb43588c76c677bef6b1147c1e68c8", func := "hornbook/hornbooklaw18.DawgTwins", spec := "dawgTwins", inPlace := ["internal/abi.NoEscape"], unfollowed := true, recurses := true, plainKeys := false, apart := false }
def DawgTwinsSaid : Prop := dawgTwinsRow.holds Try.pinned (OpenSpec.ofChange dawgTwinsSpec)

/-- ITS FALSE NEIGHBOUR: 'it returns false'. Refute it at one input. -/
def dawgTwinsWrong : ChangeSpec := { name := "dawgTwins", fn := fun _ => fun
  | [d1, d2] => { results := [.lit (.bool false)], args := [d1, d2] }
  | _ => none }
def DawgTwinsWrongFalsely : Prop := dawgTwinsRow.holds Try.pinned (OpenSpec.ofChange dawgTwinsWrong)

/- THE SECOND FORM. 'bulk': how many values and letters a reading holds, each counted each time it is reached (what is shared counts as often as it is met; a slice's spare places count too). A statement '..UptoSaid' is the law's where the arguments, and the package variables that the reading takes, are together of bulk at most 1048576: NARROWER than '..Said'. Prove '..Said' where nothing that the law and all that it calls make is longer than what came in: it says more and counts as full. Else prove '..UptoSaid'. A law counts once. -/
mutual
def uptoBulk {H : Type} : DataW H → Nat
  | .lit (.string bytes) => bytes.length + 1
  | .lit _ => 1
  | .nil => 1
  | .ptr d => uptoBulk d + 1
  | .slice elems spare => uptoBulkAll elems + uptoBulkAll spare + 1
  | .agg parts => uptoBulkAll parts + 1
  | .iface _ d => uptoBulk d + 1
  | .map entries => uptoBulkEntries entries + 1
  | .held _ => 1
def uptoBulkAll {H : Type} : List (DataW H) → Nat
  | [] => 0
  | d :: r => uptoBulk d + uptoBulkAll r
def uptoBulkEntries {H : Type} : List (Lit × DataW H) → Nat
  | [] => 0
  | x :: r => uptoBulkEntry x + uptoBulkEntries r
def uptoBulkEntry {H : Type} : Lit × DataW H → Nat
  | (.string bytes, d) => bytes.length + uptoBulk d + 1
  | (_, d) => uptoBulk d + 1
 end
def uptoSmall : (H : Type) → List (DataW H) → Bool := fun _ ds => decide (uptoBulkAll ds ≤ 1048576)
def OpenSpec.upto (s : _root_.Go.ChangeSpec) : _root_.Go.OpenSpec := { _root_.Go.OpenSpec.ofChange s with cond := some uptoSmall }

/-- 'hornbooklaw18.DawgBuilds', WHERE WHAT IT READS IS OF BULK AT MOST 1048576: true; the input reads as it did. -/
def dawgBuildsUptoRow : OpenClaim := { program := "ytkgdlnnmkpgfdaa", sum := "e9ebe6125c8f298aa2a4bc77bcf2703bc6cb43588c76c677bef6b1147c1e68c8", func := "hornbook/hornbooklaw18.DawgBuilds", spec := "dawgBuilds", inPlace := ["internal/abi.NoEscape"], unfollowed := true, recurses := true, plainKeys := false, apart := false, narrowed := true }
def DawgBuildsUptoSaid : Prop := dawgBuildsUptoRow.holds Try.pinned (OpenSpec.upto dawgBuildsSpec)

/-- 'hornbooklaw18.DawgAccepts', WHERE WHAT IT READS IS OF BULK AT MOST 1048576: true; the input reads as it did. -/
def dawgAcceptsUptoRow : OpenClaim := { program := "ytkgdlnnmkpgfdaa", sum := "e9ebe6125c8f298aa2a4bc77bcf2703bc6cb43588c76c677bef6b1147c1e68c8", func := "hornbook/hornbooklaw18.DawgAccepts", spec := "dawgAccepts", inPlace := ["internal/abi.NoEscape"], unfollowed := true, recurses := true, plainKeys := false, apart := false, narrowed := true }
def DawgAcceptsUptoSaid : Prop := dawgAcceptsUptoRow.holds Try.pinned (OpenSpec.upto dawgAcceptsSpec)

/-- 'hornbooklaw18.DawgLeast', WHERE WHAT IT READS IS OF BULK AT MOST 1048576: true; the input reads as it did. -/
def dawgLeastUptoRow : OpenClaim := { program := "ytkgdlnnmkpgfdaa", sum := "e9ebe6125c8f298aa2a4bc77bcf2703bc6cb43588c76c677bef6b1147c1e68c8", func := "hornbook/hornbooklaw18.DawgLeast", spec := "dawgLeast", inPlace := ["internal/abi.NoEscape"], unfollowed := true, recurses := true, plainKeys := false, apart := false, narrowed := true }
def DawgLeastUptoSaid : Prop := dawgLeastUptoRow.holds Try.pinned (OpenSpec.upto dawgLeastSpec)

/-- 'hornbooklaw18.DawgPieces', WHERE WHAT IT READS IS OF BULK AT MOST 1048576: true; the input reads as it did. -/
def dawgPiecesUptoRow : OpenClaim := { program := "ytkgdlnnmkpgfdaa", sum := "e9ebe6125c8f298aa2a4bc77bcf2703bc6cb43588c76c677bef6b1147c1e68c8", func := "hornbook/hornbooklaw18.DawgPieces", spec := "dawgPieces", inPlace := ["internal/abi.NoEscape"], unfollowed := true, recurses := true, plainKeys := false, apart := false, narrowed := true }
def DawgPiecesUptoSaid : Prop := dawgPiecesUptoRow.holds Try.pinned (OpenSpec.upto dawgPiecesSpec)

/-- 'hornbooklaw18.DawgKeeps', WHERE WHAT IT READS IS OF BULK AT MOST 1048576: true; the input reads as it did. -/
def dawgKeepsUptoRow : OpenClaim := { program := "ytkgdlnnmkpgfdaa", sum := "e9ebe6125c8f298aa2a4bc77bcf2703bc6cb43588c76c677bef6b1147c1e68c8", func := "hornbook/hornbooklaw18.DawgKeeps", spec := "dawgKeeps", inPlace := ["internal/abi.NoEscape"], unfollowed := true, recurses := true, plainKeys := false, apart := false, narrowed := true }
def DawgKeepsUptoSaid : Prop := dawgKeepsUptoRow.holds Try.pinned (OpenSpec.upto dawgKeepsSpec)

/-- 'hornbooklaw18.DawgPlays', WHERE WHAT IT READS IS OF BULK AT MOST 1048576: true; the input reads as it did. -/
def dawgPlaysUptoRow : OpenClaim := { program := "ytkgdlnnmkpgfdaa", sum := "e9ebe6125c8f298aa2a4bc77bcf2703bc6cb43588c76c677bef6b1147c1e68c8", func := "hornbook/hornbooklaw18.DawgPlays", spec := "dawgPlays", inPlace := ["internal/abi.NoEscape"], unfollowed := true, recurses := true, plainKeys := false, apart := false, narrowed := true }
def DawgPlaysUptoSaid : Prop := dawgPlaysUptoRow.holds Try.pinned (OpenSpec.upto dawgPlaysSpec)

/-- 'hornbooklaw18.DawgTwins', WHERE WHAT IT READS IS OF BULK AT MOST 1048576: true; the input reads as it did. -/
def dawgTwinsUptoRow : OpenClaim := { program := "ytkgdlnnmkpgfdaa", sum := "e9ebe6125c8f298aa2a4bc77bcf2703bc6cb43588c76c677bef6b1147c1e68c8", func := "hornbook/hornbooklaw18.DawgTwins", spec := "dawgTwins", inPlace := ["internal/abi.NoEscape"], unfollowed := true, recurses := true, plainKeys := false, apart := false, narrowed := true }
def DawgTwinsUptoSaid : Prop := dawgTwinsUptoRow.holds Try.pinned (OpenSpec.upto dawgTwinsSpec)

end Rows
end Go.Proofs.Ytkgdlnnmkpgfdaa
