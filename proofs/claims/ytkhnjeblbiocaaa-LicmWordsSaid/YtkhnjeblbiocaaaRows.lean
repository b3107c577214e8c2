/-
  No cell of these rows narrows 'for every input' (looked for: loops, veiled, ifaces, maps, wideKeys, modest, calm, conditions, laid).
  DERIVED. THE GIVEN ROWS OF THIS SEAT. 8 by the template 'for every input the law returns true; each argument reads behind the call as it read before'; 0 by the template 'total and deterministic' (their statements: YtkhnjeblbiocaaaTotals.lean).
  GIVEN WITH THE SEED: the statements are not yours to turn. If you find one false, say at which input.
  Laid BY PROGRAM, IN A SANDBOX (cutbox-rows.mjs): the forced cells as the released guide's own fill.sh prints them over the translation 84e050f126390249… (all of the seat's roots in one cut). By AI agents, Wed Nov 11 2026. No macro, syntax, notation, axiom, sorry.
-/
import Derived.Test.YtkhnjeblbiocaaaChecked
import GoSem.Claim
import GoSem.ClaimJoined
import GoSem.ClaimMapViews
import Derived.JoinedTies
import Derived.KernelRfl
namespace Go.Proofs.Ytkhnjeblbiocaaa
/- THE CELL 'sum', in the pinned program and in every row, IS THE sha256 OF THE DUMP (.gsa) THAT YtkhnjeblbiocaaaProg.lean LOADS. Nothing in Lean hashes anything: it is a label: what it is worth is what the hold of that sum in a sandbox is worth. -/
noncomputable def Try.pinned : Pinned := { name := "ytkhnjeblbiocaaa", sum := "84e050f1263902498c275b0ea2c081ec173d63310279380e45915d6bf091e957", checked := Try.checked }
namespace Rows
def none {H : Type} : Left H := { results := [], args := [] }

/-- 'provenancekeep3.SsaRenames': WHATEVER THE INPUT: true; the input reads as it did. -/
def ssaRenamesSpec : ChangeSpec := { name := "ssaRenames", fn := fun _ => fun
  | [d1, d2] => { results := [.lit (.bool true)], args := [d1, d2] }
  | _ => none }
def ssaRenamesRow : OpenClaim := { program := "ytkhnjeblbiocaaa", sum := "84e050f1263902498c275b0ea2c081ec173d63310279380e45915d6bf091e957", func := "provenance/provenancekeep3.SsaRenames", spec := "ssaRenames", unfollowed := true, recurses := true, apart := false }
def SsaRenamesSaid : Prop := ssaRenamesRow.holds Try.pinned (OpenSpec.ofChange ssaRenamesSpec)

/-- ITS FALSE NEIGHBOUR: 'it returns false'. Refute it at one input. -/
def ssaRenamesWrong : ChangeSpec := { name := "ssaRenames", fn := fun _ => fun
  | [d1, d2] => { results := [.lit (.bool false)], args := [d1, d2] }
  | _ => none }
def SsaRenamesWrongFalsely : Prop := ssaRenamesRow.holds Try.pinned (OpenSpec.ofChange ssaRenamesWrong)

/-- 'provenancekeep3.SsaOrder': WHATEVER THE INPUT: true; the input reads as it did. -/
def ssaOrderSpec : ChangeSpec := { name := "ssaOrder", fn := fun _ => fun
  | [d] => { results := [.lit (.bool true)], args := [d] }
  | _ => none }
def ssaOrderRow : OpenClaim := { program := "ytkhnjeblbiocaaa", sum := "84e050f1263902498c275b0ea2c081ec173d63310279380e45915d6bf091e957", func := "provenance/provenancekeep3.SsaOrder", spec := "ssaOrder", unfollowed := true, recurses := true, apart := false }
def SsaOrderSaid : Prop := ssaOrderRow.holds Try.pinned (OpenSpec.ofChange ssaOrderSpec)

/-- ITS FALSE NEIGHBOUR: 'it returns false'. Refute it at one input. -/
def ssaOrderWrong : ChangeSpec := { name := "ssaOrder", fn := fun _ => fun
  | [d] => { results := [.lit (.bool false)], args := [d] }
  | _ => none }
def SsaOrderWrongFalsely : Prop := ssaOrderRow.holds Try.pinned (OpenSpec.ofChange ssaOrderWrong)

/-- 'provenancekeep3.SsaUnused': WHATEVER THE INPUT: true; the input reads as it did. -/
def ssaUnusedSpec : ChangeSpec := { name := "ssaUnused", fn := fun _ => fun
  | [d1, d2] => { results := [.lit (.bool true)], args := [d1, d2] }
  | _ => none }
def ssaUnusedRow : OpenClaim := { program := "ytkhnjeblbiocaaa", sum := "84e050f1263902498c275b0ea2c081ec173d63310279380e45915d6bf091e957", func := "provenance/provenancekeep3.SsaUnused", spec := "ssaUnused", unfollowed := true, recurses := true, apart := false }
def SsaUnusedSaid : Prop := ssaUnusedRow.holds Try.pinned (OpenSpec.ofChange ssaUnusedSpec)

/-- ITS FALSE NEIGHBOUR: 'it returns false'. Refute it at one input. -/
def ssaUnusedWrong : ChangeSpec := { name := "ssaUnused", fn := fun _ => fun
  | [d1, d2] => { results := [.lit (.bool false)], args := [d1, d2] }
  | _ => none }
def SsaUnusedWrongFalsely : Prop := ssaUnusedRow.holds Try.pinned (OpenSpec.ofChange ssaUnusedWrong)

/-- 'provenancekeep3.CfgSplits': WHATEVER THE INPUT: true; the input reads as it did. -/
def cfgSplitsSpec : ChangeSpec := { name := "cfgSplits", fn := fun _ => fun
  | [d] => { results := [.lit (.bool true)], args := [d] }
  | _ => none }
def cfgSplitsRow : OpenClaim := { program := "ytkhnjeblbiocaaa", sum := "84e050f1263902498c275b0ea2c081ec173d63310279380e45915d6bf091e957", func := "provenance/provenancekeep3.CfgSplits", spec := "cfgSplits", unfollowed := true, recurses := true, apart := false }
def CfgSplitsSaid : Prop := cfgSplitsRow.holds Try.pinned (OpenSpec.ofChange cfgSplitsSpec)

/-- ITS FALSE NEIGHBOUR: 'it returns false'. Refute it at one input. -/
def cfgSplitsWrong : ChangeSpec := { name := "cfgSplits", fn := fun _ => fun
  | [d] => { results := [.lit (.bool false)], args := [d] }
  | _ => none }
def CfgSplitsWrongFalsely : Prop := cfgSplitsRow.holds Try.pinned (OpenSpec.ofChange cfgSplitsWrong)

/-- 'provenancekeep3.MovesCopies': WHATEVER THE INPUT: true; the input reads as it did. -/
def movesCopiesSpec : ChangeSpec := { name := "movesCopies", fn := fun _ => fun
  | [d1, d2] => { results := [.lit (.bool true)], args := [d1, d2] }
  | _ => none }
def movesCopiesRow : OpenClaim := { program := "ytkhnjeblbiocaaa", sum := "84e050f1263902498c275b0ea2c081ec173d63310279380e45915d6bf091e957", func := "provenance/provenancekeep3.MovesCopies", spec := "movesCopies", unfollowed := true, recurses := true, apart := false }
def MovesCopiesSaid : Prop := movesCopiesRow.holds Try.pinned (OpenSpec.ofChange movesCopiesSpec)

/-- ITS FALSE NEIGHBOUR: 'it returns false'. Refute it at one input. -/
def movesCopiesWrong : ChangeSpec := { name := "movesCopies", fn := fun _ => fun
  | [d1, d2] => { results := [.lit (.bool false)], args := [d1, d2] }
  | _ => none }
def MovesCopiesWrongFalsely : Prop := movesCopiesRow.holds Try.pinned (OpenSpec.ofChange movesCopiesWrong)

/-- 'provenancekeep3.MovesBare': WHATEVER THE INPUT: true; the input reads as it did. -/
def movesBareSpec : ChangeSpec := { name := "movesBare", fn := fun _ => fun
  | [d] => { results := [.lit (.bool true)], args := [d] }
  | _ => none }
def movesBareRow : OpenClaim := { program := "ytkhnjeblbiocaaa", sum := "84e050f1263902498c275b0ea2c081ec173d63310279380e45915d6bf091e957", func := "provenance/provenancekeep3.MovesBare", spec := "movesBare", unfollowed := true, recurses := true, apart := false }
def MovesBareSaid : Prop := movesBareRow.holds Try.pinned (OpenSpec.ofChange movesBareSpec)

/-- ITS FALSE NEIGHBOUR: 'it returns false'. Refute it at one input. -/
def movesBareWrong : ChangeSpec := { name := "movesBare", fn := fun _ => fun
  | [d] => { results := [.lit (.bool false)], args := [d] }
  | _ => none }
def MovesBareWrongFalsely : Prop := movesBareRow.holds Try.pinned (OpenSpec.ofChange movesBareWrong)

/-- 'provenancekeep3.MovesLeaves': WHATEVER THE INPUT: true; the input reads as it did. -/
def movesLeavesSpec : ChangeSpec := { name := "movesLeaves", fn := fun _ => fun
  | [d] => { results := [.lit (.bool true)], args := [d] }
  | _ => none }
def movesLeavesRow : OpenClaim := { program := "ytkhnjeblbiocaaa", sum := "84e050f1263902498c275b0ea2c081ec173d63310279380e45915d6bf091e957", func := "provenance/provenancekeep3.MovesLeaves", spec := "movesLeaves", unfollowed := true, recurses := true, apart := false }
def MovesLeavesSaid : Prop := movesLeavesRow.holds Try.pinned (OpenSpec.ofChange movesLeavesSpec)

/-- ITS FALSE NEIGHBOUR: 'it returns false'. Refute it at one input. -/
def movesLeavesWrong : ChangeSpec := { name := "movesLeaves", fn := fun _ => fun
  | [d] => { results := [.lit (.bool false)], args := [d] }
  | _ => none }
def MovesLeavesWrongFalsely : Prop := movesLeavesRow.holds Try.pinned (OpenSpec.ofChange movesLeavesWrong)

/-- 'provenancekeep3.LicmWords': WHATEVER THE INPUT: true; the input reads as it did. -/
def licmWordsSpec : ChangeSpec := { name := "licmWords", fn := fun _ => fun
  | [d] => { results := [.lit (.bool true)], args := [d] }
  | _ => none }
def licmWordsRow : OpenClaim := { program := "ytkhnjeblbiocaaa", sum := "84e050f1263902498c275b0ea2c081ec173d63310279380e45915d6bf091e957", func := "provenance/provenancekeep3.LicmWords", spec := "licmWords", unfollowed := true, recurses := true, apart := false }
def LicmWordsSaid : Prop := licmWordsRow.holds Try.pinned (OpenSpec.ofChange licmWordsSpec)

/-- ITS FALSE NEIGHBOUR: 'it returns false'. Refute it at one input. -/
def licmWordsWrong : ChangeSpec := { name := "licmWords", fn := fun _ => fun
  | [d] => { results := [.lit (.bool false)], args := [d] }
  | _ => none }
def LicmWordsWrongFalsely : Prop := licmWordsRow.holds Try.pinned (OpenSpec.ofChange licmWordsWrong)

/- THE SECOND FORM. 'bulk': how many values and letters a reading holds, each counted each time it is reached (what is shared counts as often as it is met; a slice's spare places count too). A statement '..UptoSaid' is the law's where the arguments, and the package variables that the reading takes, are together of bulk at most 1048576: NARROWER than '..Said'. Prove '..Said' where nothing that the law and all that it calls make is longer than what came in: it says more and counts as full. Else prove '..UptoSaid'. A law counts once. -/
mutual
def uptoBulk {H : Type} : DataW H → Nat
  | .lit (.string bytes) => bytes.length + 1
  | .lit _ => 1
  | .nil => 1
  | .ptr d => uptoBulk d + 1
  | .slice elems spare => uptoBulkAll elems + uptoBulkAll spare + 1
  | .agg parts => uptoBulkAll parts + 1
  | .iface _ d => uptoBulk d + 1
  | .map entries => uptoBulkEntries entries + 1
  | .held _ => 1
def uptoBulkAll {H : Type} : List (DataW H) → Nat
  | [] => 0
  | d :: r => uptoBulk d + uptoBulkAll r
def uptoBulkEntries {H : Type} : List (Lit × DataW H) → Nat
  | [] => 0
  | x :: r => uptoBulkEntry x + uptoBulkEntries r
def uptoBulkEntry {H : Type} : Lit × DataW H → Nat
  | (.string bytes, d) => bytes.length + uptoBulk d + 1
  | (_, d) => uptoBulk d + 1
 end
def uptoSmall : (H : Type) → List (DataW H) → Bool := fun _ ds => decide (uptoBulkAll ds ≤ 1048576)
def OpenSpec.upto (s : _root_.Go.ChangeSpec) : _root_.Go.OpenSpec := { _root_.Go.OpenSpec.ofChange s with cond := some uptoSmall }

/-- 'provenancekeep3.SsaRenames', WHERE WHAT IT READS IS OF BULK AT MOST 1048576: true; the input reads as it did. -/
def ssaRenamesUptoRow : OpenClaim := { program := "ytkhnjeblbiocaaa", sum := "84e050f1263902498c275b0ea2c081ec173d63310279380e45915d6bf091e957", func := "provenance/provenancekeep3.SsaRenames", spec := "ssaRenames", unfollowed := true, recurses := true, apart := false, narrowed := true }
def SsaRenamesUptoSaid : Prop := ssaRenamesUptoRow.holds Try.pinned (OpenSpec.upto ssaRenamesSpec)

/-- 'provenancekeep3.SsaOrder', WHERE WHAT IT READS IS OF BULK AT MOST 1048576: true; the input reads as it did. -/
def ssaOrderUptoRow : OpenClaim := { program := "ytkhnjeblbiocaaa", sum := "84e050f1263902498c275b0ea2c081ec173d63310279380e45915d6bf091e957", func := "provenance/provenancekeep3.SsaOrder", spec := "ssaOrder", unfollowed := true, recurses := true, apart := false, narrowed := true }
def SsaOrderUptoSaid : Prop := ssaOrderUptoRow.holds Try.pinned (OpenSpec.upto ssaOrderSpec)

/-- 'provenancekeep3.SsaUnused', WHERE WHAT IT READS IS OF BULK AT MOST 1048576: true; the input reads as it did. -/
def ssaUnusedUptoRow : OpenClaim := { program := "ytkhnjeblbiocaaa", sum := "84e050f1263902498c275b0ea2c081ec173d63310279380e45915d6bf091e957", func := "provenance/provenancekeep3.SsaUnused", spec := "ssaUnused", unfollowed := true, recurses := true, apart := false, narrowed := true }
def SsaUnusedUptoSaid : Prop := ssaUnusedUptoRow.holds Try.pinned (OpenSpec.upto ssaUnusedSpec)

/-- 'provenancekeep3.CfgSplits', WHERE WHAT IT READS IS OF BULK AT MOST 1048576: true; the input reads as it did. -/
def cfgSplitsUptoRow : OpenClaim := { program := "ytkhnjeblbiocaaa", sum := "84e050f1263902498c275b0ea2c081ec173d63310279380e45915d6bf091e957", func := "provenance/provenancekeep3.CfgSplits", spec := "cfgSplits", unfollowed := true, recurses := true, apart := false, narrowed := true }
def CfgSplitsUptoSaid : Prop := cfgSplitsUptoRow.holds Try.pinned (OpenSpec.upto cfgSplitsSpec)

/-- 'provenancekeep3.MovesCopies', WHERE WHAT IT READS IS OF BULK AT MOST 1048576: true; the input reads as it did. -/
def movesCopiesUptoRow : OpenClaim := { program := "ytkhnjeblbiocaaa", sum := "84e050f1263902498c275b0ea2c081ec173d63310279380e45915d6bf091e957", func := "provenance/provenancekeep3.MovesCopies", spec := "movesCopies", unfollowed := true, recurses := true, apart := false, narrowed := true }
def MovesCopiesUptoSaid : Prop := movesCopiesUptoRow.holds Try.pinned (OpenSpec.upto movesCopiesSpec)

/-- 'provenancekeep3.MovesBare', WHERE WHAT IT READS IS OF BULK AT MOST 1048576: true; the input reads as it did. -/
def movesBareUptoRow : OpenClaim := { program := "ytkhnjeblbiocaaa", sum := "84e050f1263902498c275b0ea2c081ec173d63310279380e45915d6bf091e957", func := "provenance/provenancekeep3.MovesBare", spec := "movesBare", unfollowed := true, recurses := true, apart := false, narrowed := true }
def MovesBareUptoSaid : Prop := movesBareUptoRow.holds Try.pinned (OpenSpec.upto movesBareSpec)

/-- 'provenancekeep3.MovesLeaves', WHERE WHAT IT READS IS OF BULK AT MOST 1048576: true; the input reads as it did. -/
def movesLeavesUptoRow : OpenClaim := { program := "ytkhnjeblbiocaaa", sum := "84e050f1263902498c275b0ea2c081ec173d63310279380e45915d6bf091e957", func := "provenance/provenancekeep3.MovesLeaves", spec := "movesLeaves", unfollowed := true, recurses := true, apart := false, narrowed := true }
def MovesLeavesUptoSaid : Prop := movesLeavesUptoRow.holds Try.pinned (OpenSpec.upto movesLeavesSpec)

/-- 'provenancekeep3.LicmWords', WHERE WHAT IT READS IS OF BULK AT MOST 1048576: true; the input reads as it did. -/
def licmWordsUptoRow : OpenClaim := { program := "ytkhnjeblbiocaaa", sum := "84e050f1263902498c275b0ea2c081ec173d63310279380e45915d6bf091e957", func := "provenance/provenancekeep3.LicmWords", spec := "licmWords", unfollowed := true, recurses := true, apart := false, narrowed := true }
def LicmWordsUptoSaid : Prop := licmWordsUptoRow.holds Try.pinned (OpenSpec.upto licmWordsSpec)

end Rows
end Go.Proofs.Ytkhnjeblbiocaaa
