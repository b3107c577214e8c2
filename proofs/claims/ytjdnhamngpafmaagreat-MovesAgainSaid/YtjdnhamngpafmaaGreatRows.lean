/-
  No cell of these rows narrows 'for every input' (looked for: loops, veiled, ifaces, maps, wideKeys, modest, calm, conditions, laid).
  DERIVED. THE GIVEN ROWS OF THIS SEAT. 5 by the template 'for every input the law returns true; each argument reads behind the call as it read before'; 0 by the template 'total and deterministic' (their statements: YtjdnhamngpafmaaGreatTotals.lean).
  GIVEN WITH THE SEED: the statements are not yours to turn. If you find one false, say at which input.
  Laid BY PROGRAM, IN A SANDBOX (cutbox-rows.mjs): the forced cells as the released guide's own fill.sh prints them over the translation 2ce6e075d34d4c35… (all of the seat's roots in one cut). By AI agents, Wed Nov 11 2026. No macro, syntax, notation, axiom, sorry.
-/
import Derived.Test.YtjdnhamngpafmaaGreatChecked
import GoSem.Claim
import GoSem.ClaimJoined
import GoSem.ClaimMapViews
import Derived.JoinedTies
import Derived.KernelRfl
namespace Go.Proofs.YtjdnhamngpafmaaGreat
/- THE CELL 'sum', in the pinned program and in every row, IS THE sha256 OF THE DUMP (.gsa) THAT YtjdnhamngpafmaaGreatProg.lean LOADS. Nothing in Lean hashes anything: it is a label: what it is worth is what the hold of that sum in a sandbox is worth. -/
noncomputable def Tryz.pinned : Pinned := { name := "ytjdnhamngpafmaagreat", sum := "2ce6e075d34d4c35f1ab1a85246f58ce116344a62f0d2365895fe52c3f3a94e3", checked := Tryz.checked }
namespace Rows
def none {H : Type} : Left H := { results := [], args := [] }

/-- 'provenancekeep3.LoopsEntered': WHATEVER THE INPUT: true; the input reads as it did. -/
def loopsEnteredSpec : ChangeSpec := { name := "loopsEntered", fn := fun _ => fun
  | [d] => { results := [.lit (.bool true)], args := [d] }
  | _ => none }
def loopsEnteredRow : OpenClaim := { program := "ytjdnhamngpafmaagreat", sum := "2ce6e075d34d4c35f1ab1a85246f58ce116344a62f0d2365895fe52c3f3a94e3", func := "provenance/provenancekeep3.LoopsEntered", spec := "loopsEntered", unfollowed := true, recurses := true, apart := false }
def LoopsEnteredSaid : Prop := loopsEnteredRow.holds Tryz.pinned (OpenSpec.ofChange loopsEnteredSpec)

/-- ITS FALSE NEIGHBOUR: 'it returns false'. Refute it at one input. -/
def loopsEnteredWrong : ChangeSpec := { name := "loopsEntered", fn := fun _ => fun
  | [d] => { results := [.lit (.bool false)], args := [d] }
  | _ => none }
def LoopsEnteredWrongFalsely : Prop := loopsEnteredRow.holds Tryz.pinned (OpenSpec.ofChange loopsEnteredWrong)

/-- 'provenancekeep3.LoopsReducible': WHATEVER THE INPUT: true; the input reads as it did. -/
def loopsReducibleSpec : ChangeSpec := { name := "loopsReducible", fn := fun _ => fun
  | [d] => { results := [.lit (.bool true)], args := [d] }
  | _ => none }
def loopsReducibleRow : OpenClaim := { program := "ytjdnhamngpafmaagreat", sum := "2ce6e075d34d4c35f1ab1a85246f58ce116344a62f0d2365895fe52c3f3a94e3", func := "provenance/provenancekeep3.LoopsReducible", spec := "loopsReducible", unfollowed := true, recurses := true, apart := false }
def LoopsReducibleSaid : Prop := loopsReducibleRow.holds Tryz.pinned (OpenSpec.ofChange loopsReducibleSpec)

/-- ITS FALSE NEIGHBOUR: 'it returns false'. Refute it at one input. -/
def loopsReducibleWrong : ChangeSpec := { name := "loopsReducible", fn := fun _ => fun
  | [d] => { results := [.lit (.bool false)], args := [d] }
  | _ => none }
def LoopsReducibleWrongFalsely : Prop := loopsReducibleRow.holds Tryz.pinned (OpenSpec.ofChange loopsReducibleWrong)

/-- 'provenancekeep3.MovesClean': WHATEVER THE INPUT: true; the input reads as it did. -/
def movesCleanSpec : ChangeSpec := { name := "movesClean", fn := fun _ => fun
  | [d] => { results := [.lit (.bool true)], args := [d] }
  | _ => none }
def movesCleanRow : OpenClaim := { program := "ytjdnhamngpafmaagreat", sum := "2ce6e075d34d4c35f1ab1a85246f58ce116344a62f0d2365895fe52c3f3a94e3", func := "provenance/provenancekeep3.MovesClean", spec := "movesClean", unfollowed := true, recurses := true, apart := false }
def MovesCleanSaid : Prop := movesCleanRow.holds Tryz.pinned (OpenSpec.ofChange movesCleanSpec)

/-- ITS FALSE NEIGHBOUR: 'it returns false'. Refute it at one input. -/
def movesCleanWrong : ChangeSpec := { name := "movesClean", fn := fun _ => fun
  | [d] => { results := [.lit (.bool false)], args := [d] }
  | _ => none }
def MovesCleanWrongFalsely : Prop := movesCleanRow.holds Tryz.pinned (OpenSpec.ofChange movesCleanWrong)

/-- 'provenancekeep3.MovesEnters': WHATEVER THE INPUT: true; the input reads as it did. -/
def movesEntersSpec : ChangeSpec := { name := "movesEnters", fn := fun _ => fun
  | [d] => { results := [.lit (.bool true)], args := [d] }
  | _ => none }
def movesEntersRow : OpenClaim := { program := "ytjdnhamngpafmaagreat", sum := "2ce6e075d34d4c35f1ab1a85246f58ce116344a62f0d2365895fe52c3f3a94e3", func := "provenance/provenancekeep3.MovesEnters", spec := "movesEnters", unfollowed := true, recurses := true, apart := false }
def MovesEntersSaid : Prop := movesEntersRow.holds Tryz.pinned (OpenSpec.ofChange movesEntersSpec)

/-- ITS FALSE NEIGHBOUR: 'it returns false'. Refute it at one input. -/
def movesEntersWrong : ChangeSpec := { name := "movesEnters", fn := fun _ => fun
  | [d] => { results := [.lit (.bool false)], args := [d] }
  | _ => none }
def MovesEntersWrongFalsely : Prop := movesEntersRow.holds Tryz.pinned (OpenSpec.ofChange movesEntersWrong)

/-- 'provenancekeep3.MovesAgain': WHATEVER THE INPUT: true; the input reads as it did. -/
def movesAgainSpec : ChangeSpec := { name := "movesAgain", fn := fun _ => fun
  | [d] => { results := [.lit (.bool true)], args := [d] }
  | _ => none }
def movesAgainRow : OpenClaim := { program := "ytjdnhamngpafmaagreat", sum := "2ce6e075d34d4c35f1ab1a85246f58ce116344a62f0d2365895fe52c3f3a94e3", func := "provenance/provenancekeep3.MovesAgain", spec := "movesAgain", unfollowed := true, recurses := true, apart := false }
def MovesAgainSaid : Prop := movesAgainRow.holds Tryz.pinned (OpenSpec.ofChange movesAgainSpec)

/-- ITS FALSE NEIGHBOUR: 'it returns false'. Refute it at one input. -/
def movesAgainWrong : ChangeSpec := { name := "movesAgain", fn := fun _ => fun
  | [d] => { results := [.lit (.bool false)], args := [d] }
  | _ => none }
def MovesAgainWrongFalsely : Prop := movesAgainRow.holds Tryz.pinned (OpenSpec.ofChange movesAgainWrong)

/- THE SECOND FORM. 'bulk': how many values and letters a reading holds, each counted each time it is reached (what is shared counts as often as it is met; a slice's spare places count too). A statement '..UptoSaid' is the law's where the arguments, and the package variables that the reading takes, are together of bulk at most 1048576: NARROWER than '..Said'. Prove '..Said' where nothing that the law and all that it calls make is longer than what came in: it says more and counts as full. Else prove '..UptoSaid'. A law counts once. -/
mutual
def uptoBulk {H : Type} : DataW H → Nat
  | .lit (.string bytes) => bytes.length + 1
  | .lit _ => 1
  | .nil => 1
  | .ptr d => uptoBulk d + 1
  | .slice elems spare => uptoBulkAll elems + uptoBulkAll spare + 1
  | .agg parts => uptoBulkAll parts + 1
  | .iface _ d => uptoBulk d + 1
  | .map entries => uptoBulkEntries entries + 1
  | .held _ => 1
def uptoBulkAll {H : Type} : List (DataW H) → Nat
  | [] => 0
  | d :: r => uptoBulk d + uptoBulkAll r
def uptoBulkEntries {H : Type} : List (Lit × DataW H) → Nat
  | [] => 0
  | x :: r => uptoBulkEntry x + uptoBulkEntries r
def uptoBulkEntry {H : Type} : Lit × DataW H → Nat
  | (.string bytes, d) => bytes.length + uptoBulk d + 1
  | (_, d) => uptoBulk d + 1
 end
def uptoSmall : (H : Type) → List (DataW H) → Bool := fun _ ds => decide (uptoBulkAll ds ≤ 1048576)
def OpenSpec.upto (s : _root_.Go.ChangeSpec) : _root_.Go.OpenSpec := { _root_.Go.OpenSpec.ofChange s with cond := some uptoSmall }

/-- 'provenancekeep3.LoopsEntered', WHERE WHAT IT READS IS OF BULK AT MOST 1048576: true; the input reads as it did. -/
def loopsEnteredUptoRow : OpenClaim := { program := "ytjdnhamngpafmaagreat", sum := "2ce6e075d34d4c35f1ab1a85246f58ce116344a62f0d2365895fe52c3f3a94e3", func := "provenance/provenancekeep3.LoopsEntered", spec := "loopsEntered", unfollowed := true, recurses := true, apart := false, narrowed := true }
def LoopsEnteredUptoSaid : Prop := loopsEnteredUptoRow.holds Tryz.pinned (OpenSpec.upto loopsEnteredSpec)

/-- 'provenancekeep3.LoopsReducible', WHERE WHAT IT READS IS OF BULK AT MOST 1048576: true; the input reads as it did. -/
def loopsReducibleUptoRow : OpenClaim := { program := "ytjdnhamngpafmaagreat", sum := "2ce6e075d34d4c35f1ab1a85246f58ce116344a62f0d2365895fe52c3f3a94e3", func := "provenance/provenancekeep3.LoopsReducible", spec := "loopsReducible", unfollowed := true, recurses := true, apart := false, narrowed := true }
def LoopsReducibleUptoSaid : Prop := loopsReducibleUptoRow.holds Tryz.pinned (OpenSpec.upto loopsReducibleSpec)

/-- 'provenancekeep3.MovesClean', WHERE WHAT IT READS IS OF BULK AT MOST 1048576: true; the input reads as it did. -/
def movesCleanUptoRow : OpenClaim := { program := "ytjdnhamngpafmaagreat", sum := "2ce6e075d34d4c35f1ab1a85246f58ce116344a62f0d2365895fe52c3f3a94e3", func := "provenance/provenancekeep3.MovesClean", spec := "movesClean", unfollowed := true, recurses := true, apart := false, narrowed := true }
def MovesCleanUptoSaid : Prop := movesCleanUptoRow.holds Tryz.pinned (OpenSpec.upto movesCleanSpec)

/-- 'provenancekeep3.MovesEnters', WHERE WHAT IT READS IS OF BULK AT MOST 1048576: true; the input reads as it did. -/
def movesEntersUptoRow : OpenClaim := { program := "ytjdnhamngpafmaagreat", sum := "2ce6e075d34d4c35f1ab1a85246f58ce116344a62f0d2365895fe52c3f3a94e3", func := "provenance/provenancekeep3.MovesEnters", spec := "movesEnters", unfollowed := true, recurses := true, apart := false, narrowed := true }
def MovesEntersUptoSaid : Prop := movesEntersUptoRow.holds Tryz.pinned (OpenSpec.upto movesEntersSpec)

/-- 'provenancekeep3.MovesAgain', WHERE WHAT IT READS IS OF BULK AT MOST 1048576: true; the input reads as it did. -/
def movesAgainUptoRow : OpenClaim := { program := "ytjdnhamngpafmaagreat", sum := "2ce6e075d34d4c35f1ab1a85246f58ce116344a62f0d2365895fe52c3f3a94e3", func := "provenance/provenancekeep3.MovesAgain", spec := "movesAgain", unfollowed := true, recurses := true, apart := false, narrowed := true }
def MovesAgainUptoSaid : Prop := movesAgainUptoRow.holds Tryz.pinned (OpenSpec.upto movesAgainSpec)

end Rows
end Go.Proofs.YtjdnhamngpafmaaGreat
