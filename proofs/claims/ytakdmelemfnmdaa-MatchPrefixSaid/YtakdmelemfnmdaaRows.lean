/-
  NARROWER THAN 'FOR EVERY INPUT', by the rows' own cells (each row's printed sentence says how): PatternsTurned: loops · PatternsMore: loops · PatternsDrop: loops · PatternsNames: loops · MatchDepth: loops · MatchRows: loops · MatchOnce: loops · MatchPrefix: loops.
  DERIVED. THE GIVEN ROWS OF THIS SEAT. 8 by the template 'for every input the law returns true; each argument reads behind the call as it read before'; 0 by the template 'total and deterministic' (their statements: YtakdmelemfnmdaaTotals.lean).
  GIVEN WITH THE SEED: the statements are not yours to turn. If you find one false, say at which input.
  Laid BY PROGRAM, IN A SANDBOX (cutbox-rows.mjs): the forced cells as the released guide's own fill.sh prints them over the translation 534eceda2c710f07… (all of the seat's roots in one cut). By AI agents, Wed Nov 11 2026. No macro, syntax, notation, axiom, sorry.
-/
import Derived.Test.YtakdmelemfnmdaaChecked
import GoSem.Claim
import GoSem.ClaimJoined
import GoSem.ClaimMapViews
import Derived.JoinedTies
import Derived.KernelRfl
namespace Go.Proofs.Ytakdmelemfnmdaa
/- THE CELL 'sum', in the pinned program and in every row, IS THE sha256 OF THE DUMP (.gsa) THAT YtakdmelemfnmdaaProg.lean LOADS. Nothing in Lean hashes anything: it is a label: what it is worth is what the hold of that sum in a sandbox is worth. -/
noncomputable def Try.pinned : Pinned := { name := "ytakdmelemfnmdaa", sum := "534eceda2c710f07fa07d9f772b3fd55a2b39cecb65021bd2bdc4257e5039a29", checked := Try.checked }
namespace Rows
def none {H : Type} : Left H := { results := [], args := [] }

/-- 'provenancekeep3.PatternsTurned': WHATEVER THE INPUT: true; the input reads as it did. -/
def patternsTurnedSpec : ChangeSpec := { name := "patternsTurned", fn := fun _ => fun
  | [d1, d2, d3] => { results := [.lit (.bool true)], args := [d1, d2, d3] }
  | _ => none }
def patternsTurnedRow : OpenClaim := { program := "ytakdmelemfnmdaa", sum := "534eceda2c710f07fa07d9f772b3fd55a2b39cecb65021bd2bdc4257e5039a29", func := "provenance/provenancekeep3.PatternsTurned", spec := "patternsTurned", unfollowed := true, recurses := true, loops := true, apart := false }
def PatternsTurnedSaid : Prop := patternsTurnedRow.holds Try.pinned (OpenSpec.ofChange patternsTurnedSpec)

/-- ITS FALSE NEIGHBOUR: 'it returns false'. Refute it at one input. -/
def patternsTurnedWrong : ChangeSpec := { name := "patternsTurned", fn := fun _ => fun
  | [d1, d2, d3] => { results := [.lit (.bool false)], args := [d1, d2, d3] }
  | _ => none }
def PatternsTurnedWrongFalsely : Prop := patternsTurnedRow.holds Try.pinned (OpenSpec.ofChange patternsTurnedWrong)

/-- 'provenancekeep3.PatternsMore': WHATEVER THE INPUT: true; the input reads as it did. -/
def patternsMoreSpec : ChangeSpec := { name := "patternsMore", fn := fun _ => fun
  | [d1, d2, d3] => { results := [.lit (.bool true)], args := [d1, d2, d3] }
  | _ => none }
def patternsMoreRow : OpenClaim := { program := "ytakdmelemfnmdaa", sum := "534eceda2c710f07fa07d9f772b3fd55a2b39cecb65021bd2bdc4257e5039a29", func := "provenance/provenancekeep3.PatternsMore", spec := "patternsMore", unfollowed := true, recurses := true, loops := true, apart := false }
def PatternsMoreSaid : Prop := patternsMoreRow.holds Try.pinned (OpenSpec.ofChange patternsMoreSpec)

/-- ITS FALSE NEIGHBOUR: 'it returns false'. Refute it at one input. -/
def patternsMoreWrong : ChangeSpec := { name := "patternsMore", fn := fun _ => fun
  | [d1, d2, d3] => { results := [.lit (.bool false)], args := [d1, d2, d3] }
  | _ => none }
def PatternsMoreWrongFalsely : Prop := patternsMoreRow.holds Try.pinned (OpenSpec.ofChange patternsMoreWrong)

/-- 'provenancekeep3.PatternsDrop': WHATEVER THE INPUT: true; the input reads as it did. -/
def patternsDropSpec : ChangeSpec := { name := "patternsDrop", fn := fun _ => fun
  | [d1, d2] => { results := [.lit (.bool true)], args := [d1, d2] }
  | _ => none }
def patternsDropRow : OpenClaim := { program := "ytakdmelemfnmdaa", sum := "534eceda2c710f07fa07d9f772b3fd55a2b39cecb65021bd2bdc4257e5039a29", func := "provenance/provenancekeep3.PatternsDrop", spec := "patternsDrop", unfollowed := true, recurses := true, loops := true, apart := false }
def PatternsDropSaid : Prop := patternsDropRow.holds Try.pinned (OpenSpec.ofChange patternsDropSpec)

/-- ITS FALSE NEIGHBOUR: 'it returns false'. Refute it at one input. -/
def patternsDropWrong : ChangeSpec := { name := "patternsDrop", fn := fun _ => fun
  | [d1, d2] => { results := [.lit (.bool false)], args := [d1, d2] }
  | _ => none }
def PatternsDropWrongFalsely : Prop := patternsDropRow.holds Try.pinned (OpenSpec.ofChange patternsDropWrong)

/-- 'provenancekeep3.PatternsNames': WHATEVER THE INPUT: true; the input reads as it did. -/
def patternsNamesSpec : ChangeSpec := { name := "patternsNames", fn := fun _ => fun
  | [d1, d2, d3] => { results := [.lit (.bool true)], args := [d1, d2, d3] }
  | _ => none }
def patternsNamesRow : OpenClaim := { program := "ytakdmelemfnmdaa", sum := "534eceda2c710f07fa07d9f772b3fd55a2b39cecb65021bd2bdc4257e5039a29", func := "provenance/provenancekeep3.PatternsNames", spec := "patternsNames", unfollowed := true, recurses := true, loops := true, apart := false }
def PatternsNamesSaid : Prop := patternsNamesRow.holds Try.pinned (OpenSpec.ofChange patternsNamesSpec)

/-- ITS FALSE NEIGHBOUR: 'it returns false'. Refute it at one input. -/
def patternsNamesWrong : ChangeSpec := { name := "patternsNames", fn := fun _ => fun
  | [d1, d2, d3] => { results := [.lit (.bool false)], args := [d1, d2, d3] }
  | _ => none }
def PatternsNamesWrongFalsely : Prop := patternsNamesRow.holds Try.pinned (OpenSpec.ofChange patternsNamesWrong)

/-- 'provenancekeep3.MatchDepth': WHATEVER THE INPUT: true; the input reads as it did. -/
def matchDepthSpec : ChangeSpec := { name := "matchDepth", fn := fun _ => fun
  | [d1, d2] => { results := [.lit (.bool true)], args := [d1, d2] }
  | _ => none }
def matchDepthRow : OpenClaim := { program := "ytakdmelemfnmdaa", sum := "534eceda2c710f07fa07d9f772b3fd55a2b39cecb65021bd2bdc4257e5039a29", func := "provenance/provenancekeep3.MatchDepth", spec := "matchDepth", unfollowed := true, recurses := true, loops := true, apart := false }
def MatchDepthSaid : Prop := matchDepthRow.holds Try.pinned (OpenSpec.ofChange matchDepthSpec)

/-- ITS FALSE NEIGHBOUR: 'it returns false'. Refute it at one input. -/
def matchDepthWrong : ChangeSpec := { name := "matchDepth", fn := fun _ => fun
  | [d1, d2] => { results := [.lit (.bool false)], args := [d1, d2] }
  | _ => none }
def MatchDepthWrongFalsely : Prop := matchDepthRow.holds Try.pinned (OpenSpec.ofChange matchDepthWrong)

/-- 'provenancekeep3.MatchRows': WHATEVER THE INPUT: true; the input reads as it did. -/
def matchRowsSpec : ChangeSpec := { name := "matchRows", fn := fun _ => fun
  | [d1, d2] => { results := [.lit (.bool true)], args := [d1, d2] }
  | _ => none }
def matchRowsRow : OpenClaim := { program := "ytakdmelemfnmdaa", sum := "534eceda2c710f07fa07d9f772b3fd55a2b39cecb65021bd2bdc4257e5039a29", func := "provenance/provenancekeep3.MatchRows", spec := "matchRows", unfollowed := true, recurses := true, loops := true, apart := false }
def MatchRowsSaid : Prop := matchRowsRow.holds Try.pinned (OpenSpec.ofChange matchRowsSpec)

/-- ITS FALSE NEIGHBOUR: 'it returns false'. Refute it at one input. -/
def matchRowsWrong : ChangeSpec := { name := "matchRows", fn := fun _ => fun
  | [d1, d2] => { results := [.lit (.bool false)], args := [d1, d2] }
  | _ => none }
def MatchRowsWrongFalsely : Prop := matchRowsRow.holds Try.pinned (OpenSpec.ofChange matchRowsWrong)

/-- 'provenancekeep3.MatchOnce': WHATEVER THE INPUT: true; the input reads as it did. -/
def matchOnceSpec : ChangeSpec := { name := "matchOnce", fn := fun _ => fun
  | [d1, d2] => { results := [.lit (.bool true)], args := [d1, d2] }
  | _ => none }
def matchOnceRow : OpenClaim := { program := "ytakdmelemfnmdaa", sum := "534eceda2c710f07fa07d9f772b3fd55a2b39cecb65021bd2bdc4257e5039a29", func := "provenance/provenancekeep3.MatchOnce", spec := "matchOnce", unfollowed := true, recurses := true, loops := true, apart := false }
def MatchOnceSaid : Prop := matchOnceRow.holds Try.pinned (OpenSpec.ofChange matchOnceSpec)

/-- ITS FALSE NEIGHBOUR: 'it returns false'. Refute it at one input. -/
def matchOnceWrong : ChangeSpec := { name := "matchOnce", fn := fun _ => fun
  | [d1, d2] => { results := [.lit (.bool false)], args := [d1, d2] }
  | _ => none }
def MatchOnceWrongFalsely : Prop := matchOnceRow.holds Try.pinned (OpenSpec.ofChange matchOnceWrong)

/-- 'provenancekeep3.MatchPrefix': WHATEVER THE INPUT: true; the input reads as it did. -/
def matchPrefixSpec : ChangeSpec := { name := "matchPrefix", fn := fun _ => fun
  | [d1, d2, d3, d4] => { results := [.lit (.bool true)], args := [d1, d2, d3, d4] }
  | _ => none }
def matchPrefixRow : OpenClaim := { program := "ytakdmelemfnmdaa", sum := "534eceda2c710f07fa07d9f772b3fd55a2b39cecb65021bd2bdc4257e5039a29", func := "provenance/provenancekeep3.MatchPrefix", spec := "matchPrefix", unfollowed := true, recurses := true, loops := true, apart := false }
def MatchPrefixSaid : Prop := matchPrefixRow.holds Try.pinned (OpenSpec.ofChange matchPrefixSpec)

/-- ITS FALSE NEIGHBOUR: 'it returns false'. Refute it at one input. -/
def matchPrefixWrong : ChangeSpec := { name := "matchPrefix", fn := fun _ => fun
  | [d1, d2, d3, d4] => { results := [.lit (.bool false)], args := [d1, d2, d3, d4] }
  | _ => none }
def MatchPrefixWrongFalsely : Prop := matchPrefixRow.holds Try.pinned (OpenSpec.ofChange matchPrefixWrong)

/- THE SECOND FORM. 'bulk': how many values and letters a reading holds, each counted each time it is reached (what is shared counts as often as it is met; a slice's spare places count too). A statement '..UptoSaid' is the law's where the arguments, and the package variables that the reading takes, are together of bulk at most 1048576: NARROWER than '..Said'. Prove '..Said' where nothing that the law and all that it calls make is longer than what came in: it says more and counts as full. Else prove '..UptoSaid'. A law counts once. -/
mutual
def uptoBulk {H : Type} : DataW H → Nat
  | .lit (.string bytes) => bytes.length + 1
  | .lit _ => 1
  | .nil => 1
  | .ptr d => uptoBulk d + 1
  | .slice elems spare => uptoBulkAll elems + uptoBulkAll spare + 1
  | .agg parts => uptoBulkAll parts + 1
  | .iface _ d => uptoBulk d + 1
  | .map entries => uptoBulkEntries entries + 1
  | .held _ => 1
def uptoBulkAll {H : Type} : List (DataW H) → Nat
  | [] => 0
  | d :: r => uptoBulk d + uptoBulkAll r
def uptoBulkEntries {H : Type} : List (Lit × DataW H) → Nat
  | [] => 0
  | x :: r => uptoBulkEntry x + uptoBulkEntries r
def uptoBulkEntry {H : Type} : Lit × DataW H → Nat
  | (.string bytes, d) => bytes.length + uptoBulk d + 1
  | (_, d) => uptoBulk d + 1
 end
def uptoSmall : (H : Type) → List (DataW H) → Bool := fun _ ds => decide (uptoBulkAll ds ≤ 1048576)
def OpenSpec.upto (s : _root_.Go.ChangeSpec) : _root_.Go.OpenSpec := { _root_.Go.OpenSpec.ofChange s with cond := some uptoSmall }

/-- 'provenancekeep3.PatternsTurned', WHERE WHAT IT READS IS OF BULK AT MOST 1048576: true; the input reads as it did. -/
def patternsTurnedUptoRow : OpenClaim := { program := "ytakdmelemfnmdaa", sum := "534eceda2c710f07fa07d9f772b3fd55a2b39cecb65021bd2bdc4257e5039a29", func := "provenance/provenancekeep3.PatternsTurned", spec := "patternsTurned", unfollowed := true, recurses := true, loops := true, apart := false, narrowed := true }
def PatternsTurnedUptoSaid : Prop := patternsTurnedUptoRow.holds Try.pinned (OpenSpec.upto patternsTurnedSpec)

/-- 'provenancekeep3.PatternsMore', WHERE WHAT IT READS IS OF BULK AT MOST 1048576: true; the input reads as it did. -/
def patternsMoreUptoRow : OpenClaim := { program := "ytakdmelemfnmdaa", sum := "534eceda2c710f07fa07d9f772b3fd55a2b39cecb65021bd2bdc4257e5039a29", func := "provenance/provenancekeep3.PatternsMore", spec := "patternsMore", unfollowed := true, recurses := true, loops := true, apart := false, narrowed := true }
def PatternsMoreUptoSaid : Prop := patternsMoreUptoRow.holds Try.pinned (OpenSpec.upto patternsMoreSpec)

/-- 'provenancekeep3.PatternsDrop', WHERE WHAT IT READS IS OF BULK AT MOST 1048576: true; the input reads as it did. -/
def patternsDropUptoRow : OpenClaim := { program := "ytakdmelemfnmdaa", sum := "534eceda2c710f07fa07d9f772b3fd55a2b39cecb65021bd2bdc4257e5039a29", func := "provenance/provenancekeep3.PatternsDrop", spec := "patternsDrop", unfollowed := true, recurses := true, loops := true, apart := false, narrowed := true }
def PatternsDropUptoSaid : Prop := patternsDropUptoRow.holds Try.pinned (OpenSpec.upto patternsDropSpec)

/-- 'provenancekeep3.PatternsNames', WHERE WHAT IT READS IS OF BULK AT MOST 1048576: true; the input reads as it did. -/
def patternsNamesUptoRow : OpenClaim := { program := "ytakdmelemfnmdaa", sum := "534eceda2c710f07fa07d9f772b3fd55a2b39cecb65021bd2bdc4257e5039a29", func := "provenance/provenancekeep3.PatternsNames", spec := "patternsNames", unfollowed := true, recurses := true, loops := true, apart := false, narrowed := true }
def PatternsNamesUptoSaid : Prop := patternsNamesUptoRow.holds Try.pinned (OpenSpec.upto patternsNamesSpec)

/-- 'provenancekeep3.MatchDepth', WHERE WHAT IT READS IS OF BULK AT MOST 1048576: true; the input reads as it did. -/
def matchDepthUptoRow : OpenClaim := { program := "ytakdmelemfnmdaa", sum := "534eceda2c710f07fa07d9f772b3fd55a2b39cecb65021bd2bdc4257e5039a29", func := "provenance/provenancekeep3.MatchDepth", spec := "matchDepth", unfollowed := true, recurses := true, loops := true, apart := false, narrowed := true }
def MatchDepthUptoSaid : Prop := matchDepthUptoRow.holds Try.pinned (OpenSpec.upto matchDepthSpec)

/-- 'provenancekeep3.MatchRows', WHERE WHAT IT READS IS OF BULK AT MOST 1048576: true; the input reads as it did. -/
def matchRowsUptoRow : OpenClaim := { program := "ytakdmelemfnmdaa", sum := "534eceda2c710f07fa07d9f772b3fd55a2b39cecb65021bd2bdc4257e5039a29", func := "provenance/provenancekeep3.MatchRows", spec := "matchRows", unfollowed := true, recurses := true, loops := true, apart := false, narrowed := true }
def MatchRowsUptoSaid : Prop := matchRowsUptoRow.holds Try.pinned (OpenSpec.upto matchRowsSpec)

/-- 'provenancekeep3.MatchOnce', WHERE WHAT IT READS IS OF BULK AT MOST 1048576: true; the input reads as it did. -/
def matchOnceUptoRow : OpenClaim := { program := "ytakdmelemfnmdaa", sum := "534eceda2c710f07fa07d9f772b3fd55a2b39cecb65021bd2bdc4257e5039a29", func := "provenance/provenancekeep3.MatchOnce", spec := "matchOnce", unfollowed := true, recurses := true, loops := true, apart := false, narrowed := true }
def MatchOnceUptoSaid : Prop := matchOnceUptoRow.holds Try.pinned (OpenSpec.upto matchOnceSpec)

/-- 'provenancekeep3.MatchPrefix', WHERE WHAT IT READS IS OF BULK AT MOST 1048576: true; the input reads as it did. -/
def matchPrefixUptoRow : OpenClaim := { program := "ytakdmelemfnmdaa", sum := "534eceda2c710f07fa07d9f772b3fd55a2b39cecb65021bd2bdc4257e5039a29", func := "provenance/provenancekeep3.MatchPrefix", spec := "matchPrefix", unfollowed := true, recurses := true, loops := true, apart := false, narrowed := true }
def MatchPrefixUptoSaid : Prop := matchPrefixUptoRow.holds Try.pinned (OpenSpec.upto matchPrefixSpec)

end Rows
end Go.Proofs.Ytakdmelemfnmdaa
