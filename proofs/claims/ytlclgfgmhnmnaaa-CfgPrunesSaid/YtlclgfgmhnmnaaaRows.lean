/-
  No cell of these rows narrows 'for every input' (looked for: loops, veiled, ifaces, maps, wideKeys, modest, calm, conditions, laid).
  DERIVED. THE GIVEN ROWS OF THIS SEAT. 11 by the template 'for every input the law returns true; each argument reads behind the call as it read before'; 0 by the template 'total and deterministic' (their statements: YtlclgfgmhnmnaaaTotals.lean).
  GIVEN WITH THE SEED: the statements are not yours to turn. If you find one false, say at which input.
  Laid BY PROGRAM, IN A SANDBOX (cutbox-rows.mjs): the forced cells as the released guide's own fill.sh prints them over the translation 962c20ac303e0a04… (all of the seat's roots in one cut). By AI agents, Wed Nov 11 2026. No macro, syntax, notation, axiom, sorry.
-/
import Derived.Test.YtlclgfgmhnmnaaaChecked
import GoSem.Claim
import GoSem.ClaimJoined
import GoSem.ClaimMapViews
import Derived.JoinedTies
import Derived.KernelRfl
namespace Go.Proofs.Ytlclgfgmhnmnaaa
/- THE CELL 'sum', in the pinned program and in every row, IS THE sha256 OF THE DUMP (.gsa) THAT YtlclgfgmhnmnaaaProg.lean LOADS. Nothing in Lean hashes anything: it is a label: what it is worth is what the hold of that sum in a sandbox is worth. -/
noncomputable def Try.pinned : Pinned := { name := "ytlclgfgmhnmnaaa", sum := "962c20ac303e0a04017c98c1bd5e49fda490dd816d9d09f976a8dfc0e9d83783", checked := Try.checked }
namespace Rows
def none {H : Type} : Left H := { results := [], args := [] }

/-- 'provenancekeep3.DomSplits': WHATEVER THE INPUT: true; the input reads as it did. -/
def domSplitsSpec : ChangeSpec := { name := "domSplits", fn := fun _ => fun
  | [d1, d2, d3] => { results := [.lit (.bool true)], args := [d1, d2, d3] }
  | _ => none }
def domSplitsRow : OpenClaim := { program := "ytlclgfgmhnmnaaa", sum := "962c20ac303e0a04017c98c1bd5e49fda490dd816d9d09f976a8dfc0e9d83783", func := "provenance/provenancekeep3.DomSplits", spec := "domSplits", unfollowed := true, recurses := true, apart := false }
def DomSplitsSaid : Prop := domSplitsRow.holds Try.pinned (OpenSpec.ofChange domSplitsSpec)

/-- ITS FALSE NEIGHBOUR: 'it returns false'. Refute it at one input. -/
def domSplitsWrong : ChangeSpec := { name := "domSplits", fn := fun _ => fun
  | [d1, d2, d3] => { results := [.lit (.bool false)], args := [d1, d2, d3] }
  | _ => none }
def DomSplitsWrongFalsely : Prop := domSplitsRow.holds Try.pinned (OpenSpec.ofChange domSplitsWrong)

/-- 'provenancekeep3.LiveCounts': WHATEVER THE INPUT: true; the input reads as it did. -/
def liveCountsSpec : ChangeSpec := { name := "liveCounts", fn := fun _ => fun
  | [d1, d2, d3] => { results := [.lit (.bool true)], args := [d1, d2, d3] }
  | _ => none }
def liveCountsRow : OpenClaim := { program := "ytlclgfgmhnmnaaa", sum := "962c20ac303e0a04017c98c1bd5e49fda490dd816d9d09f976a8dfc0e9d83783", func := "provenance/provenancekeep3.LiveCounts", spec := "liveCounts", unfollowed := true, recurses := true, apart := false }
def LiveCountsSaid : Prop := liveCountsRow.holds Try.pinned (OpenSpec.ofChange liveCountsSpec)

/-- ITS FALSE NEIGHBOUR: 'it returns false'. Refute it at one input. -/
def liveCountsWrong : ChangeSpec := { name := "liveCounts", fn := fun _ => fun
  | [d1, d2, d3] => { results := [.lit (.bool false)], args := [d1, d2, d3] }
  | _ => none }
def LiveCountsWrongFalsely : Prop := liveCountsRow.holds Try.pinned (OpenSpec.ofChange liveCountsWrong)

/-- 'provenancekeep3.CfgPrunes': WHATEVER THE INPUT: true; the input reads as it did. -/
def cfgPrunesSpec : ChangeSpec := { name := "cfgPrunes", fn := fun _ => fun
  | [d] => { results := [.lit (.bool true)], args := [d] }
  | _ => none }
def cfgPrunesRow : OpenClaim := { program := "ytlclgfgmhnmnaaa", sum := "962c20ac303e0a04017c98c1bd5e49fda490dd816d9d09f976a8dfc0e9d83783", func := "provenance/provenancekeep3.CfgPrunes", spec := "cfgPrunes", unfollowed := true, recurses := true, apart := false }
def CfgPrunesSaid : Prop := cfgPrunesRow.holds Try.pinned (OpenSpec.ofChange cfgPrunesSpec)

/-- ITS FALSE NEIGHBOUR: 'it returns false'. Refute it at one input. -/
def cfgPrunesWrong : ChangeSpec := { name := "cfgPrunes", fn := fun _ => fun
  | [d] => { results := [.lit (.bool false)], args := [d] }
  | _ => none }
def CfgPrunesWrongFalsely : Prop := cfgPrunesRow.holds Try.pinned (OpenSpec.ofChange cfgPrunesWrong)

/-- 'provenancekeep3.DomRelation': WHATEVER THE INPUT: true; the input reads as it did. -/
def domRelationSpec : ChangeSpec := { name := "domRelation", fn := fun _ => fun
  | [d1, d2, d3, d4] => { results := [.lit (.bool true)], args := [d1, d2, d3, d4] }
  | _ => none }
def domRelationRow : OpenClaim := { program := "ytlclgfgmhnmnaaa", sum := "962c20ac303e0a04017c98c1bd5e49fda490dd816d9d09f976a8dfc0e9d83783", func := "provenance/provenancekeep3.DomRelation", spec := "domRelation", unfollowed := true, recurses := true, apart := false }
def DomRelationSaid : Prop := domRelationRow.holds Try.pinned (OpenSpec.ofChange domRelationSpec)

/-- ITS FALSE NEIGHBOUR: 'it returns false'. Refute it at one input. -/
def domRelationWrong : ChangeSpec := { name := "domRelation", fn := fun _ => fun
  | [d1, d2, d3, d4] => { results := [.lit (.bool false)], args := [d1, d2, d3, d4] }
  | _ => none }
def DomRelationWrongFalsely : Prop := domRelationRow.holds Try.pinned (OpenSpec.ofChange domRelationWrong)

/-- 'provenancekeep3.DomPrunes': WHATEVER THE INPUT: true; the input reads as it did. -/
def domPrunesSpec : ChangeSpec := { name := "domPrunes", fn := fun _ => fun
  | [d] => { results := [.lit (.bool true)], args := [d] }
  | _ => none }
def domPrunesRow : OpenClaim := { program := "ytlclgfgmhnmnaaa", sum := "962c20ac303e0a04017c98c1bd5e49fda490dd816d9d09f976a8dfc0e9d83783", func := "provenance/provenancekeep3.DomPrunes", spec := "domPrunes", unfollowed := true, recurses := true, apart := false }
def DomPrunesSaid : Prop := domPrunesRow.holds Try.pinned (OpenSpec.ofChange domPrunesSpec)

/-- ITS FALSE NEIGHBOUR: 'it returns false'. Refute it at one input. -/
def domPrunesWrong : ChangeSpec := { name := "domPrunes", fn := fun _ => fun
  | [d] => { results := [.lit (.bool false)], args := [d] }
  | _ => none }
def DomPrunesWrongFalsely : Prop := domPrunesRow.holds Try.pinned (OpenSpec.ofChange domPrunesWrong)

/-- 'provenancekeep3.DomEdges': WHATEVER THE INPUT: true; the input reads as it did. -/
def domEdgesSpec : ChangeSpec := { name := "domEdges", fn := fun _ => fun
  | [d1, d2, d3] => { results := [.lit (.bool true)], args := [d1, d2, d3] }
  | _ => none }
def domEdgesRow : OpenClaim := { program := "ytlclgfgmhnmnaaa", sum := "962c20ac303e0a04017c98c1bd5e49fda490dd816d9d09f976a8dfc0e9d83783", func := "provenance/provenancekeep3.DomEdges", spec := "domEdges", unfollowed := true, recurses := true, apart := false }
def DomEdgesSaid : Prop := domEdgesRow.holds Try.pinned (OpenSpec.ofChange domEdgesSpec)

/-- ITS FALSE NEIGHBOUR: 'it returns false'. Refute it at one input. -/
def domEdgesWrong : ChangeSpec := { name := "domEdges", fn := fun _ => fun
  | [d1, d2, d3] => { results := [.lit (.bool false)], args := [d1, d2, d3] }
  | _ => none }
def DomEdgesWrongFalsely : Prop := domEdgesRow.holds Try.pinned (OpenSpec.ofChange domEdgesWrong)

/-- 'provenancekeep3.LoopsNest': WHATEVER THE INPUT: true; the input reads as it did. -/
def loopsNestSpec : ChangeSpec := { name := "loopsNest", fn := fun _ => fun
  | [d] => { results := [.lit (.bool true)], args := [d] }
  | _ => none }
def loopsNestRow : OpenClaim := { program := "ytlclgfgmhnmnaaa", sum := "962c20ac303e0a04017c98c1bd5e49fda490dd816d9d09f976a8dfc0e9d83783", func := "provenance/provenancekeep3.LoopsNest", spec := "loopsNest", unfollowed := true, recurses := true, apart := false }
def LoopsNestSaid : Prop := loopsNestRow.holds Try.pinned (OpenSpec.ofChange loopsNestSpec)

/-- ITS FALSE NEIGHBOUR: 'it returns false'. Refute it at one input. -/
def loopsNestWrong : ChangeSpec := { name := "loopsNest", fn := fun _ => fun
  | [d] => { results := [.lit (.bool false)], args := [d] }
  | _ => none }
def LoopsNestWrongFalsely : Prop := loopsNestRow.holds Try.pinned (OpenSpec.ofChange loopsNestWrong)

/-- 'provenancekeep3.LivePrunes': WHATEVER THE INPUT: true; the input reads as it did. -/
def livePrunesSpec : ChangeSpec := { name := "livePrunes", fn := fun _ => fun
  | [d] => { results := [.lit (.bool true)], args := [d] }
  | _ => none }
def livePrunesRow : OpenClaim := { program := "ytlclgfgmhnmnaaa", sum := "962c20ac303e0a04017c98c1bd5e49fda490dd816d9d09f976a8dfc0e9d83783", func := "provenance/provenancekeep3.LivePrunes", spec := "livePrunes", unfollowed := true, recurses := true, apart := false }
def LivePrunesSaid : Prop := livePrunesRow.holds Try.pinned (OpenSpec.ofChange livePrunesSpec)

/-- ITS FALSE NEIGHBOUR: 'it returns false'. Refute it at one input. -/
def livePrunesWrong : ChangeSpec := { name := "livePrunes", fn := fun _ => fun
  | [d] => { results := [.lit (.bool false)], args := [d] }
  | _ => none }
def LivePrunesWrongFalsely : Prop := livePrunesRow.holds Try.pinned (OpenSpec.ofChange livePrunesWrong)

/-- 'provenancekeep3.LoopsDepths': WHATEVER THE INPUT: true; the input reads as it did. -/
def loopsDepthsSpec : ChangeSpec := { name := "loopsDepths", fn := fun _ => fun
  | [d] => { results := [.lit (.bool true)], args := [d] }
  | _ => none }
def loopsDepthsRow : OpenClaim := { program := "ytlclgfgmhnmnaaa", sum := "962c20ac303e0a04017c98c1bd5e49fda490dd816d9d09f976a8dfc0e9d83783", func := "provenance/provenancekeep3.LoopsDepths", spec := "loopsDepths", unfollowed := true, recurses := true, apart := false }
def LoopsDepthsSaid : Prop := loopsDepthsRow.holds Try.pinned (OpenSpec.ofChange loopsDepthsSpec)

/-- ITS FALSE NEIGHBOUR: 'it returns false'. Refute it at one input. -/
def loopsDepthsWrong : ChangeSpec := { name := "loopsDepths", fn := fun _ => fun
  | [d] => { results := [.lit (.bool false)], args := [d] }
  | _ => none }
def LoopsDepthsWrongFalsely : Prop := loopsDepthsRow.holds Try.pinned (OpenSpec.ofChange loopsDepthsWrong)

/-- 'provenancekeep3.LoopsHeads': WHATEVER THE INPUT: true; the input reads as it did. -/
def loopsHeadsSpec : ChangeSpec := { name := "loopsHeads", fn := fun _ => fun
  | [d] => { results := [.lit (.bool true)], args := [d] }
  | _ => none }
def loopsHeadsRow : OpenClaim := { program := "ytlclgfgmhnmnaaa", sum := "962c20ac303e0a04017c98c1bd5e49fda490dd816d9d09f976a8dfc0e9d83783", func := "provenance/provenancekeep3.LoopsHeads", spec := "loopsHeads", unfollowed := true, recurses := true, apart := false }
def LoopsHeadsSaid : Prop := loopsHeadsRow.holds Try.pinned (OpenSpec.ofChange loopsHeadsSpec)

/-- ITS FALSE NEIGHBOUR: 'it returns false'. Refute it at one input. -/
def loopsHeadsWrong : ChangeSpec := { name := "loopsHeads", fn := fun _ => fun
  | [d] => { results := [.lit (.bool false)], args := [d] }
  | _ => none }
def LoopsHeadsWrongFalsely : Prop := loopsHeadsRow.holds Try.pinned (OpenSpec.ofChange loopsHeadsWrong)

/-- 'provenancekeep3.LoopsSplits': WHATEVER THE INPUT: true; the input reads as it did. -/
def loopsSplitsSpec : ChangeSpec := { name := "loopsSplits", fn := fun _ => fun
  | [d] => { results := [.lit (.bool true)], args := [d] }
  | _ => none }
def loopsSplitsRow : OpenClaim := { program := "ytlclgfgmhnmnaaa", sum := "962c20ac303e0a04017c98c1bd5e49fda490dd816d9d09f976a8dfc0e9d83783", func := "provenance/provenancekeep3.LoopsSplits", spec := "loopsSplits", unfollowed := true, recurses := true, apart := false }
def LoopsSplitsSaid : Prop := loopsSplitsRow.holds Try.pinned (OpenSpec.ofChange loopsSplitsSpec)

/-- ITS FALSE NEIGHBOUR: 'it returns false'. Refute it at one input. -/
def loopsSplitsWrong : ChangeSpec := { name := "loopsSplits", fn := fun _ => fun
  | [d] => { results := [.lit (.bool false)], args := [d] }
  | _ => none }
def LoopsSplitsWrongFalsely : Prop := loopsSplitsRow.holds Try.pinned (OpenSpec.ofChange loopsSplitsWrong)

/- THE SECOND FORM. 'bulk': how many values and letters a reading holds, each counted each time it is reached (what is shared counts as often as it is met; a slice's spare places count too). A statement '..UptoSaid' is the law's where the arguments, and the package variables that the reading takes, are together of bulk at most 1048576: NARROWER than '..Said'. Prove '..Said' where nothing that the law and all that it calls make is longer than what came in: it says more and counts as full. Else prove '..UptoSaid'. A law counts once. -/
mutual
def uptoBulk {H : Type} : DataW H → Nat
  | .lit (.string bytes) => bytes.length + 1
  | .lit _ => 1
  | .nil => 1
  | .ptr d => uptoBulk d + 1
  | .slice elems spare => uptoBulkAll elems + uptoBulkAll spare + 1
  | .agg parts => uptoBulkAll parts + 1
  | .iface _ d => uptoBulk d + 1
  | .map entries => uptoBulkEntries entries + 1
  | .held _ => 1
def uptoBulkAll {H : Type} : List (DataW H) → Nat
  | [] => 0
  | d :: r => uptoBulk d + uptoBulkAll r
def uptoBulkEntries {H : Type} : List (Lit × DataW H) → Nat
  | [] => 0
  | x :: r => uptoBulkEntry x + uptoBulkEntries r
def uptoBulkEntry {H : Type} : Lit × DataW H → Nat
  | (.string bytes, d) => bytes.length + uptoBulk d + 1
  | (_, d) => uptoBulk d + 1
 end
def uptoSmall : (H : Type) → List (DataW H) → Bool := fun _ ds => decide (uptoBulkAll ds ≤ 1048576)
def OpenSpec.upto (s : _root_.Go.ChangeSpec) : _root_.Go.OpenSpec := { _root_.Go.OpenSpec.ofChange s with cond := some uptoSmall }

/-- 'provenancekeep3.DomSplits', WHERE WHAT IT READS IS OF BULK AT MOST 1048576: true; the input reads as it did. -/
def domSplitsUptoRow : OpenClaim := { program := "ytlclgfgmhnmnaaa", sum := "962c20ac303e0a04017c98c1bd5e49fda490dd816d9d09f976a8dfc0e9d83783", func := "provenance/provenancekeep3.DomSplits", spec := "domSplits", unfollowed := true, recurses := true, apart := false, narrowed := true }
def DomSplitsUptoSaid : Prop := domSplitsUptoRow.holds Try.pinned (OpenSpec.upto domSplitsSpec)

/-- 'provenancekeep3.LiveCounts', WHERE WHAT IT READS IS OF BULK AT MOST 1048576: true; the input reads as it did. -/
def liveCountsUptoRow : OpenClaim := { program := "ytlclgfgmhnmnaaa", sum := "962c20ac303e0a04017c98c1bd5e49fda490dd816d9d09f976a8dfc0e9d83783", func := "provenance/provenancekeep3.LiveCounts", spec := "liveCounts", unfollowed := true, recurses := true, apart := false, narrowed := true }
def LiveCountsUptoSaid : Prop := liveCountsUptoRow.holds Try.pinned (OpenSpec.upto liveCountsSpec)

/-- 'provenancekeep3.CfgPrunes', WHERE WHAT IT READS IS OF BULK AT MOST 1048576: true; the input reads as it did. -/
def cfgPrunesUptoRow : OpenClaim := { program := "ytlclgfgmhnmnaaa", sum := "962c20ac303e0a04017c98c1bd5e49fda490dd816d9d09f976a8dfc0e9d83783", func := "provenance/provenancekeep3.CfgPrunes", spec := "cfgPrunes", unfollowed := true, recurses := true, apart := false, narrowed := true }
def CfgPrunesUptoSaid : Prop := cfgPrunesUptoRow.holds Try.pinned (OpenSpec.upto cfgPrunesSpec)

/-- 'provenancekeep3.DomRelation', WHERE WHAT IT READS IS OF BULK AT MOST 1048576: true; the input reads as it did. -/
def domRelationUptoRow : OpenClaim := { program := "ytlclgfgmhnmnaaa", sum := "962c20ac303e0a04017c98c1bd5e49fda490dd816d9d09f976a8dfc0e9d83783", func := "provenance/provenancekeep3.DomRelation", spec := "domRelation", unfollowed := true, recurses := true, apart := false, narrowed := true }
def DomRelationUptoSaid : Prop := domRelationUptoRow.holds Try.pinned (OpenSpec.upto domRelationSpec)

/-- 'provenancekeep3.DomPrunes', WHERE WHAT IT READS IS OF BULK AT MOST 1048576: true; the input reads as it did. -/
def domPrunesUptoRow : OpenClaim := { program := "ytlclgfgmhnmnaaa", sum := "962c20ac303e0a04017c98c1bd5e49fda490dd816d9d09f976a8dfc0e9d83783", func := "provenance/provenancekeep3.DomPrunes", spec := "domPrunes", unfollowed := true, recurses := true, apart := false, narrowed := true }
def DomPrunesUptoSaid : Prop := domPrunesUptoRow.holds Try.pinned (OpenSpec.upto domPrunesSpec)

/-- 'provenancekeep3.DomEdges', WHERE WHAT IT READS IS OF BULK AT MOST 1048576: true; the input reads as it did. -/
def domEdgesUptoRow : OpenClaim := { program := "ytlclgfgmhnmnaaa", sum := "962c20ac303e0a04017c98c1bd5e49fda490dd816d9d09f976a8dfc0e9d83783", func := "provenance/provenancekeep3.DomEdges", spec := "domEdges", unfollowed := true, recurses := true, apart := false, narrowed := true }
def DomEdgesUptoSaid : Prop := domEdgesUptoRow.holds Try.pinned (OpenSpec.upto domEdgesSpec)

/-- 'provenancekeep3.LoopsNest', WHERE WHAT IT READS IS OF BULK AT MOST 1048576: true; the input reads as it did. -/
def loopsNestUptoRow : OpenClaim := { program := "ytlclgfgmhnmnaaa", sum := "962c20ac303e0a04017c98c1bd5e49fda490dd816d9d09f976a8dfc0e9d83783", func := "provenance/provenancekeep3.LoopsNest", spec := "loopsNest", unfollowed := true, recurses := true, apart := false, narrowed := true }
def LoopsNestUptoSaid : Prop := loopsNestUptoRow.holds Try.pinned (OpenSpec.upto loopsNestSpec)

/-- 'provenancekeep3.LivePrunes', WHERE WHAT IT READS IS OF BULK AT MOST 1048576: true; the input reads as it did. -/
def livePrunesUptoRow : OpenClaim := { program := "ytlclgfgmhnmnaaa", sum := "962c20ac303e0a04017c98c1bd5e49fda490dd816d9d09f976a8dfc0e9d83783", func := "provenance/provenancekeep3.LivePrunes", spec := "livePrunes", unfollowed := true, recurses := true, apart := false, narrowed := true }
def LivePrunesUptoSaid : Prop := livePrunesUptoRow.holds Try.pinned (OpenSpec.upto livePrunesSpec)

/-- 'provenancekeep3.LoopsDepths', WHERE WHAT IT READS IS OF BULK AT MOST 1048576: true; the input reads as it did. -/
def loopsDepthsUptoRow : OpenClaim := { program := "ytlclgfgmhnmnaaa", sum := "962c20ac303e0a04017c98c1bd5e49fda490dd816d9d09f976a8dfc0e9d83783", func := "provenance/provenancekeep3.LoopsDepths", spec := "loopsDepths", unfollowed := true, recurses := true, apart := false, narrowed := true }
def LoopsDepthsUptoSaid : Prop := loopsDepthsUptoRow.holds Try.pinned (OpenSpec.upto loopsDepthsSpec)

/-- 'provenancekeep3.LoopsHeads', WHERE WHAT IT READS IS OF BULK AT MOST 1048576: true; the input reads as it did. -/
def loopsHeadsUptoRow : OpenClaim := { program := "ytlclgfgmhnmnaaa", sum := "962c20ac303e0a04017c98c1bd5e49fda490dd816d9d09f976a8dfc0e9d83783", func := "provenance/provenancekeep3.LoopsHeads", spec := "loopsHeads", unfollowed := true, recurses := true, apart := false, narrowed := true }
def LoopsHeadsUptoSaid : Prop := loopsHeadsUptoRow.holds Try.pinned (OpenSpec.upto loopsHeadsSpec)

/-- 'provenancekeep3.LoopsSplits', WHERE WHAT IT READS IS OF BULK AT MOST 1048576: true; the input reads as it did. -/
def loopsSplitsUptoRow : OpenClaim := { program := "ytlclgfgmhnmnaaa", sum := "962c20ac303e0a04017c98c1bd5e49fda490dd816d9d09f976a8dfc0e9d83783", func := "provenance/provenancekeep3.LoopsSplits", spec := "loopsSplits", unfollowed := true, recurses := true, apart := false, narrowed := true }
def LoopsSplitsUptoSaid : Prop := loopsSplitsUptoRow.holds Try.pinned (OpenSpec.upto loopsSplitsSpec)

end Rows
end Go.Proofs.Ytlclgfgmhnmnaaa
