/-
  No cell of these rows narrows 'for every input' (looked for: loops, veiled, ifaces, maps, wideKeys, modest, calm, conditions, laid).
  DERIVED. THE GIVEN ROWS OF THIS SEAT. 18 by the template 'for every input the law returns true; each argument reads behind the call as it read before'; 0 by the template 'total and deterministic' (their statements: YtnjjjfffppllfaaTotals.lean).
  GIVEN WITH THE SEED: the statements are not yours to turn. If you find one false, say at which input.
  Laid BY PROGRAM, IN A SANDBOX (cutbox-rows.mjs): the forced cells as the released guide's own fill.sh prints them over the translation 1b395e4a6afd2164… (all of the seat's roots in one cut). By AI agents, Wed Nov 11 2026. No macro, syntax, notation, axiom, sorry.
-/
import Derived.Test.YtnjjjfffppllfaaChecked
import GoSem.Claim
import GoSem.ClaimJoined
import GoSem.ClaimMapViews
import Derived.JoinedTies
import Derived.KernelRfl
namespace Go.Proofs.Ytnjjjfffppllfaa
/- THE CELL 'sum', in the pinned program and in every row, IS THE sha256 OF THE DUMP (.gsa) THAT YtnjjjfffppllfaaProg.lean LOADS. Nothing in Lean hashes anything: it is a label: what it is worth is what the hold of that sum in a sandbox is worth. -/
noncomputable def Try.pinned : Pinned := { name := "ytnjjjfffppllfaa", sum := "1b395e4a6afd216440122383f0105b6f87e565dde20d1f422dae623b49fdb863", checked := Try.checked }
namespace Rows
def none {H : Type} : Left H := { results := [], args := [] }

/-- 'ergolaw06.MergeHeap': WHATEVER THE INPUT: true; the input reads as it did. -/
def mergeHeapSpec : ChangeSpec := { name := "mergeHeap", fn := fun _ => fun
  | [d] => { results := [.lit (.bool true)], args := [d] }
  | _ => none }
def mergeHeapRow : OpenClaim := { program := "ytnjjjfffppllfaa", sum := "1b395e4a6afd216440122383f0105b6f87e565dde20d1f422dae623b49fdb863", func := "ergo/ergolaw06.MergeHeap", spec := "mergeHeap", unfollowed := true, recurses := true, apart := false }
def MergeHeapSaid : Prop := mergeHeapRow.holds Try.pinned (OpenSpec.ofChange mergeHeapSpec)

/-- ITS FALSE NEIGHBOUR: 'it returns false'. Refute it at one input. -/
def mergeHeapWrong : ChangeSpec := { name := "mergeHeap", fn := fun _ => fun
  | [d] => { results := [.lit (.bool false)], args := [d] }
  | _ => none }
def MergeHeapWrongFalsely : Prop := mergeHeapRow.holds Try.pinned (OpenSpec.ofChange mergeHeapWrong)

/-- 'ergolaw17.GraphComponents': WHATEVER THE INPUT: true; the input reads as it did. -/
def graphComponentsSpec : ChangeSpec := { name := "graphComponents", fn := fun _ => fun
  | [d1, d2] => { results := [.lit (.bool true)], args := [d1, d2] }
  | _ => none }
def graphComponentsRow : OpenClaim := { program := "ytnjjjfffppllfaa", sum := "1b395e4a6afd216440122383f0105b6f87e565dde20d1f422dae623b49fdb863", func := "ergo/ergolaw17.GraphComponents", spec := "graphComponents", unfollowed := true, recurses := true, apart := false }
def GraphComponentsSaid : Prop := graphComponentsRow.holds Try.pinned (OpenSpec.ofChange graphComponentsSpec)

/-- ITS FALSE NEIGHBOUR: 'it returns false'. Refute it at one input. -/
def graphComponentsWrong : ChangeSpec := { name := "graphComponents", fn := fun _ => fun
  | [d1, d2] => { results := [.lit (.bool false)], args := [d1, d2] }
  | _ => none }
def GraphComponentsWrongFalsely : Prop := graphComponentsRow.holds Try.pinned (OpenSpec.ofChange graphComponentsWrong)

/-- 'ergolaw17.GraphRaw': WHATEVER THE INPUT: true; the input reads as it did. -/
def graphRawSpec : ChangeSpec := { name := "graphRaw", fn := fun _ => fun
  | [d1, d2] => { results := [.lit (.bool true)], args := [d1, d2] }
  | _ => none }
def graphRawRow : OpenClaim := { program := "ytnjjjfffppllfaa", sum := "1b395e4a6afd216440122383f0105b6f87e565dde20d1f422dae623b49fdb863", func := "ergo/ergolaw17.GraphRaw", spec := "graphRaw", unfollowed := true, recurses := true, apart := false }
def GraphRawSaid : Prop := graphRawRow.holds Try.pinned (OpenSpec.ofChange graphRawSpec)

/-- ITS FALSE NEIGHBOUR: 'it returns false'. Refute it at one input. -/
def graphRawWrong : ChangeSpec := { name := "graphRaw", fn := fun _ => fun
  | [d1, d2] => { results := [.lit (.bool false)], args := [d1, d2] }
  | _ => none }
def GraphRawWrongFalsely : Prop := graphRawRow.holds Try.pinned (OpenSpec.ofChange graphRawWrong)

/-- 'ergolaw17.GraphLong': WHATEVER THE INPUT: true; the input reads as it did. -/
def graphLongSpec : ChangeSpec := { name := "graphLong", fn := fun _ => fun
  | [d1, d2] => { results := [.lit (.bool true)], args := [d1, d2] }
  | _ => none }
def graphLongRow : OpenClaim := { program := "ytnjjjfffppllfaa", sum := "1b395e4a6afd216440122383f0105b6f87e565dde20d1f422dae623b49fdb863", func := "ergo/ergolaw17.GraphLong", spec := "graphLong", unfollowed := true, recurses := true, apart := false }
def GraphLongSaid : Prop := graphLongRow.holds Try.pinned (OpenSpec.ofChange graphLongSpec)

/-- ITS FALSE NEIGHBOUR: 'it returns false'. Refute it at one input. -/
def graphLongWrong : ChangeSpec := { name := "graphLong", fn := fun _ => fun
  | [d1, d2] => { results := [.lit (.bool false)], args := [d1, d2] }
  | _ => none }
def GraphLongWrongFalsely : Prop := graphLongRow.holds Try.pinned (OpenSpec.ofChange graphLongWrong)

/-- 'ergolaw17.GraphBack': WHATEVER THE INPUT: true; the input reads as it did. -/
def graphBackSpec : ChangeSpec := { name := "graphBack", fn := fun _ => fun
  | [d1, d2] => { results := [.lit (.bool true)], args := [d1, d2] }
  | _ => none }
def graphBackRow : OpenClaim := { program := "ytnjjjfffppllfaa", sum := "1b395e4a6afd216440122383f0105b6f87e565dde20d1f422dae623b49fdb863", func := "ergo/ergolaw17.GraphBack", spec := "graphBack", unfollowed := true, recurses := true, apart := false }
def GraphBackSaid : Prop := graphBackRow.holds Try.pinned (OpenSpec.ofChange graphBackSpec)

/-- ITS FALSE NEIGHBOUR: 'it returns false'. Refute it at one input. -/
def graphBackWrong : ChangeSpec := { name := "graphBack", fn := fun _ => fun
  | [d1, d2] => { results := [.lit (.bool false)], args := [d1, d2] }
  | _ => none }
def GraphBackWrongFalsely : Prop := graphBackRow.holds Try.pinned (OpenSpec.ofChange graphBackWrong)

/-- 'ergolaw10.BestPuts': WHATEVER THE INPUT: true; the input reads as it did. -/
def bestPutsSpec : ChangeSpec := { name := "bestPuts", fn := fun _ => fun
  | [d1, d2, d3, d4] => { results := [.lit (.bool true)], args := [d1, d2, d3, d4] }
  | _ => none }
def bestPutsRow : OpenClaim := { program := "ytnjjjfffppllfaa", sum := "1b395e4a6afd216440122383f0105b6f87e565dde20d1f422dae623b49fdb863", func := "ergo/ergolaw10.BestPuts", spec := "bestPuts", unfollowed := true, recurses := true, apart := false }
def BestPutsSaid : Prop := bestPutsRow.holds Try.pinned (OpenSpec.ofChange bestPutsSpec)

/-- ITS FALSE NEIGHBOUR: 'it returns false'. Refute it at one input. -/
def bestPutsWrong : ChangeSpec := { name := "bestPuts", fn := fun _ => fun
  | [d1, d2, d3, d4] => { results := [.lit (.bool false)], args := [d1, d2, d3, d4] }
  | _ => none }
def BestPutsWrongFalsely : Prop := bestPutsRow.holds Try.pinned (OpenSpec.ofChange bestPutsWrong)

/-- 'ergolaw10.BestAdds': WHATEVER THE INPUT: true; the input reads as it did. -/
def bestAddsSpec : ChangeSpec := { name := "bestAdds", fn := fun _ => fun
  | [d1, d2, d3] => { results := [.lit (.bool true)], args := [d1, d2, d3] }
  | _ => none }
def bestAddsRow : OpenClaim := { program := "ytnjjjfffppllfaa", sum := "1b395e4a6afd216440122383f0105b6f87e565dde20d1f422dae623b49fdb863", func := "ergo/ergolaw10.BestAdds", spec := "bestAdds", unfollowed := true, recurses := true, apart := false }
def BestAddsSaid : Prop := bestAddsRow.holds Try.pinned (OpenSpec.ofChange bestAddsSpec)

/-- ITS FALSE NEIGHBOUR: 'it returns false'. Refute it at one input. -/
def bestAddsWrong : ChangeSpec := { name := "bestAdds", fn := fun _ => fun
  | [d1, d2, d3] => { results := [.lit (.bool false)], args := [d1, d2, d3] }
  | _ => none }
def BestAddsWrongFalsely : Prop := bestAddsRow.holds Try.pinned (OpenSpec.ofChange bestAddsWrong)

/-- 'ergolaw08.JoinSemis': WHATEVER THE INPUT: true; the input reads as it did. -/
def joinSemisSpec : ChangeSpec := { name := "joinSemis", fn := fun _ => fun
  | [d] => { results := [.lit (.bool true)], args := [d] }
  | _ => none }
def joinSemisRow : OpenClaim := { program := "ytnjjjfffppllfaa", sum := "1b395e4a6afd216440122383f0105b6f87e565dde20d1f422dae623b49fdb863", func := "ergo/ergolaw08.JoinSemis", spec := "joinSemis", unfollowed := true, recurses := true, apart := false }
def JoinSemisSaid : Prop := joinSemisRow.holds Try.pinned (OpenSpec.ofChange joinSemisSpec)

/-- ITS FALSE NEIGHBOUR: 'it returns false'. Refute it at one input. -/
def joinSemisWrong : ChangeSpec := { name := "joinSemis", fn := fun _ => fun
  | [d] => { results := [.lit (.bool false)], args := [d] }
  | _ => none }
def JoinSemisWrongFalsely : Prop := joinSemisRow.holds Try.pinned (OpenSpec.ofChange joinSemisWrong)

/-- 'ergolaw10.BestAgain': WHATEVER THE INPUT: true; the input reads as it did. -/
def bestAgainSpec : ChangeSpec := { name := "bestAgain", fn := fun _ => fun
  | [d1, d2, d3] => { results := [.lit (.bool true)], args := [d1, d2, d3] }
  | _ => none }
def bestAgainRow : OpenClaim := { program := "ytnjjjfffppllfaa", sum := "1b395e4a6afd216440122383f0105b6f87e565dde20d1f422dae623b49fdb863", func := "ergo/ergolaw10.BestAgain", spec := "bestAgain", unfollowed := true, recurses := true, apart := false }
def BestAgainSaid : Prop := bestAgainRow.holds Try.pinned (OpenSpec.ofChange bestAgainSpec)

/-- ITS FALSE NEIGHBOUR: 'it returns false'. Refute it at one input. -/
def bestAgainWrong : ChangeSpec := { name := "bestAgain", fn := fun _ => fun
  | [d1, d2, d3] => { results := [.lit (.bool false)], args := [d1, d2, d3] }
  | _ => none }
def BestAgainWrongFalsely : Prop := bestAgainRow.holds Try.pinned (OpenSpec.ofChange bestAgainWrong)

/-- 'ergolaw06.MergeRows': WHATEVER THE INPUT: true; the input reads as it did. -/
def mergeRowsSpec : ChangeSpec := { name := "mergeRows", fn := fun _ => fun
  | [d1, d2, d3] => { results := [.lit (.bool true)], args := [d1, d2, d3] }
  | _ => none }
def mergeRowsRow : OpenClaim := { program := "ytnjjjfffppllfaa", sum := "1b395e4a6afd216440122383f0105b6f87e565dde20d1f422dae623b49fdb863", func := "ergo/ergolaw06.MergeRows", spec := "mergeRows", unfollowed := true, recurses := true, apart := false }
def MergeRowsSaid : Prop := mergeRowsRow.holds Try.pinned (OpenSpec.ofChange mergeRowsSpec)

/-- ITS FALSE NEIGHBOUR: 'it returns false'. Refute it at one input. -/
def mergeRowsWrong : ChangeSpec := { name := "mergeRows", fn := fun _ => fun
  | [d1, d2, d3] => { results := [.lit (.bool false)], args := [d1, d2, d3] }
  | _ => none }
def MergeRowsWrongFalsely : Prop := mergeRowsRow.holds Try.pinned (OpenSpec.ofChange mergeRowsWrong)

/-- 'ergolaw11.StoreRuns': WHATEVER THE INPUT: true; the input reads as it did. -/
def storeRunsSpec : ChangeSpec := { name := "storeRuns", fn := fun _ => fun
  | [d1, d2, d3, d4] => { results := [.lit (.bool true)], args := [d1, d2, d3, d4] }
  | _ => none }
def storeRunsRow : OpenClaim := { program := "ytnjjjfffppllfaa", sum := "1b395e4a6afd216440122383f0105b6f87e565dde20d1f422dae623b49fdb863", func := "ergo/ergolaw11.StoreRuns", spec := "storeRuns", unfollowed := true, recurses := true, apart := false }
def StoreRunsSaid : Prop := storeRunsRow.holds Try.pinned (OpenSpec.ofChange storeRunsSpec)

/-- ITS FALSE NEIGHBOUR: 'it returns false'. Refute it at one input. -/
def storeRunsWrong : ChangeSpec := { name := "storeRuns", fn := fun _ => fun
  | [d1, d2, d3, d4] => { results := [.lit (.bool false)], args := [d1, d2, d3, d4] }
  | _ => none }
def StoreRunsWrongFalsely : Prop := storeRunsRow.holds Try.pinned (OpenSpec.ofChange storeRunsWrong)

/-- 'ergolaw11.StoreWidths': WHATEVER THE INPUT: true; the input reads as it did. -/
def storeWidthsSpec : ChangeSpec := { name := "storeWidths", fn := fun _ => fun
  | [d1, d2, d3] => { results := [.lit (.bool true)], args := [d1, d2, d3] }
  | _ => none }
def storeWidthsRow : OpenClaim := { program := "ytnjjjfffppllfaa", sum := "1b395e4a6afd216440122383f0105b6f87e565dde20d1f422dae623b49fdb863", func := "ergo/ergolaw11.StoreWidths", spec := "storeWidths", unfollowed := true, recurses := true, apart := false }
def StoreWidthsSaid : Prop := storeWidthsRow.holds Try.pinned (OpenSpec.ofChange storeWidthsSpec)

/-- ITS FALSE NEIGHBOUR: 'it returns false'. Refute it at one input. -/
def storeWidthsWrong : ChangeSpec := { name := "storeWidths", fn := fun _ => fun
  | [d1, d2, d3] => { results := [.lit (.bool false)], args := [d1, d2, d3] }
  | _ => none }
def StoreWidthsWrongFalsely : Prop := storeWidthsRow.holds Try.pinned (OpenSpec.ofChange storeWidthsWrong)

/-- 'ergolaw11.StoreDeltas': WHATEVER THE INPUT: true; the input reads as it did. -/
def storeDeltasSpec : ChangeSpec := { name := "storeDeltas", fn := fun _ => fun
  | [d1, d2, d3] => { results := [.lit (.bool true)], args := [d1, d2, d3] }
  | _ => none }
def storeDeltasRow : OpenClaim := { program := "ytnjjjfffppllfaa", sum := "1b395e4a6afd216440122383f0105b6f87e565dde20d1f422dae623b49fdb863", func := "ergo/ergolaw11.StoreDeltas", spec := "storeDeltas", unfollowed := true, recurses := true, apart := false }
def StoreDeltasSaid : Prop := storeDeltasRow.holds Try.pinned (OpenSpec.ofChange storeDeltasSpec)

/-- ITS FALSE NEIGHBOUR: 'it returns false'. Refute it at one input. -/
def storeDeltasWrong : ChangeSpec := { name := "storeDeltas", fn := fun _ => fun
  | [d1, d2, d3] => { results := [.lit (.bool false)], args := [d1, d2, d3] }
  | _ => none }
def StoreDeltasWrongFalsely : Prop := storeDeltasRow.holds Try.pinned (OpenSpec.ofChange storeDeltasWrong)

/-- 'ergolaw11.StoreActs': WHATEVER THE INPUT: true; the input reads as it did. -/
def storeActsSpec : ChangeSpec := { name := "storeActs", fn := fun _ => fun
  | [d1, d2, d3, d4] => { results := [.lit (.bool true)], args := [d1, d2, d3, d4] }
  | _ => none }
def storeActsRow : OpenClaim := { program := "ytnjjjfffppllfaa", sum := "1b395e4a6afd216440122383f0105b6f87e565dde20d1f422dae623b49fdb863", func := "ergo/ergolaw11.StoreActs", spec := "storeActs", unfollowed := true, recurses := true, apart := false }
def StoreActsSaid : Prop := storeActsRow.holds Try.pinned (OpenSpec.ofChange storeActsSpec)

/-- ITS FALSE NEIGHBOUR: 'it returns false'. Refute it at one input. -/
def storeActsWrong : ChangeSpec := { name := "storeActs", fn := fun _ => fun
  | [d1, d2, d3, d4] => { results := [.lit (.bool false)], args := [d1, d2, d3, d4] }
  | _ => none }
def StoreActsWrongFalsely : Prop := storeActsRow.holds Try.pinned (OpenSpec.ofChange storeActsWrong)

/-- 'ergolaw08.JoinMany': WHATEVER THE INPUT: true; the input reads as it did. -/
def joinManySpec : ChangeSpec := { name := "joinMany", fn := fun _ => fun
  | [d1, d2, d3] => { results := [.lit (.bool true)], args := [d1, d2, d3] }
  | _ => none }
def joinManyRow : OpenClaim := { program := "ytnjjjfffppllfaa", sum := "1b395e4a6afd216440122383f0105b6f87e565dde20d1f422dae623b49fdb863", func := "ergo/ergolaw08.JoinMany", spec := "joinMany", unfollowed := true, recurses := true, apart := false }
def JoinManySaid : Prop := joinManyRow.holds Try.pinned (OpenSpec.ofChange joinManySpec)

/-- ITS FALSE NEIGHBOUR: 'it returns false'. Refute it at one input. -/
def joinManyWrong : ChangeSpec := { name := "joinMany", fn := fun _ => fun
  | [d1, d2, d3] => { results := [.lit (.bool false)], args := [d1, d2, d3] }
  | _ => none }
def JoinManyWrongFalsely : Prop := joinManyRow.holds Try.pinned (OpenSpec.ofChange joinManyWrong)

/-- 'ergolaw08.JoinPairs': WHATEVER THE INPUT: true; the input reads as it did. -/
def joinPairsSpec : ChangeSpec := { name := "joinPairs", fn := fun _ => fun
  | [d1, d2] => { results := [.lit (.bool true)], args := [d1, d2] }
  | _ => none }
def joinPairsRow : OpenClaim := { program := "ytnjjjfffppllfaa", sum := "1b395e4a6afd216440122383f0105b6f87e565dde20d1f422dae623b49fdb863", func := "ergo/ergolaw08.JoinPairs", spec := "joinPairs", unfollowed := true, recurses := true, apart := false }
def JoinPairsSaid : Prop := joinPairsRow.holds Try.pinned (OpenSpec.ofChange joinPairsSpec)

/-- ITS FALSE NEIGHBOUR: 'it returns false'. Refute it at one input. -/
def joinPairsWrong : ChangeSpec := { name := "joinPairs", fn := fun _ => fun
  | [d1, d2] => { results := [.lit (.bool false)], args := [d1, d2] }
  | _ => none }
def JoinPairsWrongFalsely : Prop := joinPairsRow.holds Try.pinned (OpenSpec.ofChange joinPairsWrong)

/-- 'ergolaw08.JoinTurned': WHATEVER THE INPUT: true; the input reads as it did. -/
def joinTurnedSpec : ChangeSpec := { name := "joinTurned", fn := fun _ => fun
  | [d] => { results := [.lit (.bool true)], args := [d] }
  | _ => none }
def joinTurnedRow : OpenClaim := { program := "ytnjjjfffppllfaa", sum := "1b395e4a6afd216440122383f0105b6f87e565dde20d1f422dae623b49fdb863", func := "ergo/ergolaw08.JoinTurned", spec := "joinTurned", unfollowed := true, recurses := true, apart := false }
def JoinTurnedSaid : Prop := joinTurnedRow.holds Try.pinned (OpenSpec.ofChange joinTurnedSpec)

/-- ITS FALSE NEIGHBOUR: 'it returns false'. Refute it at one input. -/
def joinTurnedWrong : ChangeSpec := { name := "joinTurned", fn := fun _ => fun
  | [d] => { results := [.lit (.bool false)], args := [d] }
  | _ => none }
def JoinTurnedWrongFalsely : Prop := joinTurnedRow.holds Try.pinned (OpenSpec.ofChange joinTurnedWrong)

/-- 'ergolaw08.JoinParts': WHATEVER THE INPUT: true; the input reads as it did. -/
def joinPartsSpec : ChangeSpec := { name := "joinParts", fn := fun _ => fun
  | [d1, d2] => { results := [.lit (.bool true)], args := [d1, d2] }
  | _ => none }
def joinPartsRow : OpenClaim := { program := "ytnjjjfffppllfaa", sum := "1b395e4a6afd216440122383f0105b6f87e565dde20d1f422dae623b49fdb863", func := "ergo/ergolaw08.JoinParts", spec := "joinParts", unfollowed := true, recurses := true, apart := false }
def JoinPartsSaid : Prop := joinPartsRow.holds Try.pinned (OpenSpec.ofChange joinPartsSpec)

/-- ITS FALSE NEIGHBOUR: 'it returns false'. Refute it at one input. -/
def joinPartsWrong : ChangeSpec := { name := "joinParts", fn := fun _ => fun
  | [d1, d2] => { results := [.lit (.bool false)], args := [d1, d2] }
  | _ => none }
def JoinPartsWrongFalsely : Prop := joinPartsRow.holds Try.pinned (OpenSpec.ofChange joinPartsWrong)

/- THE SECOND FORM. 'bulk': how many values and letters a reading holds, each counted each time it is reached (what is shared counts as often as it is met; a slice's spare places count too). A statement '..UptoSaid' is the law's where the arguments, and the package variables that the reading takes, are together of bulk at most 1048576: NARROWER than '..Said'. Prove '..Said' where nothing that the law and all that it calls make is longer than what came in: it says more and counts as full. Else prove '..UptoSaid'. A law counts once. -/
mutual
def uptoBulk {H : Type} : DataW H → Nat
  | .lit (.string bytes) => bytes.length + 1
  | .lit _ => 1
  | .nil => 1
  | .ptr d => uptoBulk d + 1
  | .slice elems spare => uptoBulkAll elems + uptoBulkAll spare + 1
  | .agg parts => uptoBulkAll parts + 1
  | .iface _ d => uptoBulk d + 1
  | .map entries => uptoBulkEntries entries + 1
  | .held _ => 1
def uptoBulkAll {H : Type} : List (DataW H) → Nat
  | [] => 0
  | d :: r => uptoBulk d + uptoBulkAll r
def uptoBulkEntries {H : Type} : List (Lit × DataW H) → Nat
  | [] => 0
  | x :: r => uptoBulkEntry x + uptoBulkEntries r
def uptoBulkEntry {H : Type} : Lit × DataW H → Nat
  | (.string bytes, d) => bytes.length + uptoBulk d + 1
  | (_, d) => uptoBulk d + 1
 end
def uptoSmall : (H : Type) → List (DataW H) → Bool := fun _ ds => decide (uptoBulkAll ds ≤ 1048576)
def OpenSpec.upto (s : _root_.Go.ChangeSpec) : _root_.Go.OpenSpec := { _root_.Go.OpenSpec.ofChange s with cond := some uptoSmall }

/-- 'ergolaw06.MergeHeap', WHERE WHAT IT READS IS OF BULK AT MOST 1048576: true; the input reads as it did. -/
def mergeHeapUptoRow : OpenClaim := { program := "ytnjjjfffppllfaa", sum := "1b395e4a6afd216440122383f0105b6f87e565dde20d1f422dae623b49fdb863", func := "ergo/ergolaw06.MergeHeap", spec := "mergeHeap", unfollowed := true, recurses := true, apart := false, narrowed := true }
def MergeHeapUptoSaid : Prop := mergeHeapUptoRow.holds Try.pinned (OpenSpec.upto mergeHeapSpec)

/-- 'ergolaw17.GraphComponents', WHERE WHAT IT READS IS OF BULK AT MOST 1048576: true; the input reads as it did. -/
def graphComponentsUptoRow : OpenClaim := { program := "ytnjjjfffppllfaa", sum := "1b395e4a6afd216440122383f0105b6f87e565dde20d1f422dae623b49fdb863", func := "ergo/ergolaw17.GraphComponents", spec := "graphComponents", unfollowed := true, recurses := true, apart := false, narrowed := true }
def GraphComponentsUptoSaid : Prop := graphComponentsUptoRow.holds Try.pinned (OpenSpec.upto graphComponentsSpec)

/-- 'ergolaw17.GraphRaw', WHERE WHAT IT READS IS OF BULK AT MOST 1048576: true; the input reads as it did. -/
def graphRawUptoRow : OpenClaim := { program := "ytnjjjfffppllfaa", sum := "1b395e4a6afd216440122383f0105b6f87e565dde20d1f422dae623b49fdb863", func := "ergo/ergolaw17.GraphRaw", spec := "graphRaw", unfollowed := true, recurses := true, apart := false, narrowed := true }
def GraphRawUptoSaid : Prop := graphRawUptoRow.holds Try.pinned (OpenSpec.upto graphRawSpec)

/-- 'ergolaw17.GraphLong', WHERE WHAT IT READS IS OF BULK AT MOST 1048576: true; the input reads as it did. -/
def graphLongUptoRow : OpenClaim := { program := "ytnjjjfffppllfaa", sum := "1b395e4a6afd216440122383f0105b6f87e565dde20d1f422dae623b49fdb863", func := "ergo/ergolaw17.GraphLong", spec := "graphLong", unfollowed := true, recurses := true, apart := false, narrowed := true }
def GraphLongUptoSaid : Prop := graphLongUptoRow.holds Try.pinned (OpenSpec.upto graphLongSpec)

/-- 'ergolaw17.GraphBack', WHERE WHAT IT READS IS OF BULK AT MOST 1048576: true; the input reads as it did. -/
def graphBackUptoRow : OpenClaim := { program := "ytnjjjfffppllfaa", sum := "1b395e4a6afd216440122383f0105b6f87e565dde20d1f422dae623b49fdb863", func := "ergo/ergolaw17.GraphBack", spec := "graphBack", unfollowed := true, recurses := true, apart := false, narrowed := true }
def GraphBackUptoSaid : Prop := graphBackUptoRow.holds Try.pinned (OpenSpec.upto graphBackSpec)

/-- 'ergolaw10.BestPuts', WHERE WHAT IT READS IS OF BULK AT MOST 1048576: true; the input reads as it did. -/
def bestPutsUptoRow : OpenClaim := { program := "ytnjjjfffppllfaa", sum := "1b395e4a6afd216440122383f0105b6f87e565dde20d1f422dae623b49fdb863", func := "ergo/ergolaw10.BestPuts", spec := "bestPuts", unfollowed := true, recurses := true, apart := false, narrowed := true }
def BestPutsUptoSaid : Prop := bestPutsUptoRow.holds Try.pinned (OpenSpec.upto bestPutsSpec)

/-- 'ergolaw10.BestAdds', WHERE WHAT IT READS IS OF BULK AT MOST 1048576: true; the input reads as it did. -/
def bestAddsUptoRow : OpenClaim := { program := "ytnjjjfffppllfaa", sum := "1b395e4a6afd216440122383f0105b6f87e565dde20d1f422dae623b49fdb863", func := "ergo/ergolaw10.BestAdds", spec := "bestAdds", unfollowed := true, recurses := true, apart := false, narrowed := true }
def BestAddsUptoSaid : Prop := bestAddsUptoRow.holds Try.pinned (OpenSpec.upto bestAddsSpec)

/-- 'ergolaw08.JoinSemis', WHERE WHAT IT READS IS OF BULK AT MOST 1048576: true; the input reads as it did. -/
def joinSemisUptoRow : OpenClaim := { program := "ytnjjjfffppllfaa", sum := "1b395e4a6afd216440122383f0105b6f87e565dde20d1f422dae623b49fdb863", func := "ergo/ergolaw08.JoinSemis", spec := "joinSemis", unfollowed := true, recurses := true, apart := false, narrowed := true }
def JoinSemisUptoSaid : Prop := joinSemisUptoRow.holds Try.pinned (OpenSpec.upto joinSemisSpec)

/-- 'ergolaw10.BestAgain', WHERE WHAT IT READS IS OF BULK AT MOST 1048576: true; the input reads as it did. -/
def bestAgainUptoRow : OpenClaim := { program := "ytnjjjfffppllfaa", sum := "1b395e4a6afd216440122383f0105b6f87e565dde20d1f422dae623b49fdb863", func := "ergo/ergolaw10.BestAgain", spec := "bestAgain", unfollowed := true, recurses := true, apart := false, narrowed := true }
def BestAgainUptoSaid : Prop := bestAgainUptoRow.holds Try.pinned (OpenSpec.upto bestAgainSpec)

/-- 'ergolaw06.MergeRows', WHERE WHAT IT READS IS OF BULK AT MOST 1048576: true; the input reads as it did. -/
def mergeRowsUptoRow : OpenClaim := { program := "ytnjjjfffppllfaa", sum := "1b395e4a6afd216440122383f0105b6f87e565dde20d1f422dae623b49fdb863", func := "ergo/ergolaw06.MergeRows", spec := "mergeRows", unfollowed := true, recurses := true, apart := false, narrowed := true }
def MergeRowsUptoSaid : Prop := mergeRowsUptoRow.holds Try.pinned (OpenSpec.upto mergeRowsSpec)

/-- 'ergolaw11.StoreRuns', WHERE WHAT IT READS IS OF BULK AT MOST 1048576: true; the input reads as it did. -/
def storeRunsUptoRow : OpenClaim := { program := "ytnjjjfffppllfaa", sum := "1b395e4a6afd216440122383f0105b6f87e565dde20d1f422dae623b49fdb863", func := "ergo/ergolaw11.StoreRuns", spec := "storeRuns", unfollowed := true, recurses := true, apart := false, narrowed := true }
def StoreRunsUptoSaid : Prop := storeRunsUptoRow.holds Try.pinned (OpenSpec.upto storeRunsSpec)

/-- 'ergolaw11.StoreWidths', WHERE WHAT IT READS IS OF BULK AT MOST 1048576: true; the input reads as it did. -/
def storeWidthsUptoRow : OpenClaim := { program := "ytnjjjfffppllfaa", sum := "1b395e4a6afd216440122383f0105b6f87e565dde20d1f422dae623b49fdb863", func := "ergo/ergolaw11.StoreWidths", spec := "storeWidths", unfollowed := true, recurses := true, apart := false, narrowed := true }
def StoreWidthsUptoSaid : Prop := storeWidthsUptoRow.holds Try.pinned (OpenSpec.upto storeWidthsSpec)

/-- 'ergolaw11.StoreDeltas', WHERE WHAT IT READS IS OF BULK AT MOST 1048576: true; the input reads as it did. -/
def storeDeltasUptoRow : OpenClaim := { program := "ytnjjjfffppllfaa", sum := "1b395e4a6afd216440122383f0105b6f87e565dde20d1f422dae623b49fdb863", func := "ergo/ergolaw11.StoreDeltas", spec := "storeDeltas", unfollowed := true, recurses := true, apart := false, narrowed := true }
def StoreDeltasUptoSaid : Prop := storeDeltasUptoRow.holds Try.pinned (OpenSpec.upto storeDeltasSpec)

/-- 'ergolaw11.StoreActs', WHERE WHAT IT READS IS OF BULK AT MOST 1048576: true; the input reads as it did. -/
def storeActsUptoRow : OpenClaim := { program := "ytnjjjfffppllfaa", sum := "1b395e4a6afd216440122383f0105b6f87e565dde20d1f422dae623b49fdb863", func := "ergo/ergolaw11.StoreActs", spec := "storeActs", unfollowed := true, recurses := true, apart := false, narrowed := true }
def StoreActsUptoSaid : Prop := storeActsUptoRow.holds Try.pinned (OpenSpec.upto storeActsSpec)

/-- 'ergolaw08.JoinMany', WHERE WHAT IT READS IS OF BULK AT MOST 1048576: true; the input reads as it did. -/
def joinManyUptoRow : OpenClaim := { program := "ytnjjjfffppllfaa", sum := "1b395e4a6afd216440122383f0105b6f87e565dde20d1f422dae623b49fdb863", func := "ergo/ergolaw08.JoinMany", spec := "joinMany", unfollowed := true, recurses := true, apart := false, narrowed := true }
def JoinManyUptoSaid : Prop := joinManyUptoRow.holds Try.pinned (OpenSpec.upto joinManySpec)

/-- 'ergolaw08.JoinPairs', WHERE WHAT IT READS IS OF BULK AT MOST 1048576: true; the input reads as it did. -/
def joinPairsUptoRow : OpenClaim := { program := "ytnjjjfffppllfaa", sum := "1b395e4a6afd216440122383f0105b6f87e565dde20d1f422dae623b49fdb863", func := "ergo/ergolaw08.JoinPairs", spec := "joinPairs", unfollowed := true, recurses := true, apart := false, narrowed := true }
def JoinPairsUptoSaid : Prop := joinPairsUptoRow.holds Try.pinned (OpenSpec.upto joinPairsSpec)

/-- 'ergolaw08.JoinTurned', WHERE WHAT IT READS IS OF BULK AT MOST 1048576: true; the input reads as it did. -/
def joinTurnedUptoRow : OpenClaim := { program := "ytnjjjfffppllfaa", sum := "1b395e4a6afd216440122383f0105b6f87e565dde20d1f422dae623b49fdb863", func := "ergo/ergolaw08.JoinTurned", spec := "joinTurned", unfollowed := true, recurses := true, apart := false, narrowed := true }
def JoinTurnedUptoSaid : Prop := joinTurnedUptoRow.holds Try.pinned (OpenSpec.upto joinTurnedSpec)

/-- 'ergolaw08.JoinParts', WHERE WHAT IT READS IS OF BULK AT MOST 1048576: true; the input reads as it did. -/
def joinPartsUptoRow : OpenClaim := { program := "ytnjjjfffppllfaa", sum := "1b395e4a6afd216440122383f0105b6f87e565dde20d1f422dae623b49fdb863", func := "ergo/ergolaw08.JoinParts", spec := "joinParts", unfollowed := true, recurses := true, apart := false, narrowed := true }
def JoinPartsUptoSaid : Prop := joinPartsUptoRow.holds Try.pinned (OpenSpec.upto joinPartsSpec)

end Rows
end Go.Proofs.Ytnjjjfffppllfaa
