/-
  No cell of these rows narrows 'for every input' (looked for: loops, veiled, ifaces, maps, wideKeys, modest, calm, conditions, laid).
  DERIVED. THE GIVEN ROWS OF THIS SEAT. 7 by the template 'for every input the law returns true; each argument reads behind the call as it read before'; 0 by the template 'total and deterministic' (their statements: YtmjhgeinhhhodaaTotals.lean).
  GIVEN WITH THE SEED: the statements are not yours to turn. If you find one false, say at which input.
  Laid BY PROGRAM, IN A SANDBOX (cutbox-rows.mjs): the forced cells as the released guide's own fill.sh prints them over the translation bb6c42a80f0c0bf4… (all of the seat's roots in one cut). By AI agents, Wed Nov 11 2026. No macro, syntax, notation, axiom, sorry.
-/
import Derived.Test.YtmjhgeinhhhodaaChecked
import GoSem.Claim
import GoSem.ClaimJoined
import GoSem.ClaimMapViews
import Derived.JoinedTies
import Derived.KernelRfl
namespace Go.Proofs.Ytmjhgeinhhhodaa
/- THE CELL 'sum', in the pinned program and in every row, IS THE sha256 OF THE DUMP (.gsa) THAT YtmjhgeinhhhodaaProg.lean LOADS. Nothing in Lean hashes anything: it is a label: what it is worth is what the hold of that sum in a sandbox is worth. -/
noncomputable def Try.pinned : Pinned := { name := "ytmjhgeinhhhodaa", sum := "bb6c42a80f0c0bf41a1319c693de2cf266e24c8ac86d7e745dba19d032df46f8", checked := Try.checked }
namespace Rows
def none {H : Type} : Left H := { results := [], args := [] }

/-- 'gristmilllaw06.AggCounts': WHATEVER THE INPUT: true; the input reads as it did. -/
def aggCountsSpec : ChangeSpec := { name := "aggCounts", fn := fun _ => fun
  | [d1, d2] => { results := [.lit (.bool true)], args := [d1, d2] }
  | _ => none }
def aggCountsRow : OpenClaim := { program := "ytmjhgeinhhhodaa", sum := "bb6c42a80f0c0bf41a1319c693de2cf266e24c8ac86d7e745dba19d032df46f8", func := "gristmill/gristmilllaw06.AggCounts", spec := "aggCounts", unfollowed := true, recurses := true, apart := false }
def AggCountsSaid : Prop := aggCountsRow.holds Try.pinned (OpenSpec.ofChange aggCountsSpec)

/-- ITS FALSE NEIGHBOUR: 'it returns false'. Refute it at one input. -/
def aggCountsWrong : ChangeSpec := { name := "aggCounts", fn := fun _ => fun
  | [d1, d2] => { results := [.lit (.bool false)], args := [d1, d2] }
  | _ => none }
def AggCountsWrongFalsely : Prop := aggCountsRow.holds Try.pinned (OpenSpec.ofChange aggCountsWrong)

/-- 'gristmilllaw06.AggMerges': WHATEVER THE INPUT: true; the input reads as it did. -/
def aggMergesSpec : ChangeSpec := { name := "aggMerges", fn := fun _ => fun
  | [d1, d2, d3] => { results := [.lit (.bool true)], args := [d1, d2, d3] }
  | _ => none }
def aggMergesRow : OpenClaim := { program := "ytmjhgeinhhhodaa", sum := "bb6c42a80f0c0bf41a1319c693de2cf266e24c8ac86d7e745dba19d032df46f8", func := "gristmill/gristmilllaw06.AggMerges", spec := "aggMerges", unfollowed := true, recurses := true, apart := false }
def AggMergesSaid : Prop := aggMergesRow.holds Try.pinned (OpenSpec.ofChange aggMergesSpec)

/-- ITS FALSE NEIGHBOUR: 'it returns false'. Refute it at one input. -/
def aggMergesWrong : ChangeSpec := { name := "aggMerges", fn := fun _ => fun
  | [d1, d2, d3] => { results := [.lit (.bool false)], args := [d1, d2, d3] }
  | _ => none }
def AggMergesWrongFalsely : Prop := aggMergesRow.holds Try.pinned (OpenSpec.ofChange aggMergesWrong)

/-- 'gristmilllaw06.AggTurns': WHATEVER THE INPUT: true; the input reads as it did. -/
def aggTurnsSpec : ChangeSpec := { name := "aggTurns", fn := fun _ => fun
  | [d1, d2, d3, d4] => { results := [.lit (.bool true)], args := [d1, d2, d3, d4] }
  | _ => none }
def aggTurnsRow : OpenClaim := { program := "ytmjhgeinhhhodaa", sum := "bb6c42a80f0c0bf41a1319c693de2cf266e24c8ac86d7e745dba19d032df46f8", func := "gristmill/gristmilllaw06.AggTurns", spec := "aggTurns", unfollowed := true, recurses := true, apart := false }
def AggTurnsSaid : Prop := aggTurnsRow.holds Try.pinned (OpenSpec.ofChange aggTurnsSpec)

/-- ITS FALSE NEIGHBOUR: 'it returns false'. Refute it at one input. -/
def aggTurnsWrong : ChangeSpec := { name := "aggTurns", fn := fun _ => fun
  | [d1, d2, d3, d4] => { results := [.lit (.bool false)], args := [d1, d2, d3, d4] }
  | _ => none }
def AggTurnsWrongFalsely : Prop := aggTurnsRow.holds Try.pinned (OpenSpec.ofChange aggTurnsWrong)

/-- 'gristmilllaw06.AggOwn': WHATEVER THE INPUT: true; the input reads as it did. -/
def aggOwnSpec : ChangeSpec := { name := "aggOwn", fn := fun _ => fun
  | [d] => { results := [.lit (.bool true)], args := [d] }
  | _ => none }
def aggOwnRow : OpenClaim := { program := "ytmjhgeinhhhodaa", sum := "bb6c42a80f0c0bf41a1319c693de2cf266e24c8ac86d7e745dba19d032df46f8", func := "gristmill/gristmilllaw06.AggOwn", spec := "aggOwn", unfollowed := true, recurses := true, apart := false }
def AggOwnSaid : Prop := aggOwnRow.holds Try.pinned (OpenSpec.ofChange aggOwnSpec)

/-- ITS FALSE NEIGHBOUR: 'it returns false'. Refute it at one input. -/
def aggOwnWrong : ChangeSpec := { name := "aggOwn", fn := fun _ => fun
  | [d] => { results := [.lit (.bool false)], args := [d] }
  | _ => none }
def AggOwnWrongFalsely : Prop := aggOwnRow.holds Try.pinned (OpenSpec.ofChange aggOwnWrong)

/-- 'gristmilllaw06.AggBags': WHATEVER THE INPUT: true; the input reads as it did. -/
def aggBagsSpec : ChangeSpec := { name := "aggBags", fn := fun _ => fun
  | [d1, d2] => { results := [.lit (.bool true)], args := [d1, d2] }
  | _ => none }
def aggBagsRow : OpenClaim := { program := "ytmjhgeinhhhodaa", sum := "bb6c42a80f0c0bf41a1319c693de2cf266e24c8ac86d7e745dba19d032df46f8", func := "gristmill/gristmilllaw06.AggBags", spec := "aggBags", unfollowed := true, recurses := true, apart := false }
def AggBagsSaid : Prop := aggBagsRow.holds Try.pinned (OpenSpec.ofChange aggBagsSpec)

/-- ITS FALSE NEIGHBOUR: 'it returns false'. Refute it at one input. -/
def aggBagsWrong : ChangeSpec := { name := "aggBags", fn := fun _ => fun
  | [d1, d2] => { results := [.lit (.bool false)], args := [d1, d2] }
  | _ => none }
def AggBagsWrongFalsely : Prop := aggBagsRow.holds Try.pinned (OpenSpec.ofChange aggBagsWrong)

/-- 'gristmilllaw06.AggChecks': WHATEVER THE INPUT: true; the input reads as it did. -/
def aggChecksSpec : ChangeSpec := { name := "aggChecks", fn := fun _ => fun
  | [d1, d2, d3, d4] => { results := [.lit (.bool true)], args := [d1, d2, d3, d4] }
  | _ => none }
def aggChecksRow : OpenClaim := { program := "ytmjhgeinhhhodaa", sum := "bb6c42a80f0c0bf41a1319c693de2cf266e24c8ac86d7e745dba19d032df46f8", func := "gristmill/gristmilllaw06.AggChecks", spec := "aggChecks", unfollowed := true, recurses := true, apart := false }
def AggChecksSaid : Prop := aggChecksRow.holds Try.pinned (OpenSpec.ofChange aggChecksSpec)

/-- ITS FALSE NEIGHBOUR: 'it returns false'. Refute it at one input. -/
def aggChecksWrong : ChangeSpec := { name := "aggChecks", fn := fun _ => fun
  | [d1, d2, d3, d4] => { results := [.lit (.bool false)], args := [d1, d2, d3, d4] }
  | _ => none }
def AggChecksWrongFalsely : Prop := aggChecksRow.holds Try.pinned (OpenSpec.ofChange aggChecksWrong)

/-- 'gristmilllaw06.AggMay': WHATEVER THE INPUT: true; the input reads as it did. -/
def aggMaySpec : ChangeSpec := { name := "aggMay", fn := fun _ => fun
  | [d1, d2] => { results := [.lit (.bool true)], args := [d1, d2] }
  | _ => none }
def aggMayRow : OpenClaim := { program := "ytmjhgeinhhhodaa", sum := "bb6c42a80f0c0bf41a1319c693de2cf266e24c8ac86d7e745dba19d032df46f8", func := "gristmill/gristmilllaw06.AggMay", spec := "aggMay", unfollowed := true, recurses := true, apart := false }
def AggMaySaid : Prop := aggMayRow.holds Try.pinned (OpenSpec.ofChange aggMaySpec)

/-- ITS FALSE NEIGHBOUR: 'it returns false'. Refute it at one input. -/
def aggMayWrong : ChangeSpec := { name := "aggMay", fn := fun _ => fun
  | [d1, d2] => { results := [.lit (.bool false)], args := [d1, d2] }
  | _ => none }
def AggMayWrongFalsely : Prop := aggMayRow.holds Try.pinned (OpenSpec.ofChange aggMayWrong)

/- THE SECOND FORM. 'bulk': how many values and letters a reading holds, each counted each time it is reached (what is shared counts as often as it is met; a slice's spare places count too). A statement '..UptoSaid' is the law's where the arguments, and the package variables that the reading takes, are together of bulk at most 1048576: NARROWER than '..Said'. Prove '..Said' where nothing that the law and all that it calls make is longer than what came in: it says more and counts as full. Else prove '..UptoSaid'. A law counts once. -/
mutual
def uptoBulk {H : Type} : DataW H → Nat
  | .lit (.string bytes) => bytes.length + 1
  | .lit _ => 1
  | .nil => 1
  | .ptr d => uptoBulk d + 1
  | .slice elems spare => uptoBulkAll elems + uptoBulkAll spare + 1
  | .agg parts => uptoBulkAll parts + 1
  | .iface _ d => uptoBulk d + 1
  | .map entries => uptoBulkEntries entries + 1
  | .held _ => 1
def uptoBulkAll {H : Type} : List (DataW H) → Nat
  | [] => 0
  | d :: r => uptoBulk d + uptoBulkAll r
def uptoBulkEntries {H : Type} : List (Lit × DataW H) → Nat
  | [] => 0
  | x :: r => uptoBulkEntry x + uptoBulkEntries r
def uptoBulkEntry {H : Type} : Lit × DataW H → Nat
  | (.string bytes, d) => bytes.length + uptoBulk d + 1
  | (_, d) => uptoBulk d + 1
 end
def uptoSmall : (H : Type) → List (DataW H) → Bool := fun _ ds => decide (uptoBulkAll ds ≤ 1048576)
def OpenSpec.upto (s : _root_.Go.ChangeSpec) : _root_.Go.OpenSpec := { _root_.Go.OpenSpec.ofChange s with cond := some uptoSmall }

/-- 'gristmilllaw06.AggCounts', WHERE WHAT IT READS IS OF BULK AT MOST 1048576: true; the input reads as it did. -/
def aggCountsUptoRow : OpenClaim := { program := "ytmjhgeinhhhodaa", sum := "bb6c42a80f0c0bf41a1319c693de2cf266e24c8ac86d7e745dba19d032df46f8", func := "gristmill/gristmilllaw06.AggCounts", spec := "aggCounts", unfollowed := true, recurses := true, apart := false, narrowed := true }
def AggCountsUptoSaid : Prop := aggCountsUptoRow.holds Try.pinned (OpenSpec.upto aggCountsSpec)

/-- 'gristmilllaw06.AggMerges', WHERE WHAT IT READS IS OF BULK AT MOST 1048576: true; the input reads as it did. -/
def aggMergesUptoRow : OpenClaim := { program := "ytmjhgeinhhhodaa", sum := "bb6c42a80f0c0bf41a1319c693de2cf266e24c8ac86d7e745dba19d032df46f8", func := "gristmill/gristmilllaw06.AggMerges", spec := "aggMerges", unfollowed := true, recurses := true, apart := false, narrowed := true }
def AggMergesUptoSaid : Prop := aggMergesUptoRow.holds Try.pinned (OpenSpec.upto aggMergesSpec)

/-- 'gristmilllaw06.AggTurns', WHERE WHAT IT READS IS OF BULK AT MOST 1048576: true; the input reads as it did. -/
def aggTurnsUptoRow : OpenClaim := { program := "ytmjhgeinhhhodaa", sum := "bb6c42a80f0c0bf41a1319c693de2cf266e24c8ac86d7e745dba19d032df46f8", func := "gristmill/gristmilllaw06.AggTurns", spec := "aggTurns", unfollowed := true, recurses := true, apart := false, narrowed := true }
def AggTurnsUptoSaid : Prop := aggTurnsUptoRow.holds Try.pinned (OpenSpec.upto aggTurnsSpec)

/-- 'gristmilllaw06.AggOwn', WHERE WHAT IT READS IS OF BULK AT MOST 1048576: true; the input reads as it did. -/
def aggOwnUptoRow : OpenClaim := { program := "ytmjhgeinhhhodaa", sum := "bb6c42a80f0c0bf41a1319c693de2cf266e24c8ac86d7e745dba19d032df46f8", func := "gristmill/gristmilllaw06.AggOwn", spec := "aggOwn", unfollowed := true, recurses := true, apart := false, narrowed := true }
def AggOwnUptoSaid : Prop := aggOwnUptoRow.holds Try.pinned (OpenSpec.upto aggOwnSpec)

/-- 'gristmilllaw06.AggBags', WHERE WHAT IT READS IS OF BULK AT MOST 1048576: true; the input reads as it did. -/
def aggBagsUptoRow : OpenClaim := { program := "ytmjhgeinhhhodaa", sum := "bb6c42a80f0c0bf41a1319c693de2cf266e24c8ac86d7e745dba19d032df46f8", func := "gristmill/gristmilllaw06.AggBags", spec := "aggBags", unfollowed := true, recurses := true, apart := false, narrowed := true }
def AggBagsUptoSaid : Prop := aggBagsUptoRow.holds Try.pinned (OpenSpec.upto aggBagsSpec)

/-- 'gristmilllaw06.AggChecks', WHERE WHAT IT READS IS OF BULK AT MOST 1048576: true; the input reads as it did. -/
def aggChecksUptoRow : OpenClaim := { program := "ytmjhgeinhhhodaa", sum := "bb6c42a80f0c0bf41a1319c693de2cf266e24c8ac86d7e745dba19d032df46f8", func := "gristmill/gristmilllaw06.AggChecks", spec := "aggChecks", unfollowed := true, recurses := true, apart := false, narrowed := true }
def AggChecksUptoSaid : Prop := aggChecksUptoRow.holds Try.pinned (OpenSpec.upto aggChecksSpec)

/-- 'gristmilllaw06.AggMay', WHERE WHAT IT READS IS OF BULK AT MOST 1048576: true; the input reads as it did. -/
def aggMayUptoRow : OpenClaim := { program := "ytmjhgeinhhhodaa", sum := "bb6c42a80f0c0bf41a1319c693de2cf266e24c8ac86d7e745dba19d032df46f8", func := "gristmill/gristmilllaw06.AggMay", spec := "aggMay", unfollowed := true, recurses := true, apart := false, narrowed := true }
def AggMayUptoSaid : Prop := aggMayUptoRow.holds Try.pinned (OpenSpec.upto aggMaySpec)

end Rows
end Go.Proofs.Ytmjhgeinhhhodaa
