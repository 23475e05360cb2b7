/-
  No cell of these rows narrows 'for every input' (looked for: loops, veiled, ifaces, maps, wideKeys, modest, calm, conditions, laid).
  DERIVED. THE GIVEN ROWS OF THIS SEAT. 6 by the template 'for every input the law returns true; each argument reads behind the call as it read before'; 0 by the template 'total and deterministic' (their statements: YtomgfhapmhagnaaTotals.lean).
  GIVEN WITH THE SEED: the statements are not yours to turn. If you find one false, say at which input.
  Laid BY PROGRAM, IN A SANDBOX (cutbox-rows.mjs): the forced cells as the released guide's own fill.sh prints them over the translation 4d482e0ed90958d2… (all of the seat's roots in one cut). By AI agents, Wed Nov 11 2026. No macro, syntax, notation, axiom, sorry.
-/
import Derived.Test.YtomgfhapmhagnaaChecked
import GoSem.Claim
import GoSem.ClaimJoined
import GoSem.ClaimMapViews
import Derived.JoinedTies
import Derived.KernelRfl
namespace Go.Proofs.Ytomgfhapmhagnaa
/- THE CELL 'sum', in the pinned program and in every row, IS THE sha256 OF THE DUMP (.gsa) THAT YtomgfhapmhagnaaProg.lean LOADS. Nothing in Lean hashes anything: it is a label: what it is worth is what the hold of that sum in a sandbox is worth. -/
noncomputable def Try.pinned : Pinned := { name := "ytomgfhapmhagnaa", sum := "4d482e0ed90958d2b5bc80ddacd29a0a9d494353dbc6408891c2c645c6492e00", checked := Try.checked }
namespace Rows
def none {H : Type} : Left H := { results := [], args := [] }

/-- 'gristmilllaw03.DictBuilds': WHATEVER THE INPUT: true; the input reads as it did. -/
def dictBuildsSpec : ChangeSpec := { name := "dictBuilds", fn := fun _ => fun
  | [d1, d2, d3] => { results := [.lit (.bool true)], args := [d1, d2, d3] }
  | _ => none }
def dictBuildsRow : OpenClaim := { program := "ytomgfhapmhagnaa", sum := "4d482e0ed90958d2b5bc80ddacd29a0a9d494353dbc6408891c2c645c6492e00", func := "gristmill/gristmilllaw03.DictBuilds", spec := "dictBuilds", unfollowed := true, recurses := true, apart := false }
def DictBuildsSaid : Prop := dictBuildsRow.holds Try.pinned (OpenSpec.ofChange dictBuildsSpec)

/-- ITS FALSE NEIGHBOUR: 'it returns false'. Refute it at one input. -/
def dictBuildsWrong : ChangeSpec := { name := "dictBuilds", fn := fun _ => fun
  | [d1, d2, d3] => { results := [.lit (.bool false)], args := [d1, d2, d3] }
  | _ => none }
def DictBuildsWrongFalsely : Prop := dictBuildsRow.holds Try.pinned (OpenSpec.ofChange dictBuildsWrong)

/-- 'gristmilllaw03.DictOrders': WHATEVER THE INPUT: true; the input reads as it did. -/
def dictOrdersSpec : ChangeSpec := { name := "dictOrders", fn := fun _ => fun
  | [d1, d2] => { results := [.lit (.bool true)], args := [d1, d2] }
  | _ => none }
def dictOrdersRow : OpenClaim := { program := "ytomgfhapmhagnaa", sum := "4d482e0ed90958d2b5bc80ddacd29a0a9d494353dbc6408891c2c645c6492e00", func := "gristmill/gristmilllaw03.DictOrders", spec := "dictOrders", unfollowed := true, recurses := true, apart := false }
def DictOrdersSaid : Prop := dictOrdersRow.holds Try.pinned (OpenSpec.ofChange dictOrdersSpec)

/-- ITS FALSE NEIGHBOUR: 'it returns false'. Refute it at one input. -/
def dictOrdersWrong : ChangeSpec := { name := "dictOrders", fn := fun _ => fun
  | [d1, d2] => { results := [.lit (.bool false)], args := [d1, d2] }
  | _ => none }
def DictOrdersWrongFalsely : Prop := dictOrdersRow.holds Try.pinned (OpenSpec.ofChange dictOrdersWrong)

/-- 'gristmilllaw03.DictNone': WHATEVER THE INPUT: true; the input reads as it did. -/
def dictNoneSpec : ChangeSpec := { name := "dictNone", fn := fun _ => fun
  | [d1, d2] => { results := [.lit (.bool true)], args := [d1, d2] }
  | _ => none }
def dictNoneRow : OpenClaim := { program := "ytomgfhapmhagnaa", sum := "4d482e0ed90958d2b5bc80ddacd29a0a9d494353dbc6408891c2c645c6492e00", func := "gristmill/gristmilllaw03.DictNone", spec := "dictNone", unfollowed := true, recurses := true, apart := false }
def DictNoneSaid : Prop := dictNoneRow.holds Try.pinned (OpenSpec.ofChange dictNoneSpec)

/-- ITS FALSE NEIGHBOUR: 'it returns false'. Refute it at one input. -/
def dictNoneWrong : ChangeSpec := { name := "dictNone", fn := fun _ => fun
  | [d1, d2] => { results := [.lit (.bool false)], args := [d1, d2] }
  | _ => none }
def DictNoneWrongFalsely : Prop := dictNoneRow.holds Try.pinned (OpenSpec.ofChange dictNoneWrong)

/-- 'gristmilllaw03.DictBegins': WHATEVER THE INPUT: true; the input reads as it did. -/
def dictBeginsSpec : ChangeSpec := { name := "dictBegins", fn := fun _ => fun
  | [d1, d2] => { results := [.lit (.bool true)], args := [d1, d2] }
  | _ => none }
def dictBeginsRow : OpenClaim := { program := "ytomgfhapmhagnaa", sum := "4d482e0ed90958d2b5bc80ddacd29a0a9d494353dbc6408891c2c645c6492e00", func := "gristmill/gristmilllaw03.DictBegins", spec := "dictBegins", unfollowed := true, recurses := true, apart := false }
def DictBeginsSaid : Prop := dictBeginsRow.holds Try.pinned (OpenSpec.ofChange dictBeginsSpec)

/-- ITS FALSE NEIGHBOUR: 'it returns false'. Refute it at one input. -/
def dictBeginsWrong : ChangeSpec := { name := "dictBegins", fn := fun _ => fun
  | [d1, d2] => { results := [.lit (.bool false)], args := [d1, d2] }
  | _ => none }
def DictBeginsWrongFalsely : Prop := dictBeginsRow.holds Try.pinned (OpenSpec.ofChange dictBeginsWrong)

/-- 'gristmilllaw03.DictParses': WHATEVER THE INPUT: true; the input reads as it did. -/
def dictParsesSpec : ChangeSpec := { name := "dictParses", fn := fun _ => fun
  | [d1, d2] => { results := [.lit (.bool true)], args := [d1, d2] }
  | _ => none }
def dictParsesRow : OpenClaim := { program := "ytomgfhapmhagnaa", sum := "4d482e0ed90958d2b5bc80ddacd29a0a9d494353dbc6408891c2c645c6492e00", func := "gristmill/gristmilllaw03.DictParses", spec := "dictParses", unfollowed := true, recurses := true, apart := false }
def DictParsesSaid : Prop := dictParsesRow.holds Try.pinned (OpenSpec.ofChange dictParsesSpec)

/-- ITS FALSE NEIGHBOUR: 'it returns false'. Refute it at one input. -/
def dictParsesWrong : ChangeSpec := { name := "dictParses", fn := fun _ => fun
  | [d1, d2] => { results := [.lit (.bool false)], args := [d1, d2] }
  | _ => none }
def DictParsesWrongFalsely : Prop := dictParsesRow.holds Try.pinned (OpenSpec.ofChange dictParsesWrong)

/-- 'gristmilllaw03.DictBack': WHATEVER THE INPUT: true; the input reads as it did. -/
def dictBackSpec : ChangeSpec := { name := "dictBack", fn := fun _ => fun
  | [d] => { results := [.lit (.bool true)], args := [d] }
  | _ => none }
def dictBackRow : OpenClaim := { program := "ytomgfhapmhagnaa", sum := "4d482e0ed90958d2b5bc80ddacd29a0a9d494353dbc6408891c2c645c6492e00", func := "gristmill/gristmilllaw03.DictBack", spec := "dictBack", unfollowed := true, recurses := true, apart := false }
def DictBackSaid : Prop := dictBackRow.holds Try.pinned (OpenSpec.ofChange dictBackSpec)

/-- ITS FALSE NEIGHBOUR: 'it returns false'. Refute it at one input. -/
def dictBackWrong : ChangeSpec := { name := "dictBack", fn := fun _ => fun
  | [d] => { results := [.lit (.bool false)], args := [d] }
  | _ => none }
def DictBackWrongFalsely : Prop := dictBackRow.holds Try.pinned (OpenSpec.ofChange dictBackWrong)

/- THE SECOND FORM. 'bulk': how many values and letters a reading holds, each counted each time it is reached (what is shared counts as often as it is met; a slice's spare places count too). A statement '..UptoSaid' is the law's where the arguments, and the package variables that the reading takes, are together of bulk at most 1048576: NARROWER than '..Said'. Prove '..Said' where nothing that the law and all that it calls make is longer than what came in: it says more and counts as full. Else prove '..UptoSaid'. A law counts once. -/
mutual
def uptoBulk {H : Type} : DataW H → Nat
  | .lit (.string bytes) => bytes.length + 1
  | .lit _ => 1
  | .nil => 1
  | .ptr d => uptoBulk d + 1
  | .slice elems spare => uptoBulkAll elems + uptoBulkAll spare + 1
  | .agg parts => uptoBulkAll parts + 1
  | .iface _ d => uptoBulk d + 1
  | .map entries => uptoBulkEntries entries + 1
  | .held _ => 1
def uptoBulkAll {H : Type} : List (DataW H) → Nat
  | [] => 0
  | d :: r => uptoBulk d + uptoBulkAll r
def uptoBulkEntries {H : Type} : List (Lit × DataW H) → Nat
  | [] => 0
  | x :: r => uptoBulkEntry x + uptoBulkEntries r
def uptoBulkEntry {H : Type} : Lit × DataW H → Nat
  | (.string bytes, d) => bytes.length + uptoBulk d + 1
  | (_, d) => uptoBulk d + 1
 end
def uptoSmall : (H : Type) → List (DataW H) → Bool := fun _ ds => decide (uptoBulkAll ds ≤ 1048576)
def OpenSpec.upto (s : _root_.Go.ChangeSpec) : _root_.Go.OpenSpec := { _root_.Go.OpenSpec.ofChange s with cond := some uptoSmall }

/-- 'gristmilllaw03.DictBuilds', WHERE WHAT IT READS IS OF BULK AT MOST 1048576: true; the input reads as it did. -/
def dictBuildsUptoRow : OpenClaim := { program := "ytomgfhapmhagnaa", sum := "4d482e0ed90958d2b5bc80ddacd29a0a9d494353dbc6408891c2c645c6492e00", func := "gristmill/gristmilllaw03.DictBuilds", spec := "dictBuilds", unfollowed := true, recurses := true, apart := false, narrowed := true }
def DictBuildsUptoSaid : Prop := dictBuildsUptoRow.holds Try.pinned (OpenSpec.upto dictBuildsSpec)

/-- 'gristmilllaw03.DictOrders', WHERE WHAT IT READS IS OF BULK AT MOST 1048576: true; the input reads as it did. -/
def dictOrdersUptoRow : OpenClaim := { program := "ytomgfhapmhagnaa", sum := "4d482e0ed90958d2b5bc80ddacd29a0a9d494353dbc6408891c2c645c6492e00", func := "gristmill/gristmilllaw03.DictOrders", spec := "dictOrders", unfollowed := true, recurses := true, apart := false, narrowed := true }
def DictOrdersUptoSaid : Prop := dictOrdersUptoRow.holds Try.pinned (OpenSpec.upto dictOrdersSpec)

/-- 'gristmilllaw03.DictNone', WHERE WHAT IT READS IS OF BULK AT MOST 1048576: true; the input reads as it did. -/
def dictNoneUptoRow : OpenClaim := { program := "ytomgfhapmhagnaa", sum := "4d482e0ed90958d2b5bc80ddacd29a0a9d494353dbc6408891c2c645c6492e00", func := "gristmill/gristmilllaw03.DictNone", spec := "dictNone", unfollowed := true, recurses := true, apart := false, narrowed := true }
def DictNoneUptoSaid : Prop := dictNoneUptoRow.holds Try.pinned (OpenSpec.upto dictNoneSpec)

/-- 'gristmilllaw03.DictBegins', WHERE WHAT IT READS IS OF BULK AT MOST 1048576: true; the input reads as it did. -/
def dictBeginsUptoRow : OpenClaim := { program := "ytomgfhapmhagnaa", sum := "4d482e0ed90958d2b5bc80ddacd29a0a9d494353dbc6408891c2c645c6492e00", func := "gristmill/gristmilllaw03.DictBegins", spec := "dictBegins", unfollowed := true, recurses := true, apart := false, narrowed := true }
def DictBeginsUptoSaid : Prop := dictBeginsUptoRow.holds Try.pinned (OpenSpec.upto dictBeginsSpec)

/-- 'gristmilllaw03.DictParses', WHERE WHAT IT READS IS OF BULK AT MOST 1048576: true; the input reads as it did. -/
def dictParsesUptoRow : OpenClaim := { program := "ytomgfhapmhagnaa", sum := "4d482e0ed90958d2b5bc80ddacd29a0a9d494353dbc6408891c2c645c6492e00", func := "gristmill/gristmilllaw03.DictParses", spec := "dictParses", unfollowed := true, recurses := true, apart := false, narrowed := true }
def DictParsesUptoSaid : Prop := dictParsesUptoRow.holds Try.pinned (OpenSpec.upto dictParsesSpec)

/-- 'gristmilllaw03.DictBack', WHERE WHAT IT READS IS OF BULK AT MOST 1048576: true; the input reads as it did. -/
def dictBackUptoRow : OpenClaim := { program := "ytomgfhapmhagnaa", sum := "4d482e0ed90958d2b5bc80ddacd29a0a9d494353dbc6408891c2c645c6492e00", func := "gristmill/gristmilllaw03.DictBack", spec := "dictBack", unfollowed := true, recurses := true, apart := false, narrowed := true }
def DictBackUptoSaid : Prop := dictBackUptoRow.holds Try.pinned (OpenSpec.upto dictBackSpec)

end Rows
end Go.Proofs.Ytomgfhapmhagnaa
