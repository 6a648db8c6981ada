/-
  No cell of these rows narrows 'for every input' (looked for: loops, veiled, ifaces, maps, wideKeys, modest, calm, conditions, laid).
  DERIVED. THE GIVEN ROWS OF THIS SEAT. 11 by the template 'for every input the law returns true; each argument reads behind the call as it read before'; 0 by the template 'total and deterministic' (their statements: YteephgpefhodnaaTotals.lean).
  GIVEN WITH THE SEED: the statements are not yours to turn. If you find one false, say at which input.
  Laid BY PROGRAM, IN A SANDBOX (cutbox-rows.mjs): the forced cells as the released guide's own fill.sh prints them over the translation f2ea734a134b2381… (all of the seat's roots in one cut). By AI agents, Wed Nov 11 2026. No macro, syntax, notation, axiom, sorry.
-/
import Derived.Test.YteephgpefhodnaaChecked
import GoSem.Claim
import GoSem.ClaimJoined
import GoSem.ClaimMapViews
import Derived.JoinedTies
import Derived.KernelRfl
namespace Go.Proofs.Yteephgpefhodnaa
/- THE CELL 'sum', in the pinned program and in every row, IS THE sha256 OF THE DUMP (.gsa) THAT YteephgpefhodnaaProg.lean LOADS. Nothing in Lean hashes anything: it is a label: what it is worth is what the hold of that sum in a sandbox is worth. -/
noncomputable def Try.pinned : Pinned := { name := "yteephgpefhodnaa", sum := "f2ea734a134b2381c61385dee7dacea51db14da94b0923c568c2cdcd4751bd4c", checked := Try.checked }
namespace Rows
def none {H : Type} : Left H := { results := [], args := [] }

/-- 'spanslaw.Names': WHATEVER THE INPUT: true; the input reads as it did. -/
def namesSpec : ChangeSpec := { name := "names", fn := fun _ => fun
  | [] => { results := [.lit (.bool true)], args := [] }
  | _ => none }
def namesRow : OpenClaim := { program := "yteephgpefhodnaa", sum := "f2ea734a134b2381c61385dee7dacea51db14da94b0923c568c2cdcd4751bd4c", func := "spans/spanslaw.Names", spec := "names", apart := false }
def NamesSaid : Prop := namesRow.holds Try.pinned (OpenSpec.ofChange namesSpec)

/-- ITS FALSE NEIGHBOUR: 'it returns false'. Refute it at one input. -/
def namesWrong : ChangeSpec := { name := "names", fn := fun _ => fun
  | [] => { results := [.lit (.bool false)], args := [] }
  | _ => none }
def NamesWrongFalsely : Prop := namesRow.holds Try.pinned (OpenSpec.ofChange namesWrong)

/-- 'spanslaw.Builds': WHATEVER THE INPUT: true; the input reads as it did. -/
def buildsSpec : ChangeSpec := { name := "builds", fn := fun _ => fun
  | [d1, d2] => { results := [.lit (.bool true)], args := [d1, d2] }
  | _ => none }
def buildsRow : OpenClaim := { program := "yteephgpefhodnaa", sum := "f2ea734a134b2381c61385dee7dacea51db14da94b0923c568c2cdcd4751bd4c", func := "spans/spanslaw.Builds", spec := "builds", inPlace := ["math.Float64frombits", "math.Float64bits"], apart := false }
def BuildsSaid : Prop := buildsRow.holds Try.pinned (OpenSpec.ofChange buildsSpec)

/-- ITS FALSE NEIGHBOUR: 'it returns false'. Refute it at one input. -/
def buildsWrong : ChangeSpec := { name := "builds", fn := fun _ => fun
  | [d1, d2] => { results := [.lit (.bool false)], args := [d1, d2] }
  | _ => none }
def BuildsWrongFalsely : Prop := buildsRow.holds Try.pinned (OpenSpec.ofChange buildsWrong)

/-- 'spanslaw.Nexts': WHATEVER THE INPUT: true; the input reads as it did. -/
def nextsSpec : ChangeSpec := { name := "nexts", fn := fun _ => fun
  | [d] => { results := [.lit (.bool true)], args := [d] }
  | _ => none }
def nextsRow : OpenClaim := { program := "yteephgpefhodnaa", sum := "f2ea734a134b2381c61385dee7dacea51db14da94b0923c568c2cdcd4751bd4c", func := "spans/spanslaw.Nexts", spec := "nexts", inPlace := ["math.Float64frombits", "math.Float64bits"], apart := false }
def NextsSaid : Prop := nextsRow.holds Try.pinned (OpenSpec.ofChange nextsSpec)

/-- ITS FALSE NEIGHBOUR: 'it returns false'. Refute it at one input. -/
def nextsWrong : ChangeSpec := { name := "nexts", fn := fun _ => fun
  | [d] => { results := [.lit (.bool false)], args := [d] }
  | _ => none }
def NextsWrongFalsely : Prop := nextsRow.holds Try.pinned (OpenSpec.ofChange nextsWrong)

/-- 'spanskeep.Reckons': WHATEVER THE INPUT: true; the input reads as it did. -/
def reckonsSpec : ChangeSpec := { name := "reckons", fn := fun _ => fun
  | [d1, d2, d3, d4, d5] => { results := [.lit (.bool true)], args := [d1, d2, d3, d4, d5] }
  | _ => none }
def reckonsRow : OpenClaim := { program := "yteephgpefhodnaa", sum := "f2ea734a134b2381c61385dee7dacea51db14da94b0923c568c2cdcd4751bd4c", func := "spans/spanskeep.Reckons", spec := "reckons", inPlace := ["math.Float64frombits", "math.Float64bits", "math.sqrt", "math.FMA", "math.archFloor", "math.archTrunc"], unfollowed := true, recurses := true, named := ["math/bits.divideError", "math/bits.overflowError"], apart := false }
def ReckonsSaid : Prop := reckonsRow.holds Try.pinned (OpenSpec.ofChange reckonsSpec)

/-- ITS FALSE NEIGHBOUR: 'it returns false'. Refute it at one input. -/
def reckonsWrong : ChangeSpec := { name := "reckons", fn := fun _ => fun
  | [d1, d2, d3, d4, d5] => { results := [.lit (.bool false)], args := [d1, d2, d3, d4, d5] }
  | _ => none }
def ReckonsWrongFalsely : Prop := reckonsRow.holds Try.pinned (OpenSpec.ofChange reckonsWrong)

/-- 'spanslaw.Relates': WHATEVER THE INPUT: true; the input reads as it did. -/
def relatesSpec : ChangeSpec := { name := "relates", fn := fun _ => fun
  | [d1, d2, d3, d4, d5] => { results := [.lit (.bool true)], args := [d1, d2, d3, d4, d5] }
  | _ => none }
def relatesRow : OpenClaim := { program := "yteephgpefhodnaa", sum := "f2ea734a134b2381c61385dee7dacea51db14da94b0923c568c2cdcd4751bd4c", func := "spans/spanslaw.Relates", spec := "relates", inPlace := ["math.Float64frombits", "math.Float64bits"], apart := false }
def RelatesSaid : Prop := relatesRow.holds Try.pinned (OpenSpec.ofChange relatesSpec)

/-- ITS FALSE NEIGHBOUR: 'it returns false'. Refute it at one input. -/
def relatesWrong : ChangeSpec := { name := "relates", fn := fun _ => fun
  | [d1, d2, d3, d4, d5] => { results := [.lit (.bool false)], args := [d1, d2, d3, d4, d5] }
  | _ => none }
def RelatesWrongFalsely : Prop := relatesRow.holds Try.pinned (OpenSpec.ofChange relatesWrong)

/-- 'spanslaw.Rounds': WHATEVER THE INPUT: true; the input reads as it did. -/
def roundsSpec : ChangeSpec := { name := "rounds", fn := fun _ => fun
  | [d1, d2, d3] => { results := [.lit (.bool true)], args := [d1, d2, d3] }
  | _ => none }
def roundsRow : OpenClaim := { program := "yteephgpefhodnaa", sum := "f2ea734a134b2381c61385dee7dacea51db14da94b0923c568c2cdcd4751bd4c", func := "spans/spanslaw.Rounds", spec := "rounds", inPlace := ["math.Float64frombits", "math.Float64bits", "math.sqrt", "math.FMA"], named := ["math/bits.divideError", "math/bits.overflowError"], apart := false }
def RoundsSaid : Prop := roundsRow.holds Try.pinned (OpenSpec.ofChange roundsSpec)

/-- ITS FALSE NEIGHBOUR: 'it returns false'. Refute it at one input. -/
def roundsWrong : ChangeSpec := { name := "rounds", fn := fun _ => fun
  | [d1, d2, d3] => { results := [.lit (.bool false)], args := [d1, d2, d3] }
  | _ => none }
def RoundsWrongFalsely : Prop := roundsRow.holds Try.pinned (OpenSpec.ofChange roundsWrong)

/-- 'spanslaw.Applies': WHATEVER THE INPUT: true; the input reads as it did. -/
def appliesSpec : ChangeSpec := { name := "applies", fn := fun _ => fun
  | [d1, d2, d3, d4, d5] => { results := [.lit (.bool true)], args := [d1, d2, d3, d4, d5] }
  | _ => none }
def appliesRow : OpenClaim := { program := "yteephgpefhodnaa", sum := "f2ea734a134b2381c61385dee7dacea51db14da94b0923c568c2cdcd4751bd4c", func := "spans/spanslaw.Applies", spec := "applies", inPlace := ["math.Float64frombits", "math.Float64bits", "math.sqrt", "math.FMA", "math.archFloor", "math.archTrunc"], unfollowed := true, recurses := true, named := ["math/bits.divideError", "math/bits.overflowError"], apart := false }
def AppliesSaid : Prop := appliesRow.holds Try.pinned (OpenSpec.ofChange appliesSpec)

/-- ITS FALSE NEIGHBOUR: 'it returns false'. Refute it at one input. -/
def appliesWrong : ChangeSpec := { name := "applies", fn := fun _ => fun
  | [d1, d2, d3, d4, d5] => { results := [.lit (.bool false)], args := [d1, d2, d3, d4, d5] }
  | _ => none }
def AppliesWrongFalsely : Prop := appliesRow.holds Try.pinned (OpenSpec.ofChange appliesWrong)

/-- 'spanskeep.Tight': WHATEVER THE INPUT: true; the input reads as it did. -/
def tightSpec : ChangeSpec := { name := "tight", fn := fun _ => fun
  | [d1, d2, d3] => { results := [.lit (.bool true)], args := [d1, d2, d3] }
  | _ => none }
def tightRow : OpenClaim := { program := "yteephgpefhodnaa", sum := "f2ea734a134b2381c61385dee7dacea51db14da94b0923c568c2cdcd4751bd4c", func := "spans/spanskeep.Tight", spec := "tight", inPlace := ["math.Float64frombits", "math.Float64bits", "math.sqrt", "math.FMA", "math.archFloor", "math.archTrunc"], unfollowed := true, recurses := true, named := ["math/bits.divideError", "math/bits.overflowError"], apart := false }
def TightSaid : Prop := tightRow.holds Try.pinned (OpenSpec.ofChange tightSpec)

/-- ITS FALSE NEIGHBOUR: 'it returns false'. Refute it at one input. -/
def tightWrong : ChangeSpec := { name := "tight", fn := fun _ => fun
  | [d1, d2, d3] => { results := [.lit (.bool false)], args := [d1, d2, d3] }
  | _ => none }
def TightWrongFalsely : Prop := tightRow.holds Try.pinned (OpenSpec.ofChange tightWrong)

/-- 'spanskeep.Signs': WHATEVER THE INPUT: true; the input reads as it did. -/
def signsSpec : ChangeSpec := { name := "signs", fn := fun _ => fun
  | [d1, d2, d3, d4] => { results := [.lit (.bool true)], args := [d1, d2, d3, d4] }
  | _ => none }
def signsRow : OpenClaim := { program := "yteephgpefhodnaa", sum := "f2ea734a134b2381c61385dee7dacea51db14da94b0923c568c2cdcd4751bd4c", func := "spans/spanskeep.Signs", spec := "signs", inPlace := ["math.Float64frombits", "math.Float64bits", "math.sqrt", "math.FMA", "math.archFloor", "math.archTrunc"], unfollowed := true, recurses := true, named := ["math/bits.divideError", "math/bits.overflowError"], apart := false }
def SignsSaid : Prop := signsRow.holds Try.pinned (OpenSpec.ofChange signsSpec)

/-- ITS FALSE NEIGHBOUR: 'it returns false'. Refute it at one input. -/
def signsWrong : ChangeSpec := { name := "signs", fn := fun _ => fun
  | [d1, d2, d3, d4] => { results := [.lit (.bool false)], args := [d1, d2, d3, d4] }
  | _ => none }
def SignsWrongFalsely : Prop := signsRow.holds Try.pinned (OpenSpec.ofChange signsWrong)

/-- 'spanskeep.Holds': WHATEVER THE INPUT: true; the input reads as it did. -/
def holdsSpec : ChangeSpec := { name := "holds", fn := fun _ => fun
  | [d1, d2, d3, d4, d5, d6, d7] => { results := [.lit (.bool true)], args := [d1, d2, d3, d4, d5, d6, d7] }
  | _ => none }
def holdsRow : OpenClaim := { program := "yteephgpefhodnaa", sum := "f2ea734a134b2381c61385dee7dacea51db14da94b0923c568c2cdcd4751bd4c", func := "spans/spanskeep.Holds", spec := "holds", inPlace := ["math.Float64frombits", "math.Float64bits", "math.sqrt", "math.FMA", "math.archFloor", "math.archTrunc"], unfollowed := true, recurses := true, named := ["math/bits.divideError", "math/bits.overflowError"], apart := false }
def HoldsSaid : Prop := holdsRow.holds Try.pinned (OpenSpec.ofChange holdsSpec)

/-- ITS FALSE NEIGHBOUR: 'it returns false'. Refute it at one input. -/
def holdsWrong : ChangeSpec := { name := "holds", fn := fun _ => fun
  | [d1, d2, d3, d4, d5, d6, d7] => { results := [.lit (.bool false)], args := [d1, d2, d3, d4, d5, d6, d7] }
  | _ => none }
def HoldsWrongFalsely : Prop := holdsRow.holds Try.pinned (OpenSpec.ofChange holdsWrong)

/-- 'spanskeep.Sets': WHATEVER THE INPUT: true; the input reads as it did. -/
def setsSpec : ChangeSpec := { name := "sets", fn := fun _ => fun
  | [d1, d2, d3, d4] => { results := [.lit (.bool true)], args := [d1, d2, d3, d4] }
  | _ => none }
def setsRow : OpenClaim := { program := "yteephgpefhodnaa", sum := "f2ea734a134b2381c61385dee7dacea51db14da94b0923c568c2cdcd4751bd4c", func := "spans/spanskeep.Sets", spec := "sets", inPlace := ["math.Float64frombits", "math.Float64bits", "math.sqrt", "math.FMA", "math.archFloor", "math.archTrunc"], unfollowed := true, recurses := true, named := ["math/bits.divideError", "math/bits.overflowError"], apart := false }
def SetsSaid : Prop := setsRow.holds Try.pinned (OpenSpec.ofChange setsSpec)

/-- ITS FALSE NEIGHBOUR: 'it returns false'. Refute it at one input. -/
def setsWrong : ChangeSpec := { name := "sets", fn := fun _ => fun
  | [d1, d2, d3, d4] => { results := [.lit (.bool false)], args := [d1, d2, d3, d4] }
  | _ => none }
def SetsWrongFalsely : Prop := setsRow.holds Try.pinned (OpenSpec.ofChange setsWrong)

/- THE SECOND FORM. 'bulk': how many values and letters a reading holds, each counted each time it is reached (what is shared counts as often as it is met; a slice's spare places count too). A statement '..UptoSaid' is the law's where the arguments, and the package variables that the reading takes, are together of bulk at most 1048576: NARROWER than '..Said'. Prove '..Said' where nothing that the law and all that it calls make is longer than what came in: it says more and counts as full. Else prove '..UptoSaid'. A law counts once. -/
mutual
def uptoBulk {H : Type} : DataW H → Nat
  | .lit (.string bytes) => bytes.length + 1
  | .lit _ => 1
  | .nil => 1
  | .ptr d => uptoBulk d + 1
  | .slice elems spare => uptoBulkAll elems + uptoBulkAll spare + 1
  | .agg parts => uptoBulkAll parts + 1
  | .iface _ d => uptoBulk d + 1
  | .map entries => uptoBulkEntries entries + 1
  | .held _ => 1
def uptoBulkAll {H : Type} : List (DataW H) → Nat
  | [] => 0
  | d :: r => uptoBulk d + uptoBulkAll r
def uptoBulkEntries {H : Type} : List (Lit × DataW H) → Nat
  | [] => 0
  | x :: r => uptoBulkEntry x + uptoBulkEntries r
def uptoBulkEntry {H : Type} : Lit × DataW H → Nat
  | (.string bytes, d) => bytes.length + uptoBulk d + 1
  | (_, d) => uptoBulk d + 1
 end
def uptoSmall : (H : Type) → List (DataW H) → Bool := fun _ ds => decide (uptoBulkAll ds ≤ 1048576)
def OpenSpec.upto (s : _root_.Go.ChangeSpec) : _root_.Go.OpenSpec := { _root_.Go.OpenSpec.ofChange s with cond := some uptoSmall }

/-- 'spanslaw.Names', WHERE WHAT IT READS IS OF BULK AT MOST 1048576: true; the input reads as it did. -/
def namesUptoRow : OpenClaim := { program := "yteephgpefhodnaa", sum := "f2ea734a134b2381c61385dee7dacea51db14da94b0923c568c2cdcd4751bd4c", func := "spans/spanslaw.Names", spec := "names", apart := false, narrowed := true }
def NamesUptoSaid : Prop := namesUptoRow.holds Try.pinned (OpenSpec.upto namesSpec)

/-- 'spanslaw.Builds', WHERE WHAT IT READS IS OF BULK AT MOST 1048576: true; the input reads as it did. -/
def buildsUptoRow : OpenClaim := { program := "yteephgpefhodnaa", sum := "f2ea734a134b2381c61385dee7dacea51db14da94b0923c568c2cdcd4751bd4c", func := "spans/spanslaw.Builds", spec := "builds", inPlace := ["math.Float64frombits", "math.Float64bits"], apart := false, narrowed := true }
def BuildsUptoSaid : Prop := buildsUptoRow.holds Try.pinned (OpenSpec.upto buildsSpec)

/-- 'spanslaw.Nexts', WHERE WHAT IT READS IS OF BULK AT MOST 1048576: true; the input reads as it did. -/
def nextsUptoRow : OpenClaim := { program := "yteephgpefhodnaa", sum := "f2ea734a134b2381c61385dee7dacea51db14da94b0923c568c2cdcd4751bd4c", func := "spans/spanslaw.Nexts", spec := "nexts", inPlace := ["math.Float64frombits", "math.Float64bits"], apart := false, narrowed := true }
def NextsUptoSaid : Prop := nextsUptoRow.holds Try.pinned (OpenSpec.upto nextsSpec)

/-- 'spanskeep.Reckons', WHERE WHAT IT READS IS OF BULK AT MOST 1048576: true; the input reads as it did. -/
def reckonsUptoRow : OpenClaim := { program := "yteephgpefhodnaa", sum := "f2ea734a134b2381c61385dee7dacea51db14da94b0923c568c2cdcd4751bd4c", func := "spans/spanskeep.Reckons", spec := "reckons", inPlace := ["math.Float64frombits", "math.Float64bits", "math.sqrt", "math.FMA", "math.archFloor", "math.archTrunc"], unfollowed := true, recurses := true, named := ["math/bits.divideError", "math/bits.overflowError"], apart := false, narrowed := true }
def ReckonsUptoSaid : Prop := reckonsUptoRow.holds Try.pinned (OpenSpec.upto reckonsSpec)

/-- 'spanslaw.Relates', WHERE WHAT IT READS IS OF BULK AT MOST 1048576: true; the input reads as it did. -/
def relatesUptoRow : OpenClaim := { program := "yteephgpefhodnaa", sum := "f2ea734a134b2381c61385dee7dacea51db14da94b0923c568c2cdcd4751bd4c", func := "spans/spanslaw.Relates", spec := "relates", inPlace := ["math.Float64frombits", "math.Float64bits"], apart := false, narrowed := true }
def RelatesUptoSaid : Prop := relatesUptoRow.holds Try.pinned (OpenSpec.upto relatesSpec)

/-- 'spanslaw.Rounds', WHERE WHAT IT READS IS OF BULK AT MOST 1048576: true; the input reads as it did. -/
def roundsUptoRow : OpenClaim := { program := "yteephgpefhodnaa", sum := "f2ea734a134b2381c61385dee7dacea51db14da94b0923c568c2cdcd4751bd4c", func := "spans/spanslaw.Rounds", spec := "rounds", inPlace := ["math.Float64frombits", "math.Float64bits", "math.sqrt", "math.FMA"], named := ["math/bits.divideError", "math/bits.overflowError"], apart := false, narrowed := true }
def RoundsUptoSaid : Prop := roundsUptoRow.holds Try.pinned (OpenSpec.upto roundsSpec)

/-- 'spanslaw.Applies', WHERE WHAT IT READS IS OF BULK AT MOST 1048576: true; the input reads as it did. -/
def appliesUptoRow : OpenClaim := { program := "yteephgpefhodnaa", sum := "f2ea734a134b2381c61385dee7dacea51db14da94b0923c568c2cdcd4751bd4c", func := "spans/spanslaw.Applies", spec := "applies", inPlace := ["math.Float64frombits", "math.Float64bits", "math.sqrt", "math.FMA", "math.archFloor", "math.archTrunc"], unfollowed := true, recurses := true, named := ["math/bits.divideError", "math/bits.overflowError"], apart := false, narrowed := true }
def AppliesUptoSaid : Prop := appliesUptoRow.holds Try.pinned (OpenSpec.upto appliesSpec)

/-- 'spanskeep.Tight', WHERE WHAT IT READS IS OF BULK AT MOST 1048576: true; the input reads as it did. -/
def tightUptoRow : OpenClaim := { program := "yteephgpefhodnaa", sum := "f2ea734a134b2381c61385dee7dacea51db14da94b0923c568c2cdcd4751bd4c", func := "spans/spanskeep.Tight", spec := "tight", inPlace := ["math.Float64frombits", "math.Float64bits", "math.sqrt", "math.FMA", "math.archFloor", "math.archTrunc"], unfollowed := true, recurses := true, named := ["math/bits.divideError", "math/bits.overflowError"], apart := false, narrowed := true }
def TightUptoSaid : Prop := tightUptoRow.holds Try.pinned (OpenSpec.upto tightSpec)

/-- 'spanskeep.Signs', WHERE WHAT IT READS IS OF BULK AT MOST 1048576: true; the input reads as it did. -/
def signsUptoRow : OpenClaim := { program := "yteephgpefhodnaa", sum := "f2ea734a134b2381c61385dee7dacea51db14da94b0923c568c2cdcd4751bd4c", func := "spans/spanskeep.Signs", spec := "signs", inPlace := ["math.Float64frombits", "math.Float64bits", "math.sqrt", "math.FMA", "math.archFloor", "math.archTrunc"], unfollowed := true, recurses := true, named := ["math/bits.divideError", "math/bits.overflowError"], apart := false, narrowed := true }
def SignsUptoSaid : Prop := signsUptoRow.holds Try.pinned (OpenSpec.upto signsSpec)

/-- 'spanskeep.Holds', WHERE WHAT IT READS IS OF BULK AT MOST 1048576: true; the input reads as it did. -/
def holdsUptoRow : OpenClaim := { program := "yteephgpefhodnaa", sum := "f2ea734a134b2381c61385dee7dacea51db14da94b0923c568c2cdcd4751bd4c", func := "spans/spanskeep.Holds", spec := "holds", inPlace := ["math.Float64frombits", "math.Float64bits", "math.sqrt", "math.FMA", "math.archFloor", "math.archTrunc"], unfollowed := true, recurses := true, named := ["math/bits.divideError", "math/bits.overflowError"], apart := false, narrowed := true }
def HoldsUptoSaid : Prop := holdsUptoRow.holds Try.pinned (OpenSpec.upto holdsSpec)

/-- 'spanskeep.Sets', WHERE WHAT IT READS IS OF BULK AT MOST 1048576: true; the input reads as it did. -/
def setsUptoRow : OpenClaim := { program := "yteephgpefhodnaa", sum := "f2ea734a134b2381c61385dee7dacea51db14da94b0923c568c2cdcd4751bd4c", func := "spans/spanskeep.Sets", spec := "sets", inPlace := ["math.Float64frombits", "math.Float64bits", "math.sqrt", "math.FMA", "math.archFloor", "math.archTrunc"], unfollowed := true, recurses := true, named := ["math/bits.divideError", "math/bits.overflowError"], apart := false, narrowed := true }
def SetsUptoSaid : Prop := setsUptoRow.holds Try.pinned (OpenSpec.upto setsSpec)

end Rows
end Go.Proofs.Yteephgpefhodnaa
