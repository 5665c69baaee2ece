/-
  NARROWER THAN 'FOR EVERY INPUT', by the rows' own cells (each row's printed sentence says how): MeaningEnds: loops · MeaningTurned: loops.
  DERIVED. THE GIVEN ROWS OF THIS SEAT. 3 by the template 'for every input the law returns true; each argument reads behind the call as it read before'; 0 by the template 'total and deterministic' (their statements: YtjeljlgjkjeloaaTotals.lean).
  GIVEN WITH THE SEED: the statements are not yours to turn. If you find one false, say at which input.
  Laid BY PROGRAM, IN A SANDBOX (cutbox-rows.mjs): the forced cells as the released guide's own fill.sh prints them over the translation c096176aa077b424… (all of the seat's roots in one cut). By AI agents, Wed Nov 11 2026. No macro, syntax, notation, axiom, sorry.
-/
import Derived.Test.YtjeljlgjkjeloaaChecked
import GoSem.Claim
import GoSem.ClaimJoined
import GoSem.ClaimMapViews
import Derived.JoinedTies
import Derived.KernelRfl
namespace Go.Proofs.Ytjeljlgjkjeloaa
/- THE CELL 'sum', in the pinned program and in every row, IS THE sha256 OF THE DUMP (.gsa) THAT YtjeljlgjkjeloaaProg.lean LOADS. Nothing in Lean hashes anything: it is a label: what it is worth is what the hold of that sum in a sandbox is worth. -/
noncomputable def Try.pinned : Pinned := { name := "ytjeljlgjkjeloaa", sum := "c096176aa077b424fa3eab426c42bc6b45171b88ae71b8d5cb80ce3f20d8306b", checked := Try.checked }
namespace Rows
def none {H : Type} : Left H := { results := [], args := [] }

/-- 'heronlaw06.MeaningNames': WHATEVER THE INPUT: true; the input reads as it did. -/
def meaningNamesSpec : ChangeSpec := { name := "meaningNames", fn := fun _ => fun
  | [] => { results := [.lit (.bool true)], args := [] }
  | _ => none }
def meaningNamesRow : OpenClaim := { program := "ytjeljlgjkjeloaa", sum := "c096176aa077b424fa3eab426c42bc6b45171b88ae71b8d5cb80ce3f20d8306b", func := "heron/heronlaw06.MeaningNames", spec := "meaningNames", unfollowed := true, recurses := true, plainKeys := false, apart := false }
def MeaningNamesSaid : Prop := meaningNamesRow.holds Try.pinned (OpenSpec.ofChange meaningNamesSpec)

/-- ITS FALSE NEIGHBOUR: 'it returns false'. Refute it at one input. -/
def meaningNamesWrong : ChangeSpec := { name := "meaningNames", fn := fun _ => fun
  | [] => { results := [.lit (.bool false)], args := [] }
  | _ => none }
def MeaningNamesWrongFalsely : Prop := meaningNamesRow.holds Try.pinned (OpenSpec.ofChange meaningNamesWrong)

/-- 'heronlaw06.MeaningEnds': WHATEVER THE INPUT: true; the input reads as it did. -/
def meaningEndsSpec : ChangeSpec := { name := "meaningEnds", fn := fun _ => fun
  | [d1, d2] => { results := [.lit (.bool true)], args := [d1, d2] }
  | _ => none }
def meaningEndsRow : OpenClaim := { program := "ytjeljlgjkjeloaa", sum := "c096176aa077b424fa3eab426c42bc6b45171b88ae71b8d5cb80ce3f20d8306b", func := "heron/heronlaw06.MeaningEnds", spec := "meaningEnds", unfollowed := true, recurses := true, loops := true, plainKeys := false, apart := false }
def MeaningEndsSaid : Prop := meaningEndsRow.holds Try.pinned (OpenSpec.ofChange meaningEndsSpec)

/-- ITS FALSE NEIGHBOUR: 'it returns false'. Refute it at one input. -/
def meaningEndsWrong : ChangeSpec := { name := "meaningEnds", fn := fun _ => fun
  | [d1, d2] => { results := [.lit (.bool false)], args := [d1, d2] }
  | _ => none }
def MeaningEndsWrongFalsely : Prop := meaningEndsRow.holds Try.pinned (OpenSpec.ofChange meaningEndsWrong)

/-- 'heronlaw06.MeaningTurned': WHATEVER THE INPUT: true; the input reads as it did. -/
def meaningTurnedSpec : ChangeSpec := { name := "meaningTurned", fn := fun _ => fun
  | [d1, d2, d3] => { results := [.lit (.bool true)], args := [d1, d2, d3] }
  | _ => none }
def meaningTurnedRow : OpenClaim := { program := "ytjeljlgjkjeloaa", sum := "c096176aa077b424fa3eab426c42bc6b45171b88ae71b8d5cb80ce3f20d8306b", func := "heron/heronlaw06.MeaningTurned", spec := "meaningTurned", unfollowed := true, recurses := true, loops := true, plainKeys := false, apart := false }
def MeaningTurnedSaid : Prop := meaningTurnedRow.holds Try.pinned (OpenSpec.ofChange meaningTurnedSpec)

/-- ITS FALSE NEIGHBOUR: 'it returns false'. Refute it at one input. -/
def meaningTurnedWrong : ChangeSpec := { name := "meaningTurned", fn := fun _ => fun
  | [d1, d2, d3] => { results := [.lit (.bool false)], args := [d1, d2, d3] }
  | _ => none }
def MeaningTurnedWrongFalsely : Prop := meaningTurnedRow.holds Try.pinned (OpenSpec.ofChange meaningTurnedWrong)

/- THE SECOND FORM. 'bulk': how many values and letters a reading holds, each counted each time it is reached (what is shared counts as often as it is met; a slice's spare places count too). A statement '..UptoSaid' is the law's where the arguments, and the package variables that the reading takes, are together of bulk at most 1048576: NARROWER than '..Said'. Prove '..Said' where nothing that the law and all that it calls make is longer than what came in: it says more and counts as full. Else prove '..UptoSaid'. A law counts once. -/
mutual
def uptoBulk {H : Type} : DataW H → Nat
  | .lit (.string bytes) => bytes.length + 1
  | .lit _ => 1
  | .nil => 1
  | .ptr d => uptoBulk d + 1
  | .slice elems spare => uptoBulkAll elems + uptoBulkAll spare + 1
  | .agg parts => uptoBulkAll parts + 1
  | .iface _ d => uptoBulk d + 1
  | .map entries => uptoBulkEntries entries + 1
  | .held _ => 1
def uptoBulkAll {H : Type} : List (DataW H) → Nat
  | [] => 0
  | d :: r => uptoBulk d + uptoBulkAll r
def uptoBulkEntries {H : Type} : List (Lit × DataW H) → Nat
  | [] => 0
  | x :: r => uptoBulkEntry x + uptoBulkEntries r
def uptoBulkEntry {H : Type} : Lit × DataW H → Nat
  | (.string bytes, d) => bytes.length + uptoBulk d + 1
  | (_, d) => uptoBulk d + 1
 end
def uptoSmall : (H : Type) → List (DataW H) → Bool := fun _ ds => decide (uptoBulkAll ds ≤ 1048576)
def OpenSpec.upto (s : _root_.Go.ChangeSpec) : _root_.Go.OpenSpec := { _root_.Go.OpenSpec.ofChange s with cond := some uptoSmall }

/-- 'heronlaw06.MeaningNames', WHERE WHAT IT READS IS OF BULK AT MOST 1048576: true; the input reads as it did. -/
def meaningNamesUptoRow : OpenClaim := { program := "ytjeljlgjkjeloaa", sum := "c096176aa077b424fa3eab426c42bc6b45171b88ae71b8d5cb80ce3f20d8306b", func := "heron/heronlaw06.MeaningNames", spec := "meaningNames", unfollowed := true, recurses := true, plainKeys := false, apart := false, narrowed := true }
def MeaningNamesUptoSaid : Prop := meaningNamesUptoRow.holds Try.pinned (OpenSpec.upto meaningNamesSpec)

/-- 'heronlaw06.MeaningEnds', WHERE WHAT IT READS IS OF BULK AT MOST 1048576: true; the input reads as it did. -/
def meaningEndsUptoRow : OpenClaim := { program := "ytjeljlgjkjeloaa", sum := "c096176aa077b424fa3eab426c42bc6b45171b88ae71b8d5cb80ce3f20d8306b", func := "heron/heronlaw06.MeaningEnds", spec := "meaningEnds", unfollowed := true, recurses := true, loops := true, plainKeys := false, apart := false, narrowed := true }
def MeaningEndsUptoSaid : Prop := meaningEndsUptoRow.holds Try.pinned (OpenSpec.upto meaningEndsSpec)

/-- 'heronlaw06.MeaningTurned', WHERE WHAT IT READS IS OF BULK AT MOST 1048576: true; the input reads as it did. -/
def meaningTurnedUptoRow : OpenClaim := { program := "ytjeljlgjkjeloaa", sum := "c096176aa077b424fa3eab426c42bc6b45171b88ae71b8d5cb80ce3f20d8306b", func := "heron/heronlaw06.MeaningTurned", spec := "meaningTurned", unfollowed := true, recurses := true, loops := true, plainKeys := false, apart := false, narrowed := true }
def MeaningTurnedUptoSaid : Prop := meaningTurnedUptoRow.holds Try.pinned (OpenSpec.upto meaningTurnedSpec)

end Rows
end Go.Proofs.Ytjeljlgjkjeloaa
