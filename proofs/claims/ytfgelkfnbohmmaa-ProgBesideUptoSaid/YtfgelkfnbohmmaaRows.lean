/-
  NARROWER THAN 'FOR EVERY INPUT', by the rows' own cells (each row's printed sentence says how): ProgBounds: loops · ProgMeans: loops.
  DERIVED. THE GIVEN ROWS OF THIS SEAT. 3 by the template 'for every input the law returns true; each argument reads behind the call as it read before'; 0 by the template 'total and deterministic' (their statements: YtfgelkfnbohmmaaTotals.lean).
  GIVEN WITH THE SEED: the statements are not yours to turn. If you find one false, say at which input.
  Laid BY PROGRAM, IN A SANDBOX (cutbox-rows.mjs): the forced cells as the released guide's own fill.sh prints them over the translation 1d57378de99af75a… (all of the seat's roots in one cut). By AI agents, Wed Nov 11 2026. No macro, syntax, notation, axiom, sorry.
-/
import Derived.Test.YtfgelkfnbohmmaaChecked
import GoSem.Claim
import GoSem.ClaimJoined
import GoSem.ClaimMapViews
import Derived.JoinedTies
import Derived.KernelRfl
namespace Go.Proofs.Ytfgelkfnbohmmaa
/- THE CELL 'sum', in the pinned program and in every row, IS THE sha256 OF THE DUMP (.gsa) THAT YtfgelkfnbohmmaaProg.lean LOADS. Nothing in Lean hashes anything: it is a label: what it is worth is what the hold of that sum in a sandbox is worth. -/
noncomputable def Try.pinned : Pinned := { name := "ytfgelkfnbohmmaa", sum := "1d57378de99af75ac7fd6639b6fd0e02864d6d4330b8ad1d6ab2b82134e6ccc8", checked := Try.checked }
namespace Rows
def none {H : Type} : Left H := { results := [], args := [] }

/-- 'heronlaw09.ProgBounds': WHATEVER THE INPUT: true; the input reads as it did. -/
def progBoundsSpec : ChangeSpec := { name := "progBounds", fn := fun _ => fun
  | [d] => { results := [.lit (.bool true)], args := [d] }
  | _ => none }
def progBoundsRow : OpenClaim := { program := "ytfgelkfnbohmmaa", sum := "1d57378de99af75ac7fd6639b6fd0e02864d6d4330b8ad1d6ab2b82134e6ccc8", func := "heron/heronlaw09.ProgBounds", spec := "progBounds", unfollowed := true, recurses := true, loops := true, apart := false }
def ProgBoundsSaid : Prop := progBoundsRow.holds Try.pinned (OpenSpec.ofChange progBoundsSpec)

/-- ITS FALSE NEIGHBOUR: 'it returns false'. Refute it at one input. -/
def progBoundsWrong : ChangeSpec := { name := "progBounds", fn := fun _ => fun
  | [d] => { results := [.lit (.bool false)], args := [d] }
  | _ => none }
def ProgBoundsWrongFalsely : Prop := progBoundsRow.holds Try.pinned (OpenSpec.ofChange progBoundsWrong)

/-- 'heronlaw09.ProgMeans': WHATEVER THE INPUT: true; the input reads as it did. -/
def progMeansSpec : ChangeSpec := { name := "progMeans", fn := fun _ => fun
  | [d1, d2] => { results := [.lit (.bool true)], args := [d1, d2] }
  | _ => none }
def progMeansRow : OpenClaim := { program := "ytfgelkfnbohmmaa", sum := "1d57378de99af75ac7fd6639b6fd0e02864d6d4330b8ad1d6ab2b82134e6ccc8", func := "heron/heronlaw09.ProgMeans", spec := "progMeans", unfollowed := true, recurses := true, loops := true, apart := false }
def ProgMeansSaid : Prop := progMeansRow.holds Try.pinned (OpenSpec.ofChange progMeansSpec)

/-- ITS FALSE NEIGHBOUR: 'it returns false'. Refute it at one input. -/
def progMeansWrong : ChangeSpec := { name := "progMeans", fn := fun _ => fun
  | [d1, d2] => { results := [.lit (.bool false)], args := [d1, d2] }
  | _ => none }
def ProgMeansWrongFalsely : Prop := progMeansRow.holds Try.pinned (OpenSpec.ofChange progMeansWrong)

/-- 'heronlaw09.ProgBeside': WHATEVER THE INPUT: true; the input reads as it did. -/
def progBesideSpec : ChangeSpec := { name := "progBeside", fn := fun _ => fun
  | [d1, d2] => { results := [.lit (.bool true)], args := [d1, d2] }
  | _ => none }
def progBesideRow : OpenClaim := { program := "ytfgelkfnbohmmaa", sum := "1d57378de99af75ac7fd6639b6fd0e02864d6d4330b8ad1d6ab2b82134e6ccc8", func := "heron/heronlaw09.ProgBeside", spec := "progBeside", unfollowed := true, recurses := true, apart := false }
def ProgBesideSaid : Prop := progBesideRow.holds Try.pinned (OpenSpec.ofChange progBesideSpec)

/-- ITS FALSE NEIGHBOUR: 'it returns false'. Refute it at one input. -/
def progBesideWrong : ChangeSpec := { name := "progBeside", fn := fun _ => fun
  | [d1, d2] => { results := [.lit (.bool false)], args := [d1, d2] }
  | _ => none }
def ProgBesideWrongFalsely : Prop := progBesideRow.holds Try.pinned (OpenSpec.ofChange progBesideWrong)

/- THE SECOND FORM. 'bulk': how many values and letters a reading holds, each counted each time it is reached (what is shared counts as often as it is met; a slice's spare places count too). A statement '..UptoSaid' is the law's where the arguments, and the package variables that the reading takes, are together of bulk at most 1048576: NARROWER than '..Said'. Prove '..Said' where nothing that the law and all that it calls make is longer than what came in: it says more and counts as full. Else prove '..UptoSaid'. A law counts once. -/
mutual
def uptoBulk {H : Type} : DataW H → Nat
  | .lit (.string bytes) => bytes.length + 1
  | .lit _ => 1
  | .nil => 1
  | .ptr d => uptoBulk d + 1
  | .slice elems spare => uptoBulkAll elems + uptoBulkAll spare + 1
  | .agg parts => uptoBulkAll parts + 1
  | .iface _ d => uptoBulk d + 1
  | .map entries => uptoBulkEntries entries + 1
  | .held _ => 1
def uptoBulkAll {H : Type} : List (DataW H) → Nat
  | [] => 0
  | d :: r => uptoBulk d + uptoBulkAll r
def uptoBulkEntries {H : Type} : List (Lit × DataW H) → Nat
  | [] => 0
  | x :: r => uptoBulkEntry x + uptoBulkEntries r
def uptoBulkEntry {H : Type} : Lit × DataW H → Nat
  | (.string bytes, d) => bytes.length + uptoBulk d + 1
  | (_, d) => uptoBulk d + 1
 end
def uptoSmall : (H : Type) → List (DataW H) → Bool := fun _ ds => decide (uptoBulkAll ds ≤ 1048576)
def OpenSpec.upto (s : _root_.Go.ChangeSpec) : _root_.Go.OpenSpec := { _root_.Go.OpenSpec.ofChange s with cond := some uptoSmall }

/-- 'heronlaw09.ProgBounds', WHERE WHAT IT READS IS OF BULK AT MOST 1048576: true; the input reads as it did. -/
def progBoundsUptoRow : OpenClaim := { program := "ytfgelkfnbohmmaa", sum := "1d57378de99af75ac7fd6639b6fd0e02864d6d4330b8ad1d6ab2b82134e6ccc8", func := "heron/heronlaw09.ProgBounds", spec := "progBounds", unfollowed := true, recurses := true, loops := true, apart := false, narrowed := true }
def ProgBoundsUptoSaid : Prop := progBoundsUptoRow.holds Try.pinned (OpenSpec.upto progBoundsSpec)

/-- 'heronlaw09.ProgMeans', WHERE WHAT IT READS IS OF BULK AT MOST 1048576: true; the input reads as it did. -/
def progMeansUptoRow : OpenClaim := { program := "ytfgelkfnbohmmaa", sum := "1d57378de99af75ac7fd6639b6fd0e02864d6d4330b8ad1d6ab2b82134e6ccc8", func := "heron/heronlaw09.ProgMeans", spec := "progMeans", unfollowed := true, recurses := true, loops := true, apart := false, narrowed := true }
def ProgMeansUptoSaid : Prop := progMeansUptoRow.holds Try.pinned (OpenSpec.upto progMeansSpec)

/-- 'heronlaw09.ProgBeside', WHERE WHAT IT READS IS OF BULK AT MOST 1048576: true; the input reads as it did. -/
def progBesideUptoRow : OpenClaim := { program := "ytfgelkfnbohmmaa", sum := "1d57378de99af75ac7fd6639b6fd0e02864d6d4330b8ad1d6ab2b82134e6ccc8", func := "heron/heronlaw09.ProgBeside", spec := "progBeside", unfollowed := true, recurses := true, apart := false, narrowed := true }
def ProgBesideUptoSaid : Prop := progBesideUptoRow.holds Try.pinned (OpenSpec.upto progBesideSpec)

end Rows
end Go.Proofs.Ytfgelkfnbohmmaa
