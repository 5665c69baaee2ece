/-
  NARROWER THAN 'FOR EVERY INPUT', by the rows' own cells (each row's printed sentence says how): RunesNames: laid · RunesCuts: laid · RunesBack: laid · RunesEncodes: laid · RunesOne: laid · RunesSets: laid.
  DERIVED. THE GIVEN ROWS OF THIS SEAT. 6 by the template 'for every input the law returns true; each argument reads behind the call as it read before'; 0 by the template 'total and deterministic' (their statements: YtgljhhlnnedmaaaDoorTotals.lean).
  GIVEN WITH THE SEED: the statements are not yours to turn. If you find one false, say at which input.
  Laid BY PROGRAM, IN A SANDBOX (cutbox-rows.mjs): the forced cells as the released guide's own fill.sh prints them over the translation 70274df99a24a2b0… (all of the seat's roots in one cut). By AI agents, Wed Nov 11 2026. No macro, syntax, notation, axiom, sorry.
-/
import Derived.Test.YtgljhhlnnedmaaaDoorChecked
import GoSem.Claim
import GoSem.ClaimJoined
import GoSem.ClaimMapViews
import Derived.JoinedTies
import Derived.KernelRfl
namespace Go.Proofs.YtgljhhlnnedmaaaDoor
/- THE CELL 'sum', in the pinned program and in every row, IS THE sha256 OF THE DUMP (.gsa) THAT YtgljhhlnnedmaaaDoorProg.lean LOADS. Nothing in Lean hashes anything: it is a label: what it is worth is what the hold of that sum in a sandbox is worth. -/
noncomputable def Tryd.pinned : Pinned := { name := "ytgljhhlnnedmaaadoor", sum := "70274df99a24a2b09cbd1b1d419ad43611a51ca31643fea3de6c00b72160c5b7", checked := Tryd.checked }
namespace Rows
def none {H : Type} : Left H := { results := [], args := [] }

/- WHAT THE LISTED PACKAGE-LEVEL VARIABLES READ AS WHEN THE CALL BEGINS. Each datum BY PROGRAM (the guide's laid-datum.mjs) off the statement by which the dump's own 'gosem.cut.vars' lays the variable. In a bare row this is a premise. The card (YtgljhhlnnedmaaaDoorCards.lean) ties it to the program's text. -/
def laid_heron_runes_leads {H : Type} : DataW H := .agg [.agg [.lit (.int .i64 0), .lit (.int .i64 127), .lit (.int .i64 1), .lit (.int .i64 0), .lit (.int .i64 0)], .agg [.lit (.int .i64 194), .lit (.int .i64 223), .lit (.int .i64 2), .lit (.int .i64 128), .lit (.int .i64 191)], .agg [.lit (.int .i64 224), .lit (.int .i64 224), .lit (.int .i64 3), .lit (.int .i64 160), .lit (.int .i64 191)], .agg [.lit (.int .i64 225), .lit (.int .i64 236), .lit (.int .i64 3), .lit (.int .i64 128), .lit (.int .i64 191)], .agg [.lit (.int .i64 237), .lit (.int .i64 237), .lit (.int .i64 3), .lit (.int .i64 128), .lit (.int .i64 159)], .agg [.lit (.int .i64 238), .lit (.int .i64 239), .lit (.int .i64 3), .lit (.int .i64 128), .lit (.int .i64 191)], .agg [.lit (.int .i64 240), .lit (.int .i64 240), .lit (.int .i64 4), .lit (.int .i64 144), .lit (.int .i64 191)], .agg [.lit (.int .i64 241), .lit (.int .i64 243), .lit (.int .i64 4), .lit (.int .i64 128), .lit (.int .i64 191)], .agg [.lit (.int .i64 244), .lit (.int .i64 244), .lit (.int .i64 4), .lit (.int .i64 128), .lit (.int .i64 143)]]

/-- 'heronlaw01.RunesNames': WHATEVER THE INPUT: true; the input reads as it did. -/
def runesNamesSpec : ChangeSpec := { name := "runesNames", fn := fun _ => fun
  | [] => { results := [.lit (.bool true)], args := [] }
  | _ => none }
def runesNamesRow : OpenClaim := { program := "ytgljhhlnnedmaaadoor", sum := "70274df99a24a2b09cbd1b1d419ad43611a51ca31643fea3de6c00b72160c5b7", func := "heron/heronlaw01.RunesNames", spec := "runesNames", unfollowed := true, recurses := true, named := ["heron/runes.leads"], apart := false, laid := [("heron/runes.leads", laid_heron_runes_leads)] }
def RunesNamesSaid : Prop := runesNamesRow.holds Tryd.pinned (OpenSpec.ofChange runesNamesSpec)

/-- ITS FALSE NEIGHBOUR: 'it returns false'. Refute it at one input. -/
def runesNamesWrong : ChangeSpec := { name := "runesNames", fn := fun _ => fun
  | [] => { results := [.lit (.bool false)], args := [] }
  | _ => none }
def RunesNamesWrongFalsely : Prop := runesNamesRow.holds Tryd.pinned (OpenSpec.ofChange runesNamesWrong)

/-- 'heronlaw01.RunesCuts': WHATEVER THE INPUT: true; the input reads as it did. -/
def runesCutsSpec : ChangeSpec := { name := "runesCuts", fn := fun _ => fun
  | [d1, d2] => { results := [.lit (.bool true)], args := [d1, d2] }
  | _ => none }
def runesCutsRow : OpenClaim := { program := "ytgljhhlnnedmaaadoor", sum := "70274df99a24a2b09cbd1b1d419ad43611a51ca31643fea3de6c00b72160c5b7", func := "heron/heronlaw01.RunesCuts", spec := "runesCuts", unfollowed := true, recurses := true, named := ["heron/runes.leads"], apart := false, laid := [("heron/runes.leads", laid_heron_runes_leads)] }
def RunesCutsSaid : Prop := runesCutsRow.holds Tryd.pinned (OpenSpec.ofChange runesCutsSpec)

/-- ITS FALSE NEIGHBOUR: 'it returns false'. Refute it at one input. -/
def runesCutsWrong : ChangeSpec := { name := "runesCuts", fn := fun _ => fun
  | [d1, d2] => { results := [.lit (.bool false)], args := [d1, d2] }
  | _ => none }
def RunesCutsWrongFalsely : Prop := runesCutsRow.holds Tryd.pinned (OpenSpec.ofChange runesCutsWrong)

/-- 'heronlaw01.RunesBack': WHATEVER THE INPUT: true; the input reads as it did. -/
def runesBackSpec : ChangeSpec := { name := "runesBack", fn := fun _ => fun
  | [d] => { results := [.lit (.bool true)], args := [d] }
  | _ => none }
def runesBackRow : OpenClaim := { program := "ytgljhhlnnedmaaadoor", sum := "70274df99a24a2b09cbd1b1d419ad43611a51ca31643fea3de6c00b72160c5b7", func := "heron/heronlaw01.RunesBack", spec := "runesBack", unfollowed := true, recurses := true, named := ["heron/runes.leads"], apart := false, laid := [("heron/runes.leads", laid_heron_runes_leads)] }
def RunesBackSaid : Prop := runesBackRow.holds Tryd.pinned (OpenSpec.ofChange runesBackSpec)

/-- ITS FALSE NEIGHBOUR: 'it returns false'. Refute it at one input. -/
def runesBackWrong : ChangeSpec := { name := "runesBack", fn := fun _ => fun
  | [d] => { results := [.lit (.bool false)], args := [d] }
  | _ => none }
def RunesBackWrongFalsely : Prop := runesBackRow.holds Tryd.pinned (OpenSpec.ofChange runesBackWrong)

/-- 'heronlaw01.RunesEncodes': WHATEVER THE INPUT: true; the input reads as it did. -/
def runesEncodesSpec : ChangeSpec := { name := "runesEncodes", fn := fun _ => fun
  | [d] => { results := [.lit (.bool true)], args := [d] }
  | _ => none }
def runesEncodesRow : OpenClaim := { program := "ytgljhhlnnedmaaadoor", sum := "70274df99a24a2b09cbd1b1d419ad43611a51ca31643fea3de6c00b72160c5b7", func := "heron/heronlaw01.RunesEncodes", spec := "runesEncodes", unfollowed := true, recurses := true, named := ["heron/runes.leads"], apart := false, laid := [("heron/runes.leads", laid_heron_runes_leads)] }
def RunesEncodesSaid : Prop := runesEncodesRow.holds Tryd.pinned (OpenSpec.ofChange runesEncodesSpec)

/-- ITS FALSE NEIGHBOUR: 'it returns false'. Refute it at one input. -/
def runesEncodesWrong : ChangeSpec := { name := "runesEncodes", fn := fun _ => fun
  | [d] => { results := [.lit (.bool false)], args := [d] }
  | _ => none }
def RunesEncodesWrongFalsely : Prop := runesEncodesRow.holds Tryd.pinned (OpenSpec.ofChange runesEncodesWrong)

/-- 'heronlaw01.RunesOne': WHATEVER THE INPUT: true; the input reads as it did. -/
def runesOneSpec : ChangeSpec := { name := "runesOne", fn := fun _ => fun
  | [d] => { results := [.lit (.bool true)], args := [d] }
  | _ => none }
def runesOneRow : OpenClaim := { program := "ytgljhhlnnedmaaadoor", sum := "70274df99a24a2b09cbd1b1d419ad43611a51ca31643fea3de6c00b72160c5b7", func := "heron/heronlaw01.RunesOne", spec := "runesOne", unfollowed := true, recurses := true, named := ["heron/runes.leads"], apart := false, laid := [("heron/runes.leads", laid_heron_runes_leads)] }
def RunesOneSaid : Prop := runesOneRow.holds Tryd.pinned (OpenSpec.ofChange runesOneSpec)

/-- ITS FALSE NEIGHBOUR: 'it returns false'. Refute it at one input. -/
def runesOneWrong : ChangeSpec := { name := "runesOne", fn := fun _ => fun
  | [d] => { results := [.lit (.bool false)], args := [d] }
  | _ => none }
def RunesOneWrongFalsely : Prop := runesOneRow.holds Tryd.pinned (OpenSpec.ofChange runesOneWrong)

/-- 'heronlaw01.RunesSets': WHATEVER THE INPUT: true; the input reads as it did. -/
def runesSetsSpec : ChangeSpec := { name := "runesSets", fn := fun _ => fun
  | [d] => { results := [.lit (.bool true)], args := [d] }
  | _ => none }
def runesSetsRow : OpenClaim := { program := "ytgljhhlnnedmaaadoor", sum := "70274df99a24a2b09cbd1b1d419ad43611a51ca31643fea3de6c00b72160c5b7", func := "heron/heronlaw01.RunesSets", spec := "runesSets", unfollowed := true, recurses := true, named := ["heron/runes.leads"], apart := false, laid := [("heron/runes.leads", laid_heron_runes_leads)] }
def RunesSetsSaid : Prop := runesSetsRow.holds Tryd.pinned (OpenSpec.ofChange runesSetsSpec)

/-- ITS FALSE NEIGHBOUR: 'it returns false'. Refute it at one input. -/
def runesSetsWrong : ChangeSpec := { name := "runesSets", fn := fun _ => fun
  | [d] => { results := [.lit (.bool false)], args := [d] }
  | _ => none }
def RunesSetsWrongFalsely : Prop := runesSetsRow.holds Tryd.pinned (OpenSpec.ofChange runesSetsWrong)

/- THE SECOND FORM. 'bulk': how many values and letters a reading holds, each counted each time it is reached (what is shared counts as often as it is met; a slice's spare places count too). A statement '..UptoSaid' is the law's where the arguments, and the package variables that the reading takes, are together of bulk at most 1048576: NARROWER than '..Said'. Prove '..Said' where nothing that the law and all that it calls make is longer than what came in: it says more and counts as full. Else prove '..UptoSaid'. A law counts once. -/
mutual
def uptoBulk {H : Type} : DataW H → Nat
  | .lit (.string bytes) => bytes.length + 1
  | .lit _ => 1
  | .nil => 1
  | .ptr d => uptoBulk d + 1
  | .slice elems spare => uptoBulkAll elems + uptoBulkAll spare + 1
  | .agg parts => uptoBulkAll parts + 1
  | .iface _ d => uptoBulk d + 1
  | .map entries => uptoBulkEntries entries + 1
  | .held _ => 1
def uptoBulkAll {H : Type} : List (DataW H) → Nat
  | [] => 0
  | d :: r => uptoBulk d + uptoBulkAll r
def uptoBulkEntries {H : Type} : List (Lit × DataW H) → Nat
  | [] => 0
  | x :: r => uptoBulkEntry x + uptoBulkEntries r
def uptoBulkEntry {H : Type} : Lit × DataW H → Nat
  | (.string bytes, d) => bytes.length + uptoBulk d + 1
  | (_, d) => uptoBulk d + 1
 end
def uptoSmall : (H : Type) → List (DataW H) → Bool := fun _ ds => decide (uptoBulkAll ds ≤ 1048576)
def OpenSpec.upto (s : _root_.Go.ChangeSpec) : _root_.Go.OpenSpec := { _root_.Go.OpenSpec.ofChange s with cond := some uptoSmall }

/-- 'heronlaw01.RunesNames', WHERE WHAT IT READS IS OF BULK AT MOST 1048576: true; the input reads as it did. -/
def runesNamesUptoRow : OpenClaim := { program := "ytgljhhlnnedmaaadoor", sum := "70274df99a24a2b09cbd1b1d419ad43611a51ca31643fea3de6c00b72160c5b7", func := "heron/heronlaw01.RunesNames", spec := "runesNames", unfollowed := true, recurses := true, named := ["heron/runes.leads"], apart := false, laid := [("heron/runes.leads", laid_heron_runes_leads)], narrowed := true }
def RunesNamesUptoSaid : Prop := runesNamesUptoRow.holds Tryd.pinned (OpenSpec.upto runesNamesSpec)

/-- 'heronlaw01.RunesCuts', WHERE WHAT IT READS IS OF BULK AT MOST 1048576: true; the input reads as it did. -/
def runesCutsUptoRow : OpenClaim := { program := "ytgljhhlnnedmaaadoor", sum := "70274df99a24a2b09cbd1b1d419ad43611a51ca31643fea3de6c00b72160c5b7", func := "heron/heronlaw01.RunesCuts", spec := "runesCuts", unfollowed := true, recurses := true, named := ["heron/runes.leads"], apart := false, laid := [("heron/runes.leads", laid_heron_runes_leads)], narrowed := true }
def RunesCutsUptoSaid : Prop := runesCutsUptoRow.holds Tryd.pinned (OpenSpec.upto runesCutsSpec)

/-- 'heronlaw01.RunesBack', WHERE WHAT IT READS IS OF BULK AT MOST 1048576: true; the input reads as it did. -/
def runesBackUptoRow : OpenClaim := { program := "ytgljhhlnnedmaaadoor", sum := "70274df99a24a2b09cbd1b1d419ad43611a51ca31643fea3de6c00b72160c5b7", func := "heron/heronlaw01.RunesBack", spec := "runesBack", unfollowed := true, recurses := true, named := ["heron/runes.leads"], apart := false, laid := [("heron/runes.leads", laid_heron_runes_leads)], narrowed := true }
def RunesBackUptoSaid : Prop := runesBackUptoRow.holds Tryd.pinned (OpenSpec.upto runesBackSpec)

/-- 'heronlaw01.RunesEncodes', WHERE WHAT IT READS IS OF BULK AT MOST 1048576: true; the input reads as it did. -/
def runesEncodesUptoRow : OpenClaim := { program := "ytgljhhlnnedmaaadoor", sum := "70274df99a24a2b09cbd1b1d419ad43611a51ca31643fea3de6c00b72160c5b7", func := "heron/heronlaw01.RunesEncodes", spec := "runesEncodes", unfollowed := true, recurses := true, named := ["heron/runes.leads"], apart := false, laid := [("heron/runes.leads", laid_heron_runes_leads)], narrowed := true }
def RunesEncodesUptoSaid : Prop := runesEncodesUptoRow.holds Tryd.pinned (OpenSpec.upto runesEncodesSpec)

/-- 'heronlaw01.RunesOne', WHERE WHAT IT READS IS OF BULK AT MOST 1048576: true; the input reads as it did. -/
def runesOneUptoRow : OpenClaim := { program := "ytgljhhlnnedmaaadoor", sum := "70274df99a24a2b09cbd1b1d419ad43611a51ca31643fea3de6c00b72160c5b7", func := "heron/heronlaw01.RunesOne", spec := "runesOne", unfollowed := true, recurses := true, named := ["heron/runes.leads"], apart := false, laid := [("heron/runes.leads", laid_heron_runes_leads)], narrowed := true }
def RunesOneUptoSaid : Prop := runesOneUptoRow.holds Tryd.pinned (OpenSpec.upto runesOneSpec)

/-- 'heronlaw01.RunesSets', WHERE WHAT IT READS IS OF BULK AT MOST 1048576: true; the input reads as it did. -/
def runesSetsUptoRow : OpenClaim := { program := "ytgljhhlnnedmaaadoor", sum := "70274df99a24a2b09cbd1b1d419ad43611a51ca31643fea3de6c00b72160c5b7", func := "heron/heronlaw01.RunesSets", spec := "runesSets", unfollowed := true, recurses := true, named := ["heron/runes.leads"], apart := false, laid := [("heron/runes.leads", laid_heron_runes_leads)], narrowed := true }
def RunesSetsUptoSaid : Prop := runesSetsUptoRow.holds Tryd.pinned (OpenSpec.upto runesSetsSpec)

end Rows
end Go.Proofs.YtgljhhlnnedmaaaDoor
