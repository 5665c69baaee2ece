/-
  NARROWER THAN 'FOR EVERY INPUT', by the rows' own cells (each row's printed sentence says how): SimplifyRests: loops · SimplifyGroups: loops.
  DERIVED. THE GIVEN ROWS OF THIS SEAT. 2 by the template 'for every input the law returns true; each argument reads behind the call as it read before'; 0 by the template 'total and deterministic' (their statements: YtajpkgbgfneacaaTotals.lean).
  GIVEN WITH THE SEED: the statements are not yours to turn. If you find one false, say at which input.
  Laid BY PROGRAM, IN A SANDBOX (cutbox-rows.mjs): the forced cells as the released guide's own fill.sh prints them over the translation ac15b9fc67190442… (all of the seat's roots in one cut). By AI agents, Wed Nov 11 2026. No macro, syntax, notation, axiom, sorry.
-/
import Derived.Test.YtajpkgbgfneacaaChecked
import GoSem.Claim
import GoSem.ClaimJoined
import GoSem.ClaimMapViews
import Derived.JoinedTies
import Derived.KernelRfl
namespace Go.Proofs.Ytajpkgbgfneacaa
/- THE CELL 'sum', in the pinned program and in every row, IS THE sha256 OF THE DUMP (.gsa) THAT YtajpkgbgfneacaaProg.lean LOADS. Nothing in Lean hashes anything: it is a label: what it is worth is what the hold of that sum in a sandbox is worth. -/
noncomputable def Try.pinned : Pinned := { name := "ytajpkgbgfneacaa", sum := "ac15b9fc67190442288c2c3f811236ca53daac6395d2c7ec9e672315dd5a766b", checked := Try.checked }
namespace Rows
def none {H : Type} : Left H := { results := [], args := [] }

/-- 'heronlaw07.SimplifyRests': WHATEVER THE INPUT: true; the input reads as it did. -/
def simplifyRestsSpec : ChangeSpec := { name := "simplifyRests", fn := fun _ => fun
  | [d] => { results := [.lit (.bool true)], args := [d] }
  | _ => none }
def simplifyRestsRow : OpenClaim := { program := "ytajpkgbgfneacaa", sum := "ac15b9fc67190442288c2c3f811236ca53daac6395d2c7ec9e672315dd5a766b", func := "heron/heronlaw07.SimplifyRests", spec := "simplifyRests", unfollowed := true, recurses := true, loops := true, apart := false }
def SimplifyRestsSaid : Prop := simplifyRestsRow.holds Try.pinned (OpenSpec.ofChange simplifyRestsSpec)

/-- ITS FALSE NEIGHBOUR: 'it returns false'. Refute it at one input. -/
def simplifyRestsWrong : ChangeSpec := { name := "simplifyRests", fn := fun _ => fun
  | [d] => { results := [.lit (.bool false)], args := [d] }
  | _ => none }
def SimplifyRestsWrongFalsely : Prop := simplifyRestsRow.holds Try.pinned (OpenSpec.ofChange simplifyRestsWrong)

/-- 'heronlaw07.SimplifyGroups': WHATEVER THE INPUT: true; the input reads as it did. -/
def simplifyGroupsSpec : ChangeSpec := { name := "simplifyGroups", fn := fun _ => fun
  | [d] => { results := [.lit (.bool true)], args := [d] }
  | _ => none }
def simplifyGroupsRow : OpenClaim := { program := "ytajpkgbgfneacaa", sum := "ac15b9fc67190442288c2c3f811236ca53daac6395d2c7ec9e672315dd5a766b", func := "heron/heronlaw07.SimplifyGroups", spec := "simplifyGroups", unfollowed := true, recurses := true, loops := true, apart := false }
def SimplifyGroupsSaid : Prop := simplifyGroupsRow.holds Try.pinned (OpenSpec.ofChange simplifyGroupsSpec)

/-- ITS FALSE NEIGHBOUR: 'it returns false'. Refute it at one input. -/
def simplifyGroupsWrong : ChangeSpec := { name := "simplifyGroups", fn := fun _ => fun
  | [d] => { results := [.lit (.bool false)], args := [d] }
  | _ => none }
def SimplifyGroupsWrongFalsely : Prop := simplifyGroupsRow.holds Try.pinned (OpenSpec.ofChange simplifyGroupsWrong)

/- THE SECOND FORM. 'bulk': how many values and letters a reading holds, each counted each time it is reached (what is shared counts as often as it is met; a slice's spare places count too). A statement '..UptoSaid' is the law's where the arguments, and the package variables that the reading takes, are together of bulk at most 1048576: NARROWER than '..Said'. Prove '..Said' where nothing that the law and all that it calls make is longer than what came in: it says more and counts as full. Else prove '..UptoSaid'. A law counts once. -/
mutual
def uptoBulk {H : Type} : DataW H → Nat
  | .lit (.string bytes) => bytes.length + 1
  | .lit _ => 1
  | .nil => 1
  | .ptr d => uptoBulk d + 1
  | .slice elems spare => uptoBulkAll elems + uptoBulkAll spare + 1
  | .agg parts => uptoBulkAll parts + 1
  | .iface _ d => uptoBulk d + 1
  | .map entries => uptoBulkEntries entries + 1
  | .held _ => 1
def uptoBulkAll {H : Type} : List (DataW H) → Nat
  | [] => 0
  | d :: r => uptoBulk d + uptoBulkAll r
def uptoBulkEntries {H : Type} : List (Lit × DataW H) → Nat
  | [] => 0
  | x :: r => uptoBulkEntry x + uptoBulkEntries r
def uptoBulkEntry {H : Type} : Lit × DataW H → Nat
  | (.string bytes, d) => bytes.length + uptoBulk d + 1
  | (_, d) => uptoBulk d + 1
 end
def uptoSmall : (H : Type) → List (DataW H) → Bool := fun _ ds => decide (uptoBulkAll ds ≤ 1048576)
def OpenSpec.upto (s : _root_.Go.ChangeSpec) : _root_.Go.OpenSpec := { _root_.Go.OpenSpec.ofChange s with cond := some uptoSmall }

/-- 'heronlaw07.SimplifyRests', WHERE WHAT IT READS IS OF BULK AT MOST 1048576: true; the input reads as it did. -/
def simplifyRestsUptoRow : OpenClaim := { program := "ytajpkgbgfneacaa", sum := "ac15b9fc67190442288c2c3f811236ca53daac6395d2c7ec9e672315dd5a766b", func := "heron/heronlaw07.SimplifyRests", spec := "simplifyRests", unfollowed := true, recurses := true, loops := true, apart := false, narrowed := true }
def SimplifyRestsUptoSaid : Prop := simplifyRestsUptoRow.holds Try.pinned (OpenSpec.upto simplifyRestsSpec)

/-- 'heronlaw07.SimplifyGroups', WHERE WHAT IT READS IS OF BULK AT MOST 1048576: true; the input reads as it did. -/
def simplifyGroupsUptoRow : OpenClaim := { program := "ytajpkgbgfneacaa", sum := "ac15b9fc67190442288c2c3f811236ca53daac6395d2c7ec9e672315dd5a766b", func := "heron/heronlaw07.SimplifyGroups", spec := "simplifyGroups", unfollowed := true, recurses := true, loops := true, apart := false, narrowed := true }
def SimplifyGroupsUptoSaid : Prop := simplifyGroupsUptoRow.holds Try.pinned (OpenSpec.upto simplifyGroupsSpec)

end Rows
end Go.Proofs.Ytajpkgbgfneacaa
