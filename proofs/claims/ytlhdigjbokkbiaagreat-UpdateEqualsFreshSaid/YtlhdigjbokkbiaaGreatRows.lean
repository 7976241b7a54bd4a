/-
  No cell of these rows narrows 'for every input' (looked for: loops, veiled, ifaces, maps, wideKeys, modest, calm, conditions, laid).
  DERIVED. THE GIVEN ROWS OF THIS SEAT. 3 by the template 'for every input the law returns true; each argument reads behind the call as it read before'; 0 by the template 'total and deterministic' (their statements: YtlhdigjbokkbiaaGreatTotals.lean).
  GIVEN WITH THE SEED: the statements are not yours to turn. If you find one false, say at which input.
  Laid BY PROGRAM, IN A SANDBOX (cutbox-rows.mjs): the forced cells as the released guide's own fill.sh prints them over the translation 32ad0f8e766dc0be… (all of the seat's roots in one cut). By AI agents, Wed Nov 11 2026. No macro, syntax, notation, axiom, sorry.
-/
import Derived.Test.YtlhdigjbokkbiaaGreatChecked
import GoSem.Claim
import GoSem.ClaimJoined
import GoSem.ClaimMapViews
import Derived.JoinedTies
import Derived.KernelRfl
namespace Go.Proofs.YtlhdigjbokkbiaaGreat
/- THE CELL 'sum', in the pinned program and in every row, IS THE sha256 OF THE DUMP (.gsa) THAT YtlhdigjbokkbiaaGreatProg.lean LOADS. Nothing in Lean hashes anything: it is a label: what it is worth is what the hold of that sum in a sandbox is worth. -/
noncomputable def Tryz.pinned : Pinned := { name := "ytlhdigjbokkbiaagreat", sum := "32ad0f8e766dc0be2f086a01a28543e5ec63725bdd8cf3799abb8be7d5d303d1", checked := Tryz.checked }
namespace Rows
def none {H : Type} : Left H := { results := [], args := [] }

/-- 'gridmarketlaw10.UpdateNew': WHATEVER THE INPUT: true; the input reads as it did. -/
def updateNewSpec : ChangeSpec := { name := "updateNew", fn := fun _ => fun
  | [d] => { results := [.lit (.bool true)], args := [d] }
  | _ => none }
def updateNewRow : OpenClaim := { program := "ytlhdigjbokkbiaagreat", sum := "32ad0f8e766dc0be2f086a01a28543e5ec63725bdd8cf3799abb8be7d5d303d1", func := "gridmarket/gridmarketlaw10.UpdateNew", spec := "updateNew", unfollowed := true, recurses := true, apart := false }
def UpdateNewSaid : Prop := updateNewRow.holds Tryz.pinned (OpenSpec.ofChange updateNewSpec)

/-- ITS FALSE NEIGHBOUR: 'it returns false'. Refute it at one input. -/
def updateNewWrong : ChangeSpec := { name := "updateNew", fn := fun _ => fun
  | [d] => { results := [.lit (.bool false)], args := [d] }
  | _ => none }
def UpdateNewWrongFalsely : Prop := updateNewRow.holds Tryz.pinned (OpenSpec.ofChange updateNewWrong)

/-- 'gridmarketlaw10.UpdateUndo': WHATEVER THE INPUT: true; the input reads as it did. -/
def updateUndoSpec : ChangeSpec := { name := "updateUndo", fn := fun _ => fun
  | [d1, d2, d3] => { results := [.lit (.bool true)], args := [d1, d2, d3] }
  | _ => none }
def updateUndoRow : OpenClaim := { program := "ytlhdigjbokkbiaagreat", sum := "32ad0f8e766dc0be2f086a01a28543e5ec63725bdd8cf3799abb8be7d5d303d1", func := "gridmarket/gridmarketlaw10.UpdateUndo", spec := "updateUndo", unfollowed := true, recurses := true, apart := false }
def UpdateUndoSaid : Prop := updateUndoRow.holds Tryz.pinned (OpenSpec.ofChange updateUndoSpec)

/-- ITS FALSE NEIGHBOUR: 'it returns false'. Refute it at one input. -/
def updateUndoWrong : ChangeSpec := { name := "updateUndo", fn := fun _ => fun
  | [d1, d2, d3] => { results := [.lit (.bool false)], args := [d1, d2, d3] }
  | _ => none }
def UpdateUndoWrongFalsely : Prop := updateUndoRow.holds Tryz.pinned (OpenSpec.ofChange updateUndoWrong)

/-- 'gridmarketlaw10.UpdateEqualsFresh': WHATEVER THE INPUT: true; the input reads as it did. -/
def updateEqualsFreshSpec : ChangeSpec := { name := "updateEqualsFresh", fn := fun _ => fun
  | [d1, d2] => { results := [.lit (.bool true)], args := [d1, d2] }
  | _ => none }
def updateEqualsFreshRow : OpenClaim := { program := "ytlhdigjbokkbiaagreat", sum := "32ad0f8e766dc0be2f086a01a28543e5ec63725bdd8cf3799abb8be7d5d303d1", func := "gridmarket/gridmarketlaw10.UpdateEqualsFresh", spec := "updateEqualsFresh", unfollowed := true, recurses := true, apart := false }
def UpdateEqualsFreshSaid : Prop := updateEqualsFreshRow.holds Tryz.pinned (OpenSpec.ofChange updateEqualsFreshSpec)

/-- ITS FALSE NEIGHBOUR: 'it returns false'. Refute it at one input. -/
def updateEqualsFreshWrong : ChangeSpec := { name := "updateEqualsFresh", fn := fun _ => fun
  | [d1, d2] => { results := [.lit (.bool false)], args := [d1, d2] }
  | _ => none }
def UpdateEqualsFreshWrongFalsely : Prop := updateEqualsFreshRow.holds Tryz.pinned (OpenSpec.ofChange updateEqualsFreshWrong)

/- THE SECOND FORM. 'bulk': how many values and letters a reading holds, each counted each time it is reached (what is shared counts as often as it is met; a slice's spare places count too). A statement '..UptoSaid' is the law's where the arguments, and the package variables that the reading takes, are together of bulk at most 1048576: NARROWER than '..Said'. Prove '..Said' where nothing that the law and all that it calls make is longer than what came in: it says more and counts as full. Else prove '..UptoSaid'. A law counts once. -/
mutual
def uptoBulk {H : Type} : DataW H → Nat
  | .lit (.string bytes) => bytes.length + 1
  | .lit _ => 1
  | .nil => 1
  | .ptr d => uptoBulk d + 1
  | .slice elems spare => uptoBulkAll elems + uptoBulkAll spare + 1
  | .agg parts => uptoBulkAll parts + 1
  | .iface _ d => uptoBulk d + 1
  | .map entries => uptoBulkEntries entries + 1
  | .held _ => 1
def uptoBulkAll {H : Type} : List (DataW H) → Nat
  | [] => 0
  | d :: r => uptoBulk d + uptoBulkAll r
def uptoBulkEntries {H : Type} : List (Lit × DataW H) → Nat
  | [] => 0
  | x :: r => uptoBulkEntry x + uptoBulkEntries r
def uptoBulkEntry {H : Type} : Lit × DataW H → Nat
  | (.string bytes, d) => bytes.length + uptoBulk d + 1
  | (_, d) => uptoBulk d + 1
 end
def uptoSmall : (H : Type) → List (DataW H) → Bool := fun _ ds => decide (uptoBulkAll ds ≤ 1048576)
def OpenSpec.upto (s : _root_.Go.ChangeSpec) : _root_.Go.OpenSpec := { _root_.Go.OpenSpec.ofChange s with cond := some uptoSmall }

/-- 'gridmarketlaw10.UpdateNew', WHERE WHAT IT READS IS OF BULK AT MOST 1048576: true; the input reads as it did. -/
def updateNewUptoRow : OpenClaim := { program := "ytlhdigjbokkbiaagreat", sum := "32ad0f8e766dc0be2f086a01a28543e5ec63725bdd8cf3799abb8be7d5d303d1", func := "gridmarket/gridmarketlaw10.UpdateNew", spec := "updateNew", unfollowed := true, recurses := true, apart := false, narrowed := true }
def UpdateNewUptoSaid : Prop := updateNewUptoRow.holds Tryz.pinned (OpenSpec.upto updateNewSpec)

/-- 'gridmarketlaw10.UpdateUndo', WHERE WHAT IT READS IS OF BULK AT MOST 1048576: true; the input reads as it did. -/
def updateUndoUptoRow : OpenClaim := { program := "ytlhdigjbokkbiaagreat", sum := "32ad0f8e766dc0be2f086a01a28543e5ec63725bdd8cf3799abb8be7d5d303d1", func := "gridmarket/gridmarketlaw10.UpdateUndo", spec := "updateUndo", unfollowed := true, recurses := true, apart := false, narrowed := true }
def UpdateUndoUptoSaid : Prop := updateUndoUptoRow.holds Tryz.pinned (OpenSpec.upto updateUndoSpec)

/-- 'gridmarketlaw10.UpdateEqualsFresh', WHERE WHAT IT READS IS OF BULK AT MOST 1048576: true; the input reads as it did. -/
def updateEqualsFreshUptoRow : OpenClaim := { program := "ytlhdigjbokkbiaagreat", sum := "32ad0f8e766dc0be2f086a01a28543e5ec63725bdd8cf3799abb8be7d5d303d1", func := "gridmarket/gridmarketlaw10.UpdateEqualsFresh", spec := "updateEqualsFresh", unfollowed := true, recurses := true, apart := false, narrowed := true }
def UpdateEqualsFreshUptoSaid : Prop := updateEqualsFreshUptoRow.holds Tryz.pinned (OpenSpec.upto updateEqualsFreshSpec)

end Rows
end Go.Proofs.YtlhdigjbokkbiaaGreat
