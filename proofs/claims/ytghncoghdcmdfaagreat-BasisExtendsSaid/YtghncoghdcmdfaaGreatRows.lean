/-
  No cell of these rows narrows 'for every input' (looked for: loops, veiled, ifaces, maps, wideKeys, modest, calm, conditions, laid).
  DERIVED. THE GIVEN ROWS OF THIS SEAT. 6 by the template 'for every input the law returns true; each argument reads behind the call as it read before'; 0 by the template 'total and deterministic' (their statements: YtghncoghdcmdfaaGreatTotals.lean).
  GIVEN WITH THE SEED: the statements are not yours to turn. If you find one false, say at which input.
  Laid BY PROGRAM, IN A SANDBOX (cutbox-rows.mjs): the forced cells as the released guide's own fill.sh prints them over the translation d08b9786fd6f0fa9… (all of the seat's roots in one cut). By AI agents, Wed Nov 11 2026. No macro, syntax, notation, axiom, sorry.
-/
import Derived.Test.YtghncoghdcmdfaaGreatChecked
import GoSem.Claim
import GoSem.ClaimJoined
import GoSem.ClaimMapViews
import Derived.JoinedTies
import Derived.KernelRfl
namespace Go.Proofs.YtghncoghdcmdfaaGreat
/- THE CELL 'sum', in the pinned program and in every row, IS THE sha256 OF THE DUMP (.gsa) THAT YtghncoghdcmdfaaGreatProg.lean LOADS. Nothing in Lean hashes anything: it is a label: what it is worth is what the hold of that sum in a sandbox is worth. -/
noncomputable def Tryz.pinned : Pinned := { name := "ytghncoghdcmdfaagreat", sum := "d08b9786fd6f0fa950c967d181b9b8feb640a1c588707cbb2889ff2264c7f015", checked := Tryz.checked }
namespace Rows
def none {H : Type} : Left H := { results := [], args := [] }

/-- 'gridmarketlaw10.UpdateNew': WHATEVER THE INPUT: true; the input reads as it did. -/
def updateNewSpec : ChangeSpec := { name := "updateNew", fn := fun _ => fun
  | [d] => { results := [.lit (.bool true)], args := [d] }
  | _ => none }
def updateNewRow : OpenClaim := { program := "ytghncoghdcmdfaagreat", sum := "d08b9786fd6f0fa950c967d181b9b8feb640a1c588707cbb2889ff2264c7f015", func := "gridmarket/gridmarketlaw10.UpdateNew", spec := "updateNew", unfollowed := true, recurses := true, apart := false }
def UpdateNewSaid : Prop := updateNewRow.holds Tryz.pinned (OpenSpec.ofChange updateNewSpec)

/-- ITS FALSE NEIGHBOUR: 'it returns false'. Refute it at one input. -/
def updateNewWrong : ChangeSpec := { name := "updateNew", fn := fun _ => fun
  | [d] => { results := [.lit (.bool false)], args := [d] }
  | _ => none }
def UpdateNewWrongFalsely : Prop := updateNewRow.holds Tryz.pinned (OpenSpec.ofChange updateNewWrong)

/-- 'gridmarketlaw13.BasisRepairs': WHATEVER THE INPUT: true; the input reads as it did. -/
def basisRepairsSpec : ChangeSpec := { name := "basisRepairs", fn := fun _ => fun
  | [d1, d2] => { results := [.lit (.bool true)], args := [d1, d2] }
  | _ => none }
def basisRepairsRow : OpenClaim := { program := "ytghncoghdcmdfaagreat", sum := "d08b9786fd6f0fa950c967d181b9b8feb640a1c588707cbb2889ff2264c7f015", func := "gridmarket/gridmarketlaw13.BasisRepairs", spec := "basisRepairs", unfollowed := true, recurses := true, apart := false }
def BasisRepairsSaid : Prop := basisRepairsRow.holds Tryz.pinned (OpenSpec.ofChange basisRepairsSpec)

/-- ITS FALSE NEIGHBOUR: 'it returns false'. Refute it at one input. -/
def basisRepairsWrong : ChangeSpec := { name := "basisRepairs", fn := fun _ => fun
  | [d1, d2] => { results := [.lit (.bool false)], args := [d1, d2] }
  | _ => none }
def BasisRepairsWrongFalsely : Prop := basisRepairsRow.holds Tryz.pinned (OpenSpec.ofChange basisRepairsWrong)

/-- 'gridmarketlaw13.BasisComplementary': WHATEVER THE INPUT: true; the input reads as it did. -/
def basisComplementarySpec : ChangeSpec := { name := "basisComplementary", fn := fun _ => fun
  | [d1, d2] => { results := [.lit (.bool true)], args := [d1, d2] }
  | _ => none }
def basisComplementaryRow : OpenClaim := { program := "ytghncoghdcmdfaagreat", sum := "d08b9786fd6f0fa950c967d181b9b8feb640a1c588707cbb2889ff2264c7f015", func := "gridmarket/gridmarketlaw13.BasisComplementary", spec := "basisComplementary", unfollowed := true, recurses := true, apart := false }
def BasisComplementarySaid : Prop := basisComplementaryRow.holds Tryz.pinned (OpenSpec.ofChange basisComplementarySpec)

/-- ITS FALSE NEIGHBOUR: 'it returns false'. Refute it at one input. -/
def basisComplementaryWrong : ChangeSpec := { name := "basisComplementary", fn := fun _ => fun
  | [d1, d2] => { results := [.lit (.bool false)], args := [d1, d2] }
  | _ => none }
def BasisComplementaryWrongFalsely : Prop := basisComplementaryRow.holds Tryz.pinned (OpenSpec.ofChange basisComplementaryWrong)

/-- 'gridmarketlaw13.BasisExact': WHATEVER THE INPUT: true; the input reads as it did. -/
def basisExactSpec : ChangeSpec := { name := "basisExact", fn := fun _ => fun
  | [d1, d2, d3, d4] => { results := [.lit (.bool true)], args := [d1, d2, d3, d4] }
  | _ => none }
def basisExactRow : OpenClaim := { program := "ytghncoghdcmdfaagreat", sum := "d08b9786fd6f0fa950c967d181b9b8feb640a1c588707cbb2889ff2264c7f015", func := "gridmarket/gridmarketlaw13.BasisExact", spec := "basisExact", unfollowed := true, recurses := true, apart := false }
def BasisExactSaid : Prop := basisExactRow.holds Tryz.pinned (OpenSpec.ofChange basisExactSpec)

/-- ITS FALSE NEIGHBOUR: 'it returns false'. Refute it at one input. -/
def basisExactWrong : ChangeSpec := { name := "basisExact", fn := fun _ => fun
  | [d1, d2, d3, d4] => { results := [.lit (.bool false)], args := [d1, d2, d3, d4] }
  | _ => none }
def BasisExactWrongFalsely : Prop := basisExactRow.holds Tryz.pinned (OpenSpec.ofChange basisExactWrong)

/-- 'gridmarketlaw13.BasisExtends': WHATEVER THE INPUT: true; the input reads as it did. -/
def basisExtendsSpec : ChangeSpec := { name := "basisExtends", fn := fun _ => fun
  | [d1, d2, d3, d4, d5] => { results := [.lit (.bool true)], args := [d1, d2, d3, d4, d5] }
  | _ => none }
def basisExtendsRow : OpenClaim := { program := "ytghncoghdcmdfaagreat", sum := "d08b9786fd6f0fa950c967d181b9b8feb640a1c588707cbb2889ff2264c7f015", func := "gridmarket/gridmarketlaw13.BasisExtends", spec := "basisExtends", unfollowed := true, recurses := true, apart := false }
def BasisExtendsSaid : Prop := basisExtendsRow.holds Tryz.pinned (OpenSpec.ofChange basisExtendsSpec)

/-- ITS FALSE NEIGHBOUR: 'it returns false'. Refute it at one input. -/
def basisExtendsWrong : ChangeSpec := { name := "basisExtends", fn := fun _ => fun
  | [d1, d2, d3, d4, d5] => { results := [.lit (.bool false)], args := [d1, d2, d3, d4, d5] }
  | _ => none }
def BasisExtendsWrongFalsely : Prop := basisExtendsRow.holds Tryz.pinned (OpenSpec.ofChange basisExtendsWrong)

/-- 'gridmarketlaw13.BasisOptimal': WHATEVER THE INPUT: true; the input reads as it did. -/
def basisOptimalSpec : ChangeSpec := { name := "basisOptimal", fn := fun _ => fun
  | [d1, d2] => { results := [.lit (.bool true)], args := [d1, d2] }
  | _ => none }
def basisOptimalRow : OpenClaim := { program := "ytghncoghdcmdfaagreat", sum := "d08b9786fd6f0fa950c967d181b9b8feb640a1c588707cbb2889ff2264c7f015", func := "gridmarket/gridmarketlaw13.BasisOptimal", spec := "basisOptimal", unfollowed := true, recurses := true, apart := false }
def BasisOptimalSaid : Prop := basisOptimalRow.holds Tryz.pinned (OpenSpec.ofChange basisOptimalSpec)

/-- ITS FALSE NEIGHBOUR: 'it returns false'. Refute it at one input. -/
def basisOptimalWrong : ChangeSpec := { name := "basisOptimal", fn := fun _ => fun
  | [d1, d2] => { results := [.lit (.bool false)], args := [d1, d2] }
  | _ => none }
def BasisOptimalWrongFalsely : Prop := basisOptimalRow.holds Tryz.pinned (OpenSpec.ofChange basisOptimalWrong)

/- THE SECOND FORM. 'bulk': how many values and letters a reading holds, each counted each time it is reached (what is shared counts as often as it is met; a slice's spare places count too). A statement '..UptoSaid' is the law's where the arguments, and the package variables that the reading takes, are together of bulk at most 1048576: NARROWER than '..Said'. Prove '..Said' where nothing that the law and all that it calls make is longer than what came in: it says more and counts as full. Else prove '..UptoSaid'. A law counts once. -/
mutual
def uptoBulk {H : Type} : DataW H → Nat
  | .lit (.string bytes) => bytes.length + 1
  | .lit _ => 1
  | .nil => 1
  | .ptr d => uptoBulk d + 1
  | .slice elems spare => uptoBulkAll elems + uptoBulkAll spare + 1
  | .agg parts => uptoBulkAll parts + 1
  | .iface _ d => uptoBulk d + 1
  | .map entries => uptoBulkEntries entries + 1
  | .held _ => 1
def uptoBulkAll {H : Type} : List (DataW H) → Nat
  | [] => 0
  | d :: r => uptoBulk d + uptoBulkAll r
def uptoBulkEntries {H : Type} : List (Lit × DataW H) → Nat
  | [] => 0
  | x :: r => uptoBulkEntry x + uptoBulkEntries r
def uptoBulkEntry {H : Type} : Lit × DataW H → Nat
  | (.string bytes, d) => bytes.length + uptoBulk d + 1
  | (_, d) => uptoBulk d + 1
 end
def uptoSmall : (H : Type) → List (DataW H) → Bool := fun _ ds => decide (uptoBulkAll ds ≤ 1048576)
def OpenSpec.upto (s : _root_.Go.ChangeSpec) : _root_.Go.OpenSpec := { _root_.Go.OpenSpec.ofChange s with cond := some uptoSmall }

/-- 'gridmarketlaw10.UpdateNew', WHERE WHAT IT READS IS OF BULK AT MOST 1048576: true; the input reads as it did. -/
def updateNewUptoRow : OpenClaim := { program := "ytghncoghdcmdfaagreat", sum := "d08b9786fd6f0fa950c967d181b9b8feb640a1c588707cbb2889ff2264c7f015", func := "gridmarket/gridmarketlaw10.UpdateNew", spec := "updateNew", unfollowed := true, recurses := true, apart := false, narrowed := true }
def UpdateNewUptoSaid : Prop := updateNewUptoRow.holds Tryz.pinned (OpenSpec.upto updateNewSpec)

/-- 'gridmarketlaw13.BasisRepairs', WHERE WHAT IT READS IS OF BULK AT MOST 1048576: true; the input reads as it did. -/
def basisRepairsUptoRow : OpenClaim := { program := "ytghncoghdcmdfaagreat", sum := "d08b9786fd6f0fa950c967d181b9b8feb640a1c588707cbb2889ff2264c7f015", func := "gridmarket/gridmarketlaw13.BasisRepairs", spec := "basisRepairs", unfollowed := true, recurses := true, apart := false, narrowed := true }
def BasisRepairsUptoSaid : Prop := basisRepairsUptoRow.holds Tryz.pinned (OpenSpec.upto basisRepairsSpec)

/-- 'gridmarketlaw13.BasisComplementary', WHERE WHAT IT READS IS OF BULK AT MOST 1048576: true; the input reads as it did. -/
def basisComplementaryUptoRow : OpenClaim := { program := "ytghncoghdcmdfaagreat", sum := "d08b9786fd6f0fa950c967d181b9b8feb640a1c588707cbb2889ff2264c7f015", func := "gridmarket/gridmarketlaw13.BasisComplementary", spec := "basisComplementary", unfollowed := true, recurses := true, apart := false, narrowed := true }
def BasisComplementaryUptoSaid : Prop := basisComplementaryUptoRow.holds Tryz.pinned (OpenSpec.upto basisComplementarySpec)

/-- 'gridmarketlaw13.BasisExact', WHERE WHAT IT READS IS OF BULK AT MOST 1048576: true; the input reads as it did. -/
def basisExactUptoRow : OpenClaim := { program := "ytghncoghdcmdfaagreat", sum := "d08b9786fd6f0fa950c967d181b9b8feb640a1c588707cbb2889ff2264c7f015", func := "gridmarket/gridmarketlaw13.BasisExact", spec := "basisExact", unfollowed := true, recurses := true, apart := false, narrowed := true }
def BasisExactUptoSaid : Prop := basisExactUptoRow.holds Tryz.pinned (OpenSpec.upto basisExactSpec)

/-- 'gridmarketlaw13.BasisExtends', WHERE WHAT IT READS IS OF BULK AT MOST 1048576: true; the input reads as it did. -/
def basisExtendsUptoRow : OpenClaim := { program := "ytghncoghdcmdfaagreat", sum := "d08b9786fd6f0fa950c967d181b9b8feb640a1c588707cbb2889ff2264c7f015", func := "gridmarket/gridmarketlaw13.BasisExtends", spec := "basisExtends", unfollowed := true, recurses := true, apart := false, narrowed := true }
def BasisExtendsUptoSaid : Prop := basisExtendsUptoRow.holds Tryz.pinned (OpenSpec.upto basisExtendsSpec)

/-- 'gridmarketlaw13.BasisOptimal', WHERE WHAT IT READS IS OF BULK AT MOST 1048576: true; the input reads as it did. -/
def basisOptimalUptoRow : OpenClaim := { program := "ytghncoghdcmdfaagreat", sum := "d08b9786fd6f0fa950c967d181b9b8feb640a1c588707cbb2889ff2264c7f015", func := "gridmarket/gridmarketlaw13.BasisOptimal", spec := "basisOptimal", unfollowed := true, recurses := true, apart := false, narrowed := true }
def BasisOptimalUptoSaid : Prop := basisOptimalUptoRow.holds Tryz.pinned (OpenSpec.upto basisOptimalSpec)

end Rows
end Go.Proofs.YtghncoghdcmdfaaGreat
