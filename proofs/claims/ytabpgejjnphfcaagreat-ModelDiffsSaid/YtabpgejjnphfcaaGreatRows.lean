/-
  No cell of these rows narrows 'for every input' (looked for: loops, veiled, ifaces, maps, wideKeys, modest, calm, conditions, laid).
  DERIVED. THE GIVEN ROWS OF THIS SEAT. 7 by the template 'for every input the law returns true; each argument reads behind the call as it read before'; 0 by the template 'total and deterministic' (their statements: YtabpgejjnphfcaaGreatTotals.lean).
  GIVEN WITH THE SEED: the statements are not yours to turn. If you find one false, say at which input.
  Laid BY PROGRAM, IN A SANDBOX (cutbox-rows.mjs): the forced cells as the released guide's own fill.sh prints them over the translation ede30488e567904e… (all of the seat's roots in one cut). By AI agents, Wed Nov 11 2026. No macro, syntax, notation, axiom, sorry.
-/
import Derived.Test.YtabpgejjnphfcaaGreatChecked
import GoSem.Claim
import GoSem.ClaimJoined
import GoSem.ClaimMapViews
import Derived.JoinedTies
import Derived.KernelRfl
namespace Go.Proofs.YtabpgejjnphfcaaGreat
/- THE CELL 'sum', in the pinned program and in every row, IS THE sha256 OF THE DUMP (.gsa) THAT YtabpgejjnphfcaaGreatProg.lean LOADS. Nothing in Lean hashes anything: it is a label: what it is worth is what the hold of that sum in a sandbox is worth. -/
noncomputable def Tryz.pinned : Pinned := { name := "ytabpgejjnphfcaagreat", sum := "ede30488e567904ee14ecd73219517bffa4efae0cacdb4be4928afdb5bcc5392", checked := Tryz.checked }
namespace Rows
def none {H : Type} : Left H := { results := [], args := [] }

/-- 'rootstocklaw20.ModelGraphs': WHATEVER THE INPUT: true; the input reads as it did. -/
def modelGraphsSpec : ChangeSpec := { name := "modelGraphs", fn := fun _ => fun
  | [d1, d2, d3] => { results := [.lit (.bool true)], args := [d1, d2, d3] }
  | _ => none }
def modelGraphsRow : OpenClaim := { program := "ytabpgejjnphfcaagreat", sum := "ede30488e567904ee14ecd73219517bffa4efae0cacdb4be4928afdb5bcc5392", func := "rootstock/rootstocklaw20.ModelGraphs", spec := "modelGraphs", inPlace := ["slices.overlaps[rootstock/api.Pair]", "maps.clone"], unfollowed := true, recurses := true, apart := false }
def ModelGraphsSaid : Prop := modelGraphsRow.holds Tryz.pinned (OpenSpec.ofChange modelGraphsSpec)

/-- ITS FALSE NEIGHBOUR: 'it returns false'. Refute it at one input. -/
def modelGraphsWrong : ChangeSpec := { name := "modelGraphs", fn := fun _ => fun
  | [d1, d2, d3] => { results := [.lit (.bool false)], args := [d1, d2, d3] }
  | _ => none }
def ModelGraphsWrongFalsely : Prop := modelGraphsRow.holds Tryz.pinned (OpenSpec.ofChange modelGraphsWrong)

/-- 'rootstocklaw20.ModelStays': WHATEVER THE INPUT: true; the input reads as it did. -/
def modelStaysSpec : ChangeSpec := { name := "modelStays", fn := fun _ => fun
  | [d1, d2] => { results := [.lit (.bool true)], args := [d1, d2] }
  | _ => none }
def modelStaysRow : OpenClaim := { program := "ytabpgejjnphfcaagreat", sum := "ede30488e567904ee14ecd73219517bffa4efae0cacdb4be4928afdb5bcc5392", func := "rootstock/rootstocklaw20.ModelStays", spec := "modelStays", inPlace := ["slices.overlaps[rootstock/api.Pair]", "maps.clone"], unfollowed := true, recurses := true, apart := false }
def ModelStaysSaid : Prop := modelStaysRow.holds Tryz.pinned (OpenSpec.ofChange modelStaysSpec)

/-- ITS FALSE NEIGHBOUR: 'it returns false'. Refute it at one input. -/
def modelStaysWrong : ChangeSpec := { name := "modelStays", fn := fun _ => fun
  | [d1, d2] => { results := [.lit (.bool false)], args := [d1, d2] }
  | _ => none }
def ModelStaysWrongFalsely : Prop := modelStaysRow.holds Tryz.pinned (OpenSpec.ofChange modelStaysWrong)

/-- 'rootstocklaw20.ModelDiffs': WHATEVER THE INPUT: true; the input reads as it did. -/
def modelDiffsSpec : ChangeSpec := { name := "modelDiffs", fn := fun _ => fun
  | [d1, d2, d3] => { results := [.lit (.bool true)], args := [d1, d2, d3] }
  | _ => none }
def modelDiffsRow : OpenClaim := { program := "ytabpgejjnphfcaagreat", sum := "ede30488e567904ee14ecd73219517bffa4efae0cacdb4be4928afdb5bcc5392", func := "rootstock/rootstocklaw20.ModelDiffs", spec := "modelDiffs", inPlace := ["slices.overlaps[rootstock/api.Pair]", "maps.clone"], unfollowed := true, recurses := true, apart := false }
def ModelDiffsSaid : Prop := modelDiffsRow.holds Tryz.pinned (OpenSpec.ofChange modelDiffsSpec)

/-- ITS FALSE NEIGHBOUR: 'it returns false'. Refute it at one input. -/
def modelDiffsWrong : ChangeSpec := { name := "modelDiffs", fn := fun _ => fun
  | [d1, d2, d3] => { results := [.lit (.bool false)], args := [d1, d2, d3] }
  | _ => none }
def ModelDiffsWrongFalsely : Prop := modelDiffsRow.holds Tryz.pinned (OpenSpec.ofChange modelDiffsWrong)

/-- 'rootstocklaw20.ModelApart': WHATEVER THE INPUT: true; the input reads as it did. -/
def modelApartSpec : ChangeSpec := { name := "modelApart", fn := fun _ => fun
  | [d1, d2] => { results := [.lit (.bool true)], args := [d1, d2] }
  | _ => none }
def modelApartRow : OpenClaim := { program := "ytabpgejjnphfcaagreat", sum := "ede30488e567904ee14ecd73219517bffa4efae0cacdb4be4928afdb5bcc5392", func := "rootstock/rootstocklaw20.ModelApart", spec := "modelApart", inPlace := ["slices.overlaps[rootstock/api.Pair]", "maps.clone"], unfollowed := true, recurses := true, apart := false }
def ModelApartSaid : Prop := modelApartRow.holds Tryz.pinned (OpenSpec.ofChange modelApartSpec)

/-- ITS FALSE NEIGHBOUR: 'it returns false'. Refute it at one input. -/
def modelApartWrong : ChangeSpec := { name := "modelApart", fn := fun _ => fun
  | [d1, d2] => { results := [.lit (.bool false)], args := [d1, d2] }
  | _ => none }
def ModelApartWrongFalsely : Prop := modelApartRow.holds Tryz.pinned (OpenSpec.ofChange modelApartWrong)

/-- 'rootstocklaw20.ModelBranches': WHATEVER THE INPUT: true; the input reads as it did. -/
def modelBranchesSpec : ChangeSpec := { name := "modelBranches", fn := fun _ => fun
  | [d1, d2, d3] => { results := [.lit (.bool true)], args := [d1, d2, d3] }
  | _ => none }
def modelBranchesRow : OpenClaim := { program := "ytabpgejjnphfcaagreat", sum := "ede30488e567904ee14ecd73219517bffa4efae0cacdb4be4928afdb5bcc5392", func := "rootstock/rootstocklaw20.ModelBranches", spec := "modelBranches", inPlace := ["slices.overlaps[rootstock/api.Pair]", "maps.clone"], unfollowed := true, recurses := true, apart := false }
def ModelBranchesSaid : Prop := modelBranchesRow.holds Tryz.pinned (OpenSpec.ofChange modelBranchesSpec)

/-- ITS FALSE NEIGHBOUR: 'it returns false'. Refute it at one input. -/
def modelBranchesWrong : ChangeSpec := { name := "modelBranches", fn := fun _ => fun
  | [d1, d2, d3] => { results := [.lit (.bool false)], args := [d1, d2, d3] }
  | _ => none }
def ModelBranchesWrongFalsely : Prop := modelBranchesRow.holds Tryz.pinned (OpenSpec.ofChange modelBranchesWrong)

/-- 'rootstocklaw20.ModelParents': WHATEVER THE INPUT: true; the input reads as it did. -/
def modelParentsSpec : ChangeSpec := { name := "modelParents", fn := fun _ => fun
  | [d1, d2] => { results := [.lit (.bool true)], args := [d1, d2] }
  | _ => none }
def modelParentsRow : OpenClaim := { program := "ytabpgejjnphfcaagreat", sum := "ede30488e567904ee14ecd73219517bffa4efae0cacdb4be4928afdb5bcc5392", func := "rootstock/rootstocklaw20.ModelParents", spec := "modelParents", inPlace := ["slices.overlaps[rootstock/api.Pair]", "maps.clone"], unfollowed := true, recurses := true, apart := false }
def ModelParentsSaid : Prop := modelParentsRow.holds Tryz.pinned (OpenSpec.ofChange modelParentsSpec)

/-- ITS FALSE NEIGHBOUR: 'it returns false'. Refute it at one input. -/
def modelParentsWrong : ChangeSpec := { name := "modelParents", fn := fun _ => fun
  | [d1, d2] => { results := [.lit (.bool false)], args := [d1, d2] }
  | _ => none }
def ModelParentsWrongFalsely : Prop := modelParentsRow.holds Tryz.pinned (OpenSpec.ofChange modelParentsWrong)

/-- 'rootstocklaw20.ModelDoes': WHATEVER THE INPUT: true; the input reads as it did. -/
def modelDoesSpec : ChangeSpec := { name := "modelDoes", fn := fun _ => fun
  | [d1, d2] => { results := [.lit (.bool true)], args := [d1, d2] }
  | _ => none }
def modelDoesRow : OpenClaim := { program := "ytabpgejjnphfcaagreat", sum := "ede30488e567904ee14ecd73219517bffa4efae0cacdb4be4928afdb5bcc5392", func := "rootstock/rootstocklaw20.ModelDoes", spec := "modelDoes", inPlace := ["slices.overlaps[rootstock/api.Pair]", "maps.clone"], unfollowed := true, recurses := true, apart := false }
def ModelDoesSaid : Prop := modelDoesRow.holds Tryz.pinned (OpenSpec.ofChange modelDoesSpec)

/-- ITS FALSE NEIGHBOUR: 'it returns false'. Refute it at one input. -/
def modelDoesWrong : ChangeSpec := { name := "modelDoes", fn := fun _ => fun
  | [d1, d2] => { results := [.lit (.bool false)], args := [d1, d2] }
  | _ => none }
def ModelDoesWrongFalsely : Prop := modelDoesRow.holds Tryz.pinned (OpenSpec.ofChange modelDoesWrong)

/- THE SECOND FORM. 'bulk': how many values and letters a reading holds, each counted each time it is reached (what is shared counts as often as it is met; a slice's spare places count too). A statement '..UptoSaid' is the law's where the arguments, and the package variables that the reading takes, are together of bulk at most 1048576: NARROWER than '..Said'. Prove '..Said' where nothing that the law and all that it calls make is longer than what came in: it says more and counts as full. Else prove '..UptoSaid'. A law counts once. -/
mutual
def uptoBulk {H : Type} : DataW H → Nat
  | .lit (.string bytes) => bytes.length + 1
  | .lit _ => 1
  | .nil => 1
  | .ptr d => uptoBulk d + 1
  | .slice elems spare => uptoBulkAll elems + uptoBulkAll spare + 1
  | .agg parts => uptoBulkAll parts + 1
  | .iface _ d => uptoBulk d + 1
  | .map entries => uptoBulkEntries entries + 1
  | .held _ => 1
def uptoBulkAll {H : Type} : List (DataW H) → Nat
  | [] => 0
  | d :: r => uptoBulk d + uptoBulkAll r
def uptoBulkEntries {H : Type} : List (Lit × DataW H) → Nat
  | [] => 0
  | x :: r => uptoBulkEntry x + uptoBulkEntries r
def uptoBulkEntry {H : Type} : Lit × DataW H → Nat
  | (.string bytes, d) => bytes.length + uptoBulk d + 1
  | (_, d) => uptoBulk d + 1
 end
def uptoSmall : (H : Type) → List (DataW H) → Bool := fun _ ds => decide (uptoBulkAll ds ≤ 1048576)
def OpenSpec.upto (s : _root_.Go.ChangeSpec) : _root_.Go.OpenSpec := { _root_.Go.OpenSpec.ofChange s with cond := some uptoSmall }

/-- 'rootstocklaw20.ModelGraphs', WHERE WHAT IT READS IS OF BULK AT MOST 1048576: true; the input reads as it did. -/
def modelGraphsUptoRow : OpenClaim := { program := "ytabpgejjnphfcaagreat", sum := "ede30488e567904ee14ecd73219517bffa4efae0cacdb4be4928afdb5bcc5392", func := "rootstock/rootstocklaw20.ModelGraphs", spec := "modelGraphs", inPlace := ["slices.overlaps[rootstock/api.Pair]", "maps.clone"], unfollowed := true, recurses := true, apart := false, narrowed := true }
def ModelGraphsUptoSaid : Prop := modelGraphsUptoRow.holds Tryz.pinned (OpenSpec.upto modelGraphsSpec)

/-- 'rootstocklaw20.ModelStays', WHERE WHAT IT READS IS OF BULK AT MOST 1048576: true; the input reads as it did. -/
def modelStaysUptoRow : OpenClaim := { program := "ytabpgejjnphfcaagreat", sum := "ede30488e567904ee14ecd73219517bffa4efae0cacdb4be4928afdb5bcc5392", func := "rootstock/rootstocklaw20.ModelStays", spec := "modelStays", inPlace := ["slices.overlaps[rootstock/api.Pair]", "maps.clone"], unfollowed := true, recurses := true, apart := false, narrowed := true }
def ModelStaysUptoSaid : Prop := modelStaysUptoRow.holds Tryz.pinned (OpenSpec.upto modelStaysSpec)

/-- 'rootstocklaw20.ModelDiffs', WHERE WHAT IT READS IS OF BULK AT MOST 1048576: true; the input reads as it did. -/
def modelDiffsUptoRow : OpenClaim := { program := "ytabpgejjnphfcaagreat", sum := "ede30488e567904ee14ecd73219517bffa4efae0cacdb4be4928afdb5bcc5392", func := "rootstock/rootstocklaw20.ModelDiffs", spec := "modelDiffs", inPlace := ["slices.overlaps[rootstock/api.Pair]", "maps.clone"], unfollowed := true, recurses := true, apart := false, narrowed := true }
def ModelDiffsUptoSaid : Prop := modelDiffsUptoRow.holds Tryz.pinned (OpenSpec.upto modelDiffsSpec)

/-- 'rootstocklaw20.ModelApart', WHERE WHAT IT READS IS OF BULK AT MOST 1048576: true; the input reads as it did. -/
def modelApartUptoRow : OpenClaim := { program := "ytabpgejjnphfcaagreat", sum := "ede30488e567904ee14ecd73219517bffa4efae0cacdb4be4928afdb5bcc5392", func := "rootstock/rootstocklaw20.ModelApart", spec := "modelApart", inPlace := ["slices.overlaps[rootstock/api.Pair]", "maps.clone"], unfollowed := true, recurses := true, apart := false, narrowed := true }
def ModelApartUptoSaid : Prop := modelApartUptoRow.holds Tryz.pinned (OpenSpec.upto modelApartSpec)

/-- 'rootstocklaw20.ModelBranches', WHERE WHAT IT READS IS OF BULK AT MOST 1048576: true; the input reads as it did. -/
def modelBranchesUptoRow : OpenClaim := { program := "ytabpgejjnphfcaagreat", sum := "ede30488e567904ee14ecd73219517bffa4efae0cacdb4be4928afdb5bcc5392", func := "rootstock/rootstocklaw20.ModelBranches", spec := "modelBranches", inPlace := ["slices.overlaps[rootstock/api.Pair]", "maps.clone"], unfollowed := true, recurses := true, apart := false, narrowed := true }
def ModelBranchesUptoSaid : Prop := modelBranchesUptoRow.holds Tryz.pinned (OpenSpec.upto modelBranchesSpec)

/-- 'rootstocklaw20.ModelParents', WHERE WHAT IT READS IS OF BULK AT MOST 1048576: true; the input reads as it did. -/
def modelParentsUptoRow : OpenClaim := { program := "ytabpgejjnphfcaagreat", sum := "ede30488e567904ee14ecd73219517bffa4efae0cacdb4be4928afdb5bcc5392", func := "rootstock/rootstocklaw20.ModelParents", spec := "modelParents", inPlace := ["slices.overlaps[rootstock/api.Pair]", "maps.clone"], unfollowed := true, recurses := true, apart := false, narrowed := true }
def ModelParentsUptoSaid : Prop := modelParentsUptoRow.holds Tryz.pinned (OpenSpec.upto modelParentsSpec)

/-- 'rootstocklaw20.ModelDoes', WHERE WHAT IT READS IS OF BULK AT MOST 1048576: true; the input reads as it did. -/
def modelDoesUptoRow : OpenClaim := { program := "ytabpgejjnphfcaagreat", sum := "ede30488e567904ee14ecd73219517bffa4efae0cacdb4be4928afdb5bcc5392", func := "rootstock/rootstocklaw20.ModelDoes", spec := "modelDoes", inPlace := ["slices.overlaps[rootstock/api.Pair]", "maps.clone"], unfollowed := true, recurses := true, apart := false, narrowed := true }
def ModelDoesUptoSaid : Prop := modelDoesUptoRow.holds Tryz.pinned (OpenSpec.upto modelDoesSpec)

end Rows
end Go.Proofs.YtabpgejjnphfcaaGreat
