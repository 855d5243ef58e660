/-
  Rows of versions, of branches. It proves no statement by itself.
-/
import Derived.Test.YtojiffhknddleaaGreatDoorRows
import Derived.Test.YtojiffhknddleaaGreatDoorV08
import Derived.Test.YtojiffhknddleaaGreatDoorV11
import Derived.Test.YtojiffhknddleaaGreatDoorV20
namespace Go.Proofs.YtojiffhknddleaaGreatDoor
open Go.RowKit Go.Lib
set_option linter.unusedSimpArgs false
set_option linter.unusedVariables false
set_option linter.unusedSectionVars false
def encV4 (x : Md.Ver) : List Value := [.int .i64 x.id, .int .i64 x.parent, .int .i64 x.root, .int .i64 x.edges]
theorem encV4_ok : Enc encV4 4 := ⟨fun _ => rfl, fun x u hu => by simp [encV4] at hu; rcases hu with rfl | rfl | rfl | rfl <;> rfl⟩
def encBr (x : Md.Br) : List Value := [.string x.name, .int .i64 x.head]
theorem encBr_ok : Enc encBr 2 := ⟨fun _ => rfl, fun x u hu => by simp [encBr] at hu; rcases hu with rfl | rfl <;> rfl⟩
abbrev RowV (v : Value) (l : List Md.Ver) : Asn := RowOf 30 4 encV4 v l
abbrev RowB (v : Value) (l : List Md.Br) : Asn := RowOf 65 2 encBr v l
abbrev ReadsB (F : Asn) (v : Value) (l : List Md.Br) : Prop := Reads encBr F v l
theorem Tryz.rowV : RowTy Tryz.prog 41 30 4 32 := ⟨Tryz.underlying41, ⟨.agg #[.int .i64 0, .int .i64 0, .int .i64 0, .int .i64 0], rfl, by kernel_rfl⟩, by omega⟩
theorem Tryz.rowB : RowTy Tryz.prog 33 65 2 24 := ⟨Tryz.underlying33, ⟨.agg #[.string ⟨#[]⟩, .int .i64 0], rfl, by kernel_rfl⟩, by omega⟩
end Go.Proofs.YtojiffhknddleaaGreatDoor
