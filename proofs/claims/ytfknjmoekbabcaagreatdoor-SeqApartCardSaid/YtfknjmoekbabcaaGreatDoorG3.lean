/-
  A part of a proof. It proves no statement by itself.
-/
import Derived.Test.YtfknjmoekbabcaaGreatDoorG1
import Derived.Test.YtfknjmoekbabcaaGreatDoorELawXa
import Derived.Test.YtfknjmoekbabcaaGreatDoorC11
set_option linter.unusedSimpArgs false
set_option linter.unusedVariables false
set_option linter.unusedSectionVars false
set_option maxRecDepth 100000
set_option maxHeartbeats 64000000
namespace Go.Proofs.YtfknjmoekbabcaaGreatDoor
open Go.ChangeShapes Go.WideShapes Go.ChangeAt Go.RowKit Go.Deep Go.Joins
section
variable {H:Type} {enc:TypeId × Value→H} {W:World}
theorem cells_str15:Tryz.prog.cellsOf 9=1:=by kernel_rfl
theorem str15_cells {base:Nat} {sp:Nat→Bool} {held:Bool} (fuel:Nat) (cs:List Value) (x:DataW H × List MemPlace)
  (h:DataW.trod enc Tryz.prog W base sp held fuel 9 cs=some x):∃ z:ByteArray,cs=zre z∧z.size≤9223372036854775807:=by
 obtain ⟨y,e1,_,b⟩:=DataW.trod_string Tryz.underlying9 h
 exact ⟨y,e1,(by simpa [maxLen] using b)⟩
theorem strs17_of {base:Nat} {sp:Nat→Bool} {held:Bool} {fuel:Nat} {v:Value} {x:DataW H × List MemPlace}
  (h:DataW.trod enc Tryz.prog W base sp held fuel 58 [v]=some x):∃ l:List ByteArray,zbe (whole W) v l∧∀ z∈l,z.size≤9223372036854775807 :=
 zyf zbu (fun z=>z.size≤9223372036854775807) Tryz.underlying58 cells_str15 (by decide) str15_cells h
theorem token15_of {r:Reach} {b0:Nat} {sp:Nat→Bool} {held:Bool} {v:Value} {d:DataW H} {p:List MemPlace}
  (hv:Value.okWide Tryz.prog W r b0 29 v) (h:DataW.Trod enc Tryz.prog W 0 sp held 29 v d p):∃ a b:Int,v=.agg #[.int .i64 a,.int .i64 b]:=by
 obtain ⟨v0,v1,y0,y1,n,rfl,_,_,h0,h1⟩:=open_agg2 Tryz.underlying29 (by kernel_rfl) zxm hv h
 obtain ⟨e,e0,_,_⟩:=DataW.trod_int Tryz.underlying3 h0
 obtain ⟨q,e1,_,_⟩:=DataW.trod_int Tryz.underlying3 h1
 simp only [List.cons.injEq,and_true] at e0 e1
 subst e0 e1
 exact ⟨e,q,rfl⟩
end
end Go.Proofs.YtfknjmoekbabcaaGreatDoor
