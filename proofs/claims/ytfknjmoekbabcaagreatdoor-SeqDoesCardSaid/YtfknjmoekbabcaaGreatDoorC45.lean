/-
  A part of a proof. It proves no statement by itself.
-/
import Derived.Test.YtfknjmoekbabcaaGreatDoorC43
import Derived.Test.YtfknjmoekbabcaaGreatDoorC44
set_option linter.unusedSimpArgs false
set_option linter.unusedVariables false
set_option linter.unusedSectionVars false
set_option maxRecDepth 100000
set_option maxHeartbeats 64000000
namespace Go.Proofs.YtfknjmoekbabcaaGreatDoor
open Go.ChangeShapes Go.WideShapes Go.ChangeAt Go.RowKit Go.Deep Go.Joins
theorem zm6:Tryz.prog.cellsOf 31=6:=by kernel_rfl
theorem zxr:Tryz.prog.cellsOf 29=2:=by kernel_rfl
section
variable {H:Type} {enc:TypeId × Value→H} {W:World}
theorem zl2 {base:Nat} {sp:Nat→Bool} {held:Bool} {fuel:Nat} {c0 c1:Value} {x:DataW H × List MemPlace}
  (h:DataW.trod enc Tryz.prog W base sp held fuel 29 [c0,c1]=some x):∃ z0 z1:Int,c0=.int .i64 z0∧c1=.int .i64 z1:=by
 obtain ⟨xs,n,_,_,hlen,hxl,hf⟩:=DataW.trod_struct Tryz.underlying29 h
 have k1:Tryz.prog.cellsOf 3=1:=by kernel_rfl
 have g0:DataW.trod enc Tryz.prog W base sp held n 3 (([c0,c1].drop 0).take (Tryz.prog.cellsOf 3))=xs[0]?:=hf 0 _ rfl
 have g1:DataW.trod enc Tryz.prog W base sp held n 3 (([c0,c1].drop 1).take (Tryz.prog.cellsOf 3))=xs[1]?:=hf 1 _ rfl
 rw [k1] at g0 g1
 have hx:xs.length=2:=hxl
 match xs,hx with
 | [x0,x1],_ =>
  simp only [List.drop_zero,List.drop_succ_cons,List.take_succ_cons,List.take_zero,List.getElem?_cons_zero,List.getElem?_cons_succ] at g0 g1
  obtain ⟨z0,e0,_,b0⟩:=DataW.trod_int Tryz.underlying3 g0
  obtain ⟨z1,e1,_,b1⟩:=DataW.trod_int Tryz.underlying3 g1
  simp only [List.cons.injEq,and_true] at e0 e1
  exact ⟨z0,z1,e0,e1⟩
theorem xcr {base:Nat} {sp:Nat→Bool} {held:Bool} (fuel:Nat) (cs:List Value) (x:DataW H × List MemPlace)
  (h:DataW.trod enc Tryz.prog W base sp held fuel 31 cs=some x):∃ a:zx0,cs=zko a∧True:=by
 obtain ⟨xs,n,_,_,hlen,hxl,hf⟩:=DataW.trod_struct Tryz.underlying31 h
 rw [zm6] at hlen
 have k1:Tryz.prog.cellsOf 3=1:=by kernel_rfl
 match cs,hlen with
 | [c0,c1,c2,c3,c4,c5],_ =>
  have g0:DataW.trod enc Tryz.prog W base sp held n 3 (([c0,c1,c2,c3,c4,c5].drop 0).take (Tryz.prog.cellsOf 3))=xs[0]?:=hf 0 _ rfl
  have g1:DataW.trod enc Tryz.prog W base sp held n 29 (([c0,c1,c2,c3,c4,c5].drop 1).take (Tryz.prog.cellsOf 29))=xs[1]?:=hf 1 _ rfl
  have g2:DataW.trod enc Tryz.prog W base sp held n 29 (([c0,c1,c2,c3,c4,c5].drop 3).take (Tryz.prog.cellsOf 29))=xs[2]?:=hf 2 _ rfl
  have g3:DataW.trod enc Tryz.prog W base sp held n 3 (([c0,c1,c2,c3,c4,c5].drop 5).take (Tryz.prog.cellsOf 3))=xs[3]?:=hf 3 _ rfl
  rw [k1] at g0 g3
  rw [zxr] at g1 g2
  have hx:xs.length=4:=hxl
  match xs,hx with
  | [x0,x1,x2,x3],_ =>
   simp only [List.drop_zero,List.drop_succ_cons,List.take_succ_cons,List.take_zero,List.getElem?_cons_zero,List.getElem?_cons_succ] at g0 g1 g2 g3
   obtain ⟨z0,e0,_,b0⟩:=DataW.trod_int Tryz.underlying3 g0
   obtain ⟨v0,v1,rfl,rfl⟩:=zl2 g1
   obtain ⟨u0,u1,rfl,rfl⟩:=zl2 g2
   obtain ⟨z3,e3,_,b3⟩:=DataW.trod_int Tryz.underlying3 g3
   simp only [List.cons.injEq,and_true] at e0 e3
   subst e0 e3
   exact ⟨⟨z0,(v0,v1),(u0,u1),z3⟩,rfl,trivial⟩
theorem zu3 {base:Nat} {sp:Nat→Bool} {held:Bool} {fuel:Nat} {v:Value} {x:DataW H × List MemPlace}
  (h:DataW.trod enc Tryz.prog W base sp held fuel 22 [v]=some x):∃ l,Reads zko (whole W) v l∧∀ a∈l,True :=
 zyk zui (fun _=>True) Tryz.underlying22 zm6 (by decide) xcr h
end
end Go.Proofs.YtfknjmoekbabcaaGreatDoor
