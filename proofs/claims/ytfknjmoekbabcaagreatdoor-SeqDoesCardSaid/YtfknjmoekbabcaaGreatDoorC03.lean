/-
  A part of a proof. It proves no statement by itself.
-/
import Derived.Test.YtfknjmoekbabcaaGreatDoorC02
import Derived.ProofKit
import Derived.Deep.Slices
import Derived.LaidMore
import Derived.OpenShut
import Derived.Stop.Joined
import Derived.Lib.SmallJoins
set_option linter.unusedSimpArgs false
set_option linter.unusedVariables false
set_option linter.unusedSectionVars false
set_option maxRecDepth 100000
set_option maxHeartbeats 64000000
namespace Go.Proofs.YtfknjmoekbabcaaGreatDoor
open Go.ChangeShapes Go.WideShapes Go.ChangeAt Go.RowKit Go.Deep Go.Joins
theorem own:ownKnob Tryz.prog.godebug=none:=by kernel_rfl
theorem laidOut:laidOutB Tryz.prog=true:=by kernel_rfl
section
variable {H:Type} {enc:TypeId × Value→H} {P:Program} {W:World}
theorem zzl {w:World} (h:Sat (whole W) w) {a:Addr} {v:Value} (hc:W.cell? a=some v):w.cell? a=some v:=by
 have hlt:=World.block_lt_of_cell? W a hc
 rw [World.cell?_of_block (w:=W) (h.was a.block hlt)]
 exact hc
theorem ziz (hl:laidOutB P=true) {W':World} (hb:Below W.heap.size W W'):∀ (ts:List TypeId) (vs:List Value) (ds:List (DataW H)) (p:List MemPlace),
  ts.all (fun t=>P.readableRec t && decide (t<P.types.size))=true→DataW.TrodAll enc P W 0 (fun _=>true) true ts vs ds p→(∀ x∈p,x.block<W.heap.size) →
  DataW.TrodAll enc P W' 0 (fun b=>decide (b<W.heap.size)) true ts vs ds p
 | [],[],[],p,_,h,_=>h
 | t::ts,v::vs,d::ds,p,hr,h,hlt=>by
  obtain ⟨p1,q1,h1,h2,rfl⟩:=h
  simp only [List.all_cons,Bool.and_eq_true,decide_eq_true_eq] at hr
  exact ⟨p1,q1,Below.trod hl hr.1.1 hr.1.2 h1 hb (fun x hx=>hlt x (List.mem_append_left _ hx)),ziz hl hb ts vs ds q1 hr.2 h2 (fun x hx=>hlt x (List.mem_append_right _ hx)),rfl⟩
 | [],[],_::_,_,_,h,_=>absurd h (by simp [DataW.TrodAll])
 | [],_::_,_,_,_,h,_=>absurd h (by simp [DataW.TrodAll])
 | _::_,[],_,_,_,h,_=>absurd h (by simp [DataW.TrodAll])
 | _::_,_::_,[],_,_,h,_=>absurd h (by simp [DataW.TrodAll])
theorem zq1 {f:Func} {s:ChangeSpec} {tb:TypeId} {W':World} {args:Array Value} {ds gs:List (DataW H)} {before:List MemPlace} (hl:laidOutB P=true) (htb:P.underlying tb=some .bool)
  (hrt:f.resultTypes=#[tb]) (hvs:s.vars=[]) (hread:f.params.toList.all (fun t=>P.readableRec t && decide (t<P.types.size))=true)
  (hW:DataW.Whole enc P f.params.toList s.vars false W args.toList ds gs before) (hb:Below W.heap.size W W')
  (hsr:(s.fn H (ds++gs)).results=[.lit (.bool true)]) (hsa:(s.fn H (ds++gs)).args=ds) (hsv:(s.fn H (ds++gs)).vars=[]) :
  s.post enc P f false true false false W args (.bool true) W':=by
 have hW0:=hW
 obtain ⟨p,q,hA,hV,rfl,hfz,hnd⟩:=hW
 have hlt:∀ x∈p,x.block<W.heap.size:=fun x hx=>hW0.lt x (List.mem_append_left _ hx)
 refine ⟨ds,gs,p++q,[],p,[],hW0,?_,?_,?_,hb.frame _,fun h=>by cases h⟩
 ·rw [hrt,hsr]
  exact trodAll_mk1 (shut_bool htb true)
 ·rw [hsa]
  exact ziz hl hb _ _ _ _ hread hA hlt
 ·rw [hvs,hsv]
  rfl
end
section
variable {H:Type} {enc:TypeId × Value→H} {P:Program} {w:World} {base:Nat} {spare:Nat→Bool} {held:Bool}
end
def zlg : List (String × DataW Unit) := [("rootstock/crc.halves", Rows.laid_rootstock_crc_halves), ("unicode/utf8.acceptRanges", Rows.laid_unicode_utf8_acceptRanges), ("unicode/utf8.first", Rows.laid_unicode_utf8_first)]
end Go.Proofs.YtfknjmoekbabcaaGreatDoor
