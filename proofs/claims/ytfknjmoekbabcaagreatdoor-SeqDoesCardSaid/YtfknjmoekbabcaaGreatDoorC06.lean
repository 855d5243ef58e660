/-
  A part of a proof. It proves no statement by itself.
-/
import Derived.Test.YtfknjmoekbabcaaGreatDoorC04
import Derived.Test.YtfknjmoekbabcaaGreatDoorC05
import Derived.Sort.Walk0
set_option linter.unusedSimpArgs false
set_option linter.unusedVariables false
set_option linter.unusedSectionVars false
set_option maxRecDepth 100000
set_option maxHeartbeats 64000000
namespace Go.Proofs.YtfknjmoekbabcaaGreatDoor
namespace Md
abbrev Nm:=ByteArray
structure Op where
 kind:Int
 name:Nm
 u:Int
 v:Int
 a:Int
 b:Int
structure St where
 zp4:List (Int × (Int × List Pr))
 heads:List (Nm × Int)
 pend:List (Nm × List Pr)
 next:Int
def nlt (x y:Nm):Bool:=Op.bytesLess x.toList y.toList
def Good (l:List Pr):Prop:=Eg.Srt l∧∀ p∈l,0≤p.1∧p.1<p.2∧p.2<1048576
theorem Good.nil:Good []:=⟨Eg.Srt.nil,by simp⟩
end Md
end Go.Proofs.YtfknjmoekbabcaaGreatDoor
namespace Go.Proofs.YtfknjmoekbabcaaGreatDoor
open Md (Nm St)
namespace Bl
theorem irrefl:∀ x:List UInt8,Op.bytesLess x x=false
 | []=>rfl
 | a::x=>by
  have h:¬ a<a:=by rw [UInt8.lt_iff_toNat_lt];omega
  simp [Op.bytesLess,irrefl x,h]
theorem trans:∀ x y z:List UInt8,Op.bytesLess x y=true→Op.bytesLess y z=true→Op.bytesLess x z=true
 | _,[],_,h,_=>by cases ‹List UInt8›<;>simp [Op.bytesLess] at h
 | _,_::_,[],_,k=>by simp [Op.bytesLess] at k
 | [],_::_,_::_,_,_=>rfl
 | a::x,b::y,c::z,h,k=>by
  simp only [Op.bytesLess,Bool.or_eq_true,Bool.and_eq_true,decide_eq_true_eq,beq_iff_eq] at h k ⊢
  simp only [UInt8.lt_iff_toNat_lt] at *
  rcases h with h | ⟨rfl,h⟩
  ·rcases k with k | ⟨rfl,k⟩
   ·left;omega
   ·left;exact h
  ·rcases k with k | ⟨rfl,k⟩
   ·left;exact k
   ·right;exact ⟨rfl,trans x y z h k⟩
theorem ntrans:∀ x y z:List UInt8,Op.bytesLess x y=false→Op.bytesLess y z=false→Op.bytesLess x z=false
 | x,_,[],_,_=>by cases x<;>rfl
 | _,[],_::_,_,k=>by simp [Op.bytesLess] at k
 | [],_::_,_::_,h,_=>by simp [Op.bytesLess] at h
 | a::x,b::y,c::z,h,k=>by
  simp only [Op.bytesLess,Bool.or_eq_false_iff,Bool.and_eq_false_iff,decide_eq_false_iff_not,beq_eq_false_iff_ne] at h k ⊢
  simp only [UInt8.lt_iff_toNat_lt] at *
  obtain ⟨h1,h2⟩:=h
  obtain ⟨k1,k2⟩:=k
  refine ⟨by omega,?_⟩
  by_cases e1:a=b
  ·subst e1
   by_cases e2:a=c
   ·subst e2
    right
    exact ntrans x y z (by rcases h2 with h | h;exact absurd rfl h;exact h) (by rcases k2 with h | h;exact absurd rfl h;exact h)
   ·exact .inl e2
  ·left
   rintro rfl
   have:a.toNat≠b.toNat:=fun e=>e1 (UInt8.toNat_inj.1 e)
   omega
theorem total:∀ x y:List UInt8,Op.bytesLess x y=false→Op.bytesLess y x=false→x=y
 | [],[],_,_=>rfl
 | [],_::_,h,_=>by simp [Op.bytesLess] at h
 | _::_,[],_,k=>by simp [Op.bytesLess] at k
 | a::x,b::y,h,k=>by
  simp only [Op.bytesLess,Bool.or_eq_false_iff,Bool.and_eq_false_iff,decide_eq_false_iff_not,beq_eq_false_iff_ne] at h k
  simp only [UInt8.lt_iff_toNat_lt] at *
  have e:a=b:=UInt8.toNat_inj.1 (by omega)
  subst e
  rw [total x y (by rcases h.2 with h | h;exact absurd rfl h;exact h) (by rcases k.2 with h | h;exact absurd rfl h;exact h)]
end Bl
theorem zbp (x:Nm):Md.nlt x x=false:=Bl.irrefl _
theorem zb3 {x y z:Nm} (h:Md.nlt x y=true) (k:Md.nlt y z=true):Md.nlt x z=true:=Bl.trans _ _ _ h k
theorem zh3 {x y z:Nm} (h:Md.nlt x y=false) (k:Md.nlt y z=false):Md.nlt x z=false:=Bl.ntrans _ _ _ h k
theorem z3q {x y:Nm} (h:x.toList=y.toList):x=y:=by
 rw [ByteArray.toList_eq,ByteArray.toList_eq] at h
 obtain ⟨a⟩:=x
 obtain ⟨b⟩:=y
 congr 1
 exact Array.toList_inj.1 h
theorem zje {x y:Nm} (h:Md.nlt x y=false) (k:Md.nlt y x=false):x=y:=z3q (Bl.total _ _ h k)
theorem ze6 {x y:Nm} (h:Md.nlt x y=true):Md.nlt y x=false:=by
 cases e:Md.nlt y x with
 | false=>rfl
 | true=>have:=zb3 h e;rw [zbp] at this;cases this
end Go.Proofs.YtfknjmoekbabcaaGreatDoor
