/-
  A part of a proof. It proves no statement by itself.
-/
import Derived.Test.YtfknjmoekbabcaaGreatDoorC08
set_option linter.unusedSimpArgs false
set_option linter.unusedVariables false
set_option linter.unusedSectionVars false
set_option maxRecDepth 100000
set_option maxHeartbeats 64000000
namespace Go.Proofs.YtfknjmoekbabcaaGreatDoor
namespace Rs
def zfa (r:Rn):List Int:=(List.range (r.2 - r.1+1).toNat).map fun (i:Nat)=>r.1+(i:Int)
def elems (l:List Rn):List Int:=l.flatMap zfa
theorem zkd (r:Rn):(zfa r).length=(r.2 - r.1+1).toNat:=by simp [zfa]
theorem zpn (l:List Rn) (k:Nat) (hk:k<l.length):elems (l.take (k+1))=elems (l.take k)++zfa l[k]:=by
 unfold elems
 rw [List.take_succ_eq_append_getElem hk,List.flatMap_append]
 simp
theorem zxi (r:Rn) (j:Nat) (hj:j<(r.2 - r.1+1).toNat):(zfa r).take (j+1)=(zfa r).take j++[r.1+(j:Int)]:=by
 rw [List.take_succ_eq_append_getElem (by rw [zkd];exact hj)]
 simp [zfa]
theorem zuj (l:List Rn) (k:Nat) (hk:k<l.length) (j:Nat):elems (l.take k)++(zfa l[k]).take j <+: elems l:=by
 have e:elems l=elems (l.take (k+1))++elems (l.drop (k+1)):=by
  unfold elems
  rw [←List.flatMap_append,List.take_append_drop]
 rw [e,zpn l k hk]
 exact ((List.prefix_append_right_inj _).2 (List.take_prefix j _)).trans (List.prefix_append _ _)
theorem z6b {l:List Rn} (h:Canon l) (e:elems l=[]):l=[]:=by
 cases l with
 | nil=>rfl
 | cons r l =>
  exfalso
  obtain ⟨_,r1,_⟩:=h.1 r (List.mem_cons_self ..)
  have:=congrArg List.length e
  unfold elems at this
  rw [List.flatMap_cons,List.length_append,zkd] at this
  simp at this
  omega
theorem z0x {r:Rn} {l:List Rn} (h:Canon (r::l)):∃ t,elems (r::l)=r.1::t:=by
 obtain ⟨_,r1,_⟩:=h.1 r (List.mem_cons_self ..)
 obtain ⟨n,hn⟩:∃ n,(r.2 - r.1+1).toNat=n+1:=⟨(r.2 - r.1+1).toNat - 1,by omega⟩
 refine ⟨((List.range n).map fun (i:Nat)=>r.1+((i+1:Nat):Int))++elems l,?_⟩
 unfold elems
 rw [List.flatMap_cons]
 unfold zfa
 rw [hn,List.range_succ_eq_map]
 simp
end Rs
end Go.Proofs.YtfknjmoekbabcaaGreatDoor
