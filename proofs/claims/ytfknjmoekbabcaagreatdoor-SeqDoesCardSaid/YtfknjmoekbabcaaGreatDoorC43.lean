/-
  A part of a proof. It proves no statement by itself.
-/
import Derived.Test.YtfknjmoekbabcaaGreatDoorC03
import Derived.Test.YtfknjmoekbabcaaGreatDoorC04
set_option linter.unusedSimpArgs false
set_option linter.unusedVariables false
set_option linter.unusedSectionVars false
set_option maxRecDepth 100000
set_option maxHeartbeats 64000000
namespace Go.Proofs.YtfknjmoekbabcaaGreatDoor
open Go.ChangeShapes Go.WideShapes Go.ChangeAt Go.RowKit Go.Deep Go.Joins
section
variable {H:Type} {enc:TypeId × Value→H} {P:Program} {W:World}
theorem zyk {α:Type} [Inhabited α] {rc:α→List Value} {sz:Nat} (he:Enc rc sz) (B:α→Prop) {base:Nat} {sp:Nat→Bool} {held:Bool} {t e:TypeId} {fuel:Nat} {v:Value} {x:DataW H × List MemPlace} (ht:P.underlying t=some (.slice e)) (hc:P.cellsOf e=sz) (h0:0<sz)
  (dec:∀ n cs' x',DataW.trod enc P W base sp held n e cs'=some x'→∃ z,cs'=rc z∧B z)
  (h:DataW.trod enc P W base sp held fuel t [v]=some x):∃ l,Reads rc (whole W) v l∧∀ z∈l,B z:=by
 rcases open_slice ht h with ⟨hv,_⟩ | ⟨a,len,cap,m,n,D,Pl,hv,_,hl,hm,hmm,_,hi⟩
 ·cases hv
  exact ⟨[],⟨none,0,rfl,by simp,.inl rfl⟩,by simp⟩
 ·cases hv
  have hlm:len≤m:=by rw [hmm];split<;>omega
  rw [hc] at hi
  obtain ⟨g,hg⟩:=choose_lt (n:=len) (p:=fun i (z:α)=>W.cells? base (a.add (i*sz)) sz=some (rc z)∧B z) (fun i hi'=>by
   obtain ⟨cs',h1,h2⟩:=hi i (by omega)
   obtain ⟨z,rfl,e2⟩:=dec _ _ _ h2
   exact ⟨z,h1,e2⟩)
  have hll:((List.range len).map g).length=len:=by simp
  refine ⟨(List.range len).map g,⟨some a,cap,by rw [hll],by unfold maxLen at hm;omega,?_⟩,?_⟩
  ·rcases Nat.eq_zero_or_pos len with hz | hz
   ·exact .inl (List.eq_nil_of_length_eq_zero (by rw [hll];exact hz))
   ·right
    obtain ⟨c0,_⟩:=hg 0 hz
    obtain ⟨_,_,c0⟩:=World.cells?_some c0
    have c00:=c0 0 h0
    have hsp:a.spot=none:=by
     cases hs:a.spot with
     | none=>rfl
     | some k =>
      have hl0:0<(rc (g 0)).length:=by rw [he.len];exact h0
      rw [List.getElem?_eq_getElem hl0] at c00
      simp [Addr.add,World.cell?,hs] at c00
      split at c00<;>simp_all
    obtain ⟨b,off,spot⟩:=a
    simp only at hsp
    subst hsp
    refine ⟨b,off,rfl,fun w hw j u hu=>?_⟩
    have hj:j<len*sz:=by
     have:=(List.getElem?_eq_some_iff.1 hu).1
     rwa [cellsOf_length he,hll] at this
    have hjl:j / sz<len:=Nat.div_lt_of_lt_mul (by rw [Nat.mul_comm];exact hj)
    have hjr:j % sz<sz:=Nat.mod_lt _ h0
    have hjd:j / sz*sz+j % sz=j:=by rw [Nat.mul_comm];exact Nat.div_add_mod _ _
    obtain ⟨ci,_⟩:=hg (j / sz) hjl
    obtain ⟨_,_,ci⟩:=World.cells?_some ci
    have q:=ci (j % sz) hjr
    have ea:((⟨b,off,none⟩:Addr).add (j / sz*sz)).add (j % sz)=⟨b,off+j,none⟩:=by
     have:∀ (o k:Nat),(⟨b,o,none⟩:Addr).add k=⟨b,o+k,none⟩:=fun o k=>by unfold Addr.add;split<;>simp_all
     rw [this,this,Nat.add_assoc,hjd]
    rw [ea] at q
    have hu2:=zc3 he ((List.range len).map g) (j / sz) (by rw [hll];exact hjl) (j % sz) hjr
    rw [hjd,hu] at hu2
    have hx : ((List.range len).map g)[j / sz]'(by rw [hll]; exact hjl) = g (j / sz) := by simp
    rw [hx] at hu2
    rw [←hu2] at q
    exact zzl hw q
  ·intro z hz
   obtain ⟨i,hi',rfl⟩:=List.mem_map.1 hz
   exact (hg i (List.mem_range.1 hi')).2
end
end Go.Proofs.YtfknjmoekbabcaaGreatDoor
