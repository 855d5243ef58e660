/-
  The statement SeqBuilds is proved, with its tied card: a long sequence, joined one by one, at whichever end, and cut anywhere, is what it must be, and low. For every input.
-/
import Derived.Test.YtfknjmoekbabcaaGreatDoorELawXb
import Derived.Test.YtfknjmoekbabcaaGreatDoorEQtd
import Derived.Test.YtfknjmoekbabcaaGreatDoorCards
import Derived.Test.YtfknjmoekbabcaaGreatDoorTie
import Derived.Test.YtfknjmoekbabcaaGreatDoorC03
import Derived.SevenTiedAt
import Derived.Lay
import Derived.ChangeMaps5
set_option linter.unusedSimpArgs false
set_option linter.unusedVariables false
set_option linter.unusedSectionVars false
set_option maxRecDepth 100000
set_option maxHeartbeats 64000000
namespace Go.Proofs.YtfknjmoekbabcaaGreatDoor
open Go.ChangeShapes Go.WideShapes Go.ChangeAt Go.RowKit Go.Deep
theorem zle (os:Os) (started:os.Started) (H:Type) (enc:TypeId × Value→H) :
  ReturnsInHanded {} Tryz.checked os 4 .any (fun w args=>(Rows.seqBuildsSpec.pre enc Tryz.prog Tryz.f4 [] false w args∧laidMetH Tryz.prog zlg w)∧sizedMet enc Tryz.prog Tryz.f4 (OpenSpec.ofChange Rows.seqBuildsSpec) false w args) (Rows.seqBuildsSpec.post enc Tryz.prog Tryz.f4 false true false false):=by
 refine returnsInHanded_of_change_and (C:=Tryz.checked) (X:=fun w _=>laidMetH Tryz.prog zlg w) (fun _ _ _ hh h=>h.of_heap hh) own started (by kernel_rfl) Tryz.func4
  (ChangeSpec.witness_shaped (enc:=enc) (C:=Tryz.checked) (os:=os) (X:=fun w _=>laidMetH Tryz.prog zlg w) false (World.laidAll Tryz.prog os zlg) #[.int .i64 0,.slice none 0 0,.int .i64 0] 8 rfl (World.shaped_of_ZipB (by kernel_rfl) (by kernel_rfl)) (by kernel_rfl) (by kernel_rfl) (by kernel_rfl) (by rw [MakeChecks.laidMetH_plain _ _ _ (by kernel_rfl)];exact laidMet_laidAll _ (by kernel_rfl) (by kernel_rfl))) ?_
 intro W base args ds gs before hval0 hW _ _ hL _
 have hval:∀ (j:Nat) t v,Tryz.f4.params[j]?=some t→args[j]?=some v→Value.okWide Tryz.prog W .any base t v:=hval0
 have hW':=hW
 obtain ⟨p,q,hA0,hV,rfl,hfz,hnd⟩:=hW
 have hA:DataW.TrodAll enc Tryz.prog W 0 (fun _=>true) true Tryz.f4.params.toList args.toList ds p:=hA0
 rw [Tryz.params4] at hA hval
 obtain ⟨v0,vs0,d0,ds0,p0,q0,hargs,rfl,rfl,h0,r0⟩:=trodAll_cons hA
 obtain ⟨v1,vs1,d1,ds1,p1,q1,rfl,rfl,rfl,h1,r1⟩:=trodAll_cons r0
 obtain ⟨v2,vs2,d2,ds2,p2,q2,rfl,rfl,rfl,h2,r2⟩:=trodAll_cons r1
 obtain ⟨rfl,rfl,rfl⟩:=trodAll_nil r2
 obtain rfl:args=#[v0,v1,v2]:=by cases args;simp_all
 obtain ⟨rfl,rfl⟩:=trodVars_none hV
 obtain ⟨x0,rfl,rfl,rfl,wf0⟩:=open_int Tryz.underlying3 (hval 0 3 v0 rfl rfl) h0
 obtain ⟨a1,n1,c1,rfl⟩:=okWide_slice Tryz.underlying38 (hval 1 38 v1 rfl rfl)
 obtain ⟨fuel1,g1⟩:=h1
 obtain ⟨x1,m1,k1⟩:=z06 g1
 obtain ⟨x2,rfl,rfl,rfl,wf2⟩:=open_int Tryz.underlying3 (hval 2 3 v2 rfl rfl) h2
 clear hA0 hval0
 refine (zon (R:=fun e w'=>e=.returned (.bool true)∧Below W.heap.size W w') x0 x2 m1 (Sat.all W) fun w' H1 I1=>⟨rfl,I1.below H1⟩).mono fun e W' ⟨he,hb⟩=>?_
 subst he
 exact ⟨_,rfl,zqz laidOut Tryz.underlying4 rfl rfl (by kernel_rfl) hW' hb rfl rfl rfl⟩
theorem zl8:Rows.SeqBuildsSaid :=
 OpenClaim.holds_of_wide 4 Tryz.f4 rfl rfl rfl rfl rfl rfl rfl ⟨rfl,rfl,rfl,rfl,rfl⟩ rfl rfl rfl rfl rfl (by kernel_rfl) Tryz.func4 (by kernel_rfl)
  (of_decide_eq_true (by kernel_rfl)) (by unfold Func.isWrapper;first | (rw [if_pos (by decide +kernel)];kernel_rfl) | (rw [if_neg (by decide +kernel)];exact ⟨rfl,rfl⟩))
  (fun os started H enc _=>zle os started H enc)
theorem seqBuilds_card:Rows.SeqBuildsCardSaid :=
 Claim7.holds_tied_plain_at .later [] [.data, .data, .pinned] true (true, "f9edd6f1077df75b95c9d7cad9c173a753edb5c0075037ff7c3a24d72f023fe0") false
  zl8 (fun _ h=>by cases h) (by kernel_rfl) (fun _ h=>by cases h) seqBuilds_row_tie rfl ⟨rfl,rfl⟩ (by kernel_rfl) rfl
  (fun f fn hf hfn=>by
   obtain rfl : f = 4 := Option.some.inj ((show Tryz.prog.funcNamed "rootstock/rootstocklaw15.SeqBuilds" = some 4 by kernel_rfl).symm.trans hf) |>.symm
   obtain rfl:fn=Tryz.f4:=(Option.some.inj (Tryz.func4.symm.trans hfn)).symm
   exact ⟨by kernel_rfl,fun j t ht=>by
    rw [Tryz.params4] at ht
    have hm:t∈[3,38,3]:=by simpa using Array.mem_of_getElem? ht
    have hall:([3,38,3].all fun u=>!Tryz.prog.wantsStandIn u)=true:=by kernel_rfl
    exact (show Tryz.prog.wantsStandIn t=false by simpa using List.all_eq_true.1 hall t hm)⟩)
  (by kernel_rfl)
#print axioms seqBuilds_card
end Go.Proofs.YtfknjmoekbabcaaGreatDoor
