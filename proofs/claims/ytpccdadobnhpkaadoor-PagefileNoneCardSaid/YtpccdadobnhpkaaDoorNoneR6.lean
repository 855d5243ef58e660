/-
  The statement PagefileNone is proved, with its tied card: on a disk without sectors, or on none, there is no page, and no slot; nothing panics. For every input; the listed variable crc.halves holds what the program's text lays.
-/
import Derived.Test.YtpccdadobnhpkaaDoorLawI
import Derived.Test.YtpccdadobnhpkaaDoorN6
import Derived.Test.YtpccdadobnhpkaaDoorCards
import Derived.Test.YtpccdadobnhpkaaDoorTie
import Derived.Test.YtpccdadobnhpkaaDoorLawK3
import Derived.SevenTiedAt
import Derived.Lay
import Derived.ChangeMaps5
namespace Go.Proofs.YtpccdadobnhpkaaDoor
open Go.ChangeShapes Go.WideShapes Go.ChangeAt Go.RowKit Go.Deep
set_option linter.unusedSimpArgs false
set_option linter.unusedVariables false

set_option maxRecDepth 100000 in
theorem pagefileNone_lifted (os : Os) (started : os.Started) (H : Type) (enc : TypeId × Value → H) :
    ReturnsInHanded {} Tryd.checked os 4 .any (fun w args => (Rows.pagefileNoneSpec.pre enc Tryd.prog Tryd.f4 [] false w args ∧ laidMetH Tryd.prog laid3 w) ∧ sizedMet enc Tryd.prog Tryd.f4 (OpenSpec.ofChange Rows.pagefileNoneSpec) false w args) (Rows.pagefileNoneSpec.post enc Tryd.prog Tryd.f4 false true false false) := by
  refine returnsInHanded_of_change_and (C := Tryd.checked) (X := fun w _ => laidMetH Tryd.prog laid3 w) (fun _ _ _ hh h => h.of_heap hh) own started (by kernel_rfl) Tryd.func4
    (ChangeSpec.witness_shaped (enc := enc) (C := Tryd.checked) (os := os) (X := fun w _ => laidMetH Tryd.prog laid3 w) false (World.laidAll Tryd.prog os laid3) #[.int .i64 0, .int .i64 0, .int .u8 0, .string ⟨#[]⟩] 8 rfl (World.shaped_of_ZipB (by kernel_rfl) (by kernel_rfl)) (by kernel_rfl) (by kernel_rfl) (by kernel_rfl) (by rw [MakeChecks.laidMetH_plain _ _ _ (by kernel_rfl)]; exact laidMet_laidAll _ (by kernel_rfl) (by kernel_rfl))) ?_
  intro W base args ds gs before hval0 hW _ _ hL _
  have hval : ∀ (j : Nat) t v, Tryd.f4.params[j]? = some t → args[j]? = some v → Value.okWide Tryd.prog W .any base t v := hval0
  have hW' := hW
  obtain ⟨p, q, hA0, hV, rfl, hfz, hnd⟩ := hW
  have hA : DataW.TrodAll enc Tryd.prog W 0 (fun _ => true) true Tryd.f4.params.toList args.toList ds p := hA0
  rw [Tryd.params4] at hA hval
  obtain ⟨v0, vs0, d0, ds0, p0, q0, hargs, rfl, rfl, h0, r0⟩ := trodAll_cons hA
  obtain ⟨v1, vs1, d1, ds1, p1, q1, rfl, rfl, rfl, h1, r1⟩ := trodAll_cons r0
  obtain ⟨v2, vs2, d2, ds2, p2, q2, rfl, rfl, rfl, h2, r2⟩ := trodAll_cons r1
  obtain ⟨v3, vs3, d3, ds3, p3, q3, rfl, rfl, rfl, h3, r3⟩ := trodAll_cons r2
  obtain ⟨rfl, rfl, rfl⟩ := trodAll_nil r3
  obtain rfl : args = #[v0, v1, v2, v3] := by cases args; simp_all
  obtain ⟨rfl, rfl⟩ := trodVars_none hV
  obtain ⟨x0, rfl, rfl, rfl, wf0⟩ := open_int Tryd.underlying3 (hval 0 3 v0 rfl rfl) h0
  have m0 := wf_i64 wf0
  obtain ⟨x1, rfl, rfl, rfl, wf1⟩ := open_int Tryd.underlying3 (hval 1 3 v1 rfl rfl) h1
  have m1 := wf_i64 wf1
  obtain ⟨z2, rfl, rfl, rfl, wf2⟩ := open_int Tryd.underlying32 (hval 2 32 v2 rfl rfl) h2
  obtain ⟨x2, rfl⟩ := u8_of wf2
  obtain ⟨x3, rfl, rfl, rfl, m3⟩ := Go.ChangeMaps.open_string Tryd.underlying9 (hval 3 9 v3 rfl rfl) h3
  have m3 : x3.size ≤ 9223372036854775807 := m3
  clear hA0 hval0
  refine (none_walk (R := fun e w' => e = .returned (.bool true) ∧ Below W.heap.size W w') (of_laid3 hL) x0 x1 x2 x3 m0.1 m0.2 m3 (Sat.all W) fun w' H1 I1 => ⟨rfl, I1.below H1⟩).mono fun e W' ⟨he, hb⟩ => ?_
  subst he
  exact ⟨_, rfl, law_post laidOut Tryd.underlying4 rfl rfl (by kernel_rfl) hW' hb rfl rfl rfl⟩

theorem pagefileNone_holds : Rows.PagefileNoneSaid :=
  OpenClaim.holds_of_wide 4 Tryd.f4 rfl rfl rfl rfl rfl rfl rfl ⟨rfl, rfl, rfl, rfl, rfl⟩ rfl rfl rfl rfl rfl (by kernel_rfl) Tryd.func4 (by kernel_rfl)
    (of_decide_eq_true (by kernel_rfl)) (by unfold Func.isWrapper; first | (rw [if_pos (by decide +kernel)]; kernel_rfl) | (rw [if_neg (by decide +kernel)]; exact ⟨rfl, rfl⟩))
    (fun os started H enc _ => pagefileNone_lifted os started H enc)

theorem pagefileNone_card : Rows.PagefileNoneCardSaid :=
  Claim7.holds_tied_plain_at .later [] [.data, .data, .pinned] true (true, "b50ba1fb875069ac92f235f14ad218e551d388f911a2cc929a583b8c210e9379") false
    pagefileNone_holds (fun _ h => by cases h) (by kernel_rfl) (fun _ h => by cases h) pagefileNone_row_tie rfl ⟨rfl, rfl⟩ (by kernel_rfl) rfl
    (fun f fn hf hfn => by
      obtain rfl : f = 4 := Option.some.inj ((show Tryd.prog.funcNamed "rootstock/rootstocklaw06.PagefileNone" = some 4 by kernel_rfl).symm.trans hf) |>.symm
      obtain rfl : fn = Tryd.f4 := (Option.some.inj (Tryd.func4.symm.trans hfn)).symm
      exact ⟨by kernel_rfl, fun j t ht => by
        rw [Tryd.params4] at ht
        have hm : t ∈ [3, 3, 32, 9] := by simpa using Array.mem_of_getElem? ht
        have hall : ([3, 3, 32, 9].all fun u => !Tryd.prog.wantsStandIn u) = true := by kernel_rfl
        exact (show Tryd.prog.wantsStandIn t = false by simpa using List.all_eq_true.1 hall t hm)⟩)
    (by kernel_rfl)

#print axioms pagefileNone_card
end Go.Proofs.YtpccdadobnhpkaaDoor
