/-
  The keys of a map of versions, sorted: maps.Keys, slices.Sorted; cmp.Compare at strings. It proves no statement by itself.
-/
import Derived.Test.YtabpgejjnphfcaaGreatQ32
import Derived.Test.YtabpgejjnphfcaaGreatQ33
import Derived.Maps.Own
namespace Go.Proofs.YtabpgejjnphfcaaGreat
open Go.RowKit Go.Lib Go.MapKept Go.Maps Go.Sort Go.Shelf
open Go.WideElems (rd rg rg_of)
open Md (Nm St)
set_option linter.unusedSimpArgs false
set_option linter.unusedVariables false
set_option linter.unusedSectionVars false
abbrev VLs := List (Int × (Int × Value × List Pr))
def anyR : Value → Option (DataW Unit × List MemPlace) := fun _ => some (.nil, [])
section
variable {F : Asn} {w : World} {R : Ending → World → Prop}
theorem owns_of {b : Nat} {l : VLs} (hk : ∀ x ∈ l, 0 ≤ x.1 ∧ x.1 ≤ 1000000000) (hl : l.length ≤ 1000000) (H : Sat (MapAt ekI evV b l * F) w) :
    ∃ D : DataW Unit, w.ownsMap Tryz.prog 3 anyR b l.length D ∧ (intKeys D).Perm (l.map (·.1)) ∧ Maps.size D ≤ l.length := by
  obtain ⟨es, clock, hs, he, hp⟩ := sat_map.1 H
  have hlen : es.size = l.length := by
    have := congrArg List.length he
    simpa [ents] using this
  have hrd : ∀ x ∈ es.toList, ∃ n : Int, x.key = .int .i64 n ∧ WideElems.rd Tryz.prog 3 anyR x = some (.int .i64 n, .nil) := by
    intro x hx
    have : kvOf x ∈ ents ekI evV l := he ▸ List.mem_map.2 ⟨x, hx, rfl⟩
    obtain ⟨y, hy, e⟩ := List.mem_map.1 this
    have ek : x.key = .int .i64 y.1 := (congrArg Prod.fst e).symm
    refine ⟨y.1, ek, ?_⟩
    have hw : (Lit.int .i64 y.1).wf = true := by
      have := hk y hy
      simp [Lit.wf, IntKind.min, IntKind.max, IntKind.signed, IntKind.bits]
      omega
    unfold WideElems.rd anyR
    rw [ek, keyOf_int_mk Tryz.underlying3 hw]
    rfl
  have hrg : es.toList.map (rg Tryz.prog 3 anyR) = l.map fun x => (.int .i64 x.1, .nil) := by
    have e1 : es.toList.map (·.key) = l.map fun x => ekI x.1 := by
      have := congrArg (List.map Prod.fst) he
      simpa [ents, kvOf, List.map_map, Function.comp_def] using this
    have e2 : es.toList.map (rg Tryz.prog 3 anyR) = (es.toList.map (·.key)).map fun v => ((match v with | .int _ n => Lit.int .i64 n | _ => .bool false), (.nil : DataW Unit)) := by
      rw [List.map_map]
      refine List.map_congr_left fun x hx => ?_
      obtain ⟨n, h1, h2⟩ := hrd x hx
      simp only [Function.comp, h1]
      exact rg_of h2
    rw [e2, e1, List.map_map]
    rfl
  refine ⟨.map ((es.toList.map (rg Tryz.prog 3 anyR)).foldr DataW.insert []), ⟨es, clock, hp.left.at, ⟨by rw [hlen]; unfold maxLen; omega, hs, fun x hx => by obtain ⟨n, _, h⟩ := hrd x hx; exact ⟨_, h⟩⟩, by omega, rfl⟩, ?_, ?_⟩
  · have hpm := Go.WideShapes.sorted_perm (es.toList.map (rg Tryz.prog 3 anyR))
    have := hpm.map (fun q => Go.intOf q.1)
    show (List.map _ _).Perm _
    refine this.trans ?_
    rw [hrg, List.map_map]
    exact List.Perm.of_eq rfl
  · have hpm := (Go.WideShapes.sorted_perm (es.toList.map (rg Tryz.prog 3 anyR))).length_eq
    show List.length _ ≤ _
    rw [hpm, List.length_map, Array.length_toList, hlen]
    exact Nat.le_refl _
/-- slices.Sort's two contracts here, at the fence that asks nothing. -/
theorem sortsA (m : Nat) : AnyZI.SortsIn Tryz.prog Tryz.sortedA_ren Fence.wide m :=
  ⟨fun blk off cap ss W hH hblk hsz => callsIn_wide.2 (AnyM.slices_Sort_int Tryz.sortA blk off cap ss W hH hblk hsz),
   fun p cap W => callsIn_wide.2 (AnyM.slices_Sort_int_none Tryz.sortA p cap W)⟩
theorem keys_any (b : Nat) (H : Sat F w) (hh : Sat F (w.alloc (.cells #[.map (some b)] 70)) → R (.returned (.func (.func 91) #[] #[.pointer (some ⟨w.heap.size, 0, none⟩)])) (w.alloc (.cells #[.map (some b)] 70))) :
    Calls Tryz.prog 62 #[.map (some b)] w R := by
  have cK : CallsIn Fence.wide 5 Tryz.prog 62 #[.map (some b)] w fun e w' => e = .returned (.func (.func 91) #[] #[.pointer (some ⟨w.heap.size, 0, none⟩)]) ∧ w' = w.alloc (.cells #[.map (some b)] 70) := AnyZI.keys_in Tryz.keysA Fence.wide 5 trivial rfl (some b) w
  refine (callsIn_wide.1 cK).mono ?_
  rintro e w' ⟨rfl, rfl⟩
  exact hh (H.alloc _)
set_option maxHeartbeats 2000000 in
theorem sortedkeys_any {b : Nat} {l : VLs} (hk : ∀ x ∈ l, 0 ≤ x.1 ∧ x.1 ≤ 1000000000) (hl : l.length ≤ 1000000) (H : Sat (MapAt ekI evV b l * F) w)
    (hh : ∀ v ss w', ss.Perm (l.map (·.1)) → ss.Pairwise (· ≤ ·) → Sat (RowI v ss * (MapAt ekI evV b l * F)) w' → Io w w' → R (.returned v) w') :
    Calls Tryz.prog 61 #[.func (.func 91) #[] #[.pointer (some ⟨w.heap.size, 0, none⟩)]] (w.alloc (.cells #[.map (some b)] 70)) R := by
  obtain ⟨D, hown, hperm, hsize⟩ := owns_of hk hl H
  have hbl := hown.lt
  have hseq : SeqGives Fence.wide 2 Tryz.prog 91 #[.pointer (some ⟨w.heap.size, 0, none⟩)] encZ (fun ss => ss.Perm (intKeys D)) (Maps.size D) (w.alloc (.cells #[.map (some b)] 70)) :=
    AnyZI.keys_gives (ρ := Tryz.keysA_ren) { Tryz.keysA with } Fence.wide _ trivial rfl (by omega) w.heap.size b l.length D _ (by simp) (by simp) (by
      obtain ⟨es, clock, hb, Ft, hs, hD⟩ := hown
      exact ⟨es, clock, (Below.heap_alloc _ _ b hbl).trans hb, Ft, hs, hD⟩)
  have hmax : Maps.size D ≤ maxLen := by unfold maxLen; omega
  have hbytes : Maps.size D * 8 ≤ 140737488355328 := by omega
  have cS := AnyZI.sorted_in Tryz.sortedA Fence.wide 5 trivial trivial trivial trivial rfl (by omega) (sortsA _) (enters_of Tryz.func90 (by kernel_rfl) rfl) 91 #[.pointer (some ⟨w.heap.size, 0, none⟩)] trivial (enters_of Tryz.func91 (by kernel_rfl) rfl) _ _ hmax hbytes _ hseq
  change CallsIn _ _ Tryz.prog 61 _ _ _ at cS
  refine (callsIn_wide.1 cS).mono ?_
  rintro e w' ⟨v, ss, rfl, hS, hrow, hnil, hb⟩
  have H1 : Sat (MapAt ekI evV b l * F) (w.alloc (.cells #[.map (some b)] 70)) := H.alloc _
  have hp : (ss.mergeSort fun x y => decide (x ≤ y)).Perm (l.map (·.1)) := (List.mergeSort_perm _ _).trans (hS.trans hperm)
  have hlen : (ss.mergeSort fun x y => decide (x ≤ y)).length = ss.length := (List.mergeSort_perm _ _).length_eq
  have hsort : (ss.mergeSort fun x y => decide (x ≤ y)).Pairwise (· ≤ ·) := by
    have := List.pairwise_mergeSort (le := fun x y : Int => decide (x ≤ y)) (by intro a b c h1 h2; simp at *; omega) (by intro a b; simp; omega) ss
    exact this.imp (by intro a b h; simpa using h)
  refine hh v (ss.mergeSort fun x y => decide (x ≤ y)) w' hp hsort ?_ ?_
  · have := owns_sat H1 ss.length _ 3 1 hrow hb
    unfold RowI RowOf
    rw [hlen]
    have e : cellsOf encI (ss.mergeSort fun x y => decide (x ≤ y)) = (ss.mergeSort fun x y => decide (x ≤ y)).map encZ := by
      unfold cellsOf encI
      generalize ss.mergeSort (fun x y => decide (x ≤ y)) = z
      induction z with
      | nil => rfl
      | cons a z ih => simp [List.flatMap_cons, ih, encZ]
    rw [e]
    exact this
  · exact ((Io.refl w).alloc (.cells #[.map (some b)] 70)).trans ⟨hb.os, hb.tape, hb.output, hb.size⟩
end
end Go.Proofs.YtabpgejjnphfcaaGreat
