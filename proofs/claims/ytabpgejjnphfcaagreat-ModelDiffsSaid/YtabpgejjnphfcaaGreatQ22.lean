/-
  The model of the index: Clone, commit, branch, drop, by their walks. It proves no statement by itself.
-/
import Derived.Test.YtabpgejjnphfcaaGreatQ15
import Derived.Shelf.SlMaps.Clone
namespace Go.Proofs.YtabpgejjnphfcaaGreat
open Go.RowKit Go.Lib
open Md (Nm St)
set_option linter.unusedSimpArgs false
set_option linter.unusedVariables false
set_option linter.unusedSectionVars false
section
variable {κ ν : Type} {ek : κ → Value} {ev : ν → Value} {b : Nat} {l : List (κ × ν)} {F : Asn} {w : World}
/-- maps.clone, at the run. -/
theorem run_clone_sl (t : TypeId) (H : Sat (MapAt ek ev b l * F) w) :
    ∃ w', (Extern.MapsClone.clone #[.iface t (.map (some b))]).run Tryz.prog w = .ok (.iface t (.map (some w.heap.size))) w' ∧ Sat (MapAt ek ev w.heap.size l * (MapAt ek ev b l * F)) w' ∧ Io w w' := by
  obtain ⟨es, clock, hs, he, hp⟩ := sat_map.1 H
  have hr := run_maps_clone_sl (P := Tryz.prog) w t (es := es) (clock := clock) hp.left.at
  refine ⟨_, hr, ?_, (Io.refl w).alloc _⟩
  have h1 : Sat (pts w.heap.size (.map es clock) * (pts b (.map es clock) * F)) (w.alloc (.map es clock)) := hp.new _
  have h2 : Sat (MapAt ek ev w.heap.size l * (pts b (.map es clock) * F)) (w.alloc (.map es clock)) := sat_map.2 ⟨es, clock, hs, he, h1⟩
  have h3 : Sat (MapAt ek ev b l * (MapAt ek ev w.heap.size l * F)) (w.alloc (.map es clock)) := sat_map.2 ⟨es, clock, hs, he, h2.of_eq (by ac_rfl)⟩
  exact h3.of_eq (by ac_rfl)
end
section
variable {F : Asn} {w : World} {R : Ending → World → Prop}
set_option maxRecDepth 100000 in
theorem cloneV_any {b : Nat} {l : List (Int × (Int × Value × List Pr))} (H : Sat (MapAt ekI evV b l * F) w) (hh : ∀ c w', Sat (MapAt ekI evV c l * (MapAt ekI evV b l * F)) w' → Io w w' → R (.returned (.map (some c))) w') :
    Calls Tryz.prog 37 #[.map (some b)] w R := by
  have HH := Lib.hid hh
  clear hh
  have hq := fun w => run_eql_map_nil_sl (P := Tryz.prog) w 70 _ _ (some b) Tryz.underlying70
  obtain ⟨w1, e1, H1, I1⟩ := run_clone_sl 70 H
  go_enter Tryz.func37, Tryz.ntmps37
  go_wp2
  rw [run_callFunc_extern Tryz.func73 (by kernel_rfl) (by kernel_rfl) (by kernel_rfl) (e := Extern.MapsClone.clone) (by kernel_rfl), e1]
  simp only [Result.andThen]
  rw [Oper.upon_value]
  go_wp2
  rw [run_typeAssert_map_sl _ 70 20 _ _ _ Tryz.underlying70]
  simp only [Result.andThen]
  rw [Oper.upon_value]
  go_wp2
  exact HH.out _ _ H1 I1
set_option maxRecDepth 100000 in
theorem cloneH_any {b : Nat} {l : List (Nm × Int)} (H : Sat (MapAt ekS ekI b l * F) w) (hh : ∀ c w', Sat (MapAt ekS ekI c l * (MapAt ekS ekI b l * F)) w' → Io w w' → R (.returned (.map (some c))) w') :
    Calls Tryz.prog 38 #[.map (some b)] w R := by
  have HH := Lib.hid hh
  clear hh
  have hq := fun w => run_eql_map_nil_sl (P := Tryz.prog) w 71 _ _ (some b) Tryz.underlying71
  obtain ⟨w1, e1, H1, I1⟩ := run_clone_sl 71 H
  go_enter Tryz.func38, Tryz.ntmps38
  go_wp2
  rw [run_callFunc_extern Tryz.func73 (by kernel_rfl) (by kernel_rfl) (by kernel_rfl) (e := Extern.MapsClone.clone) (by kernel_rfl), e1]
  simp only [Result.andThen]
  rw [Oper.upon_value]
  go_wp2
  rw [run_typeAssert_map_sl _ 71 20 _ _ _ Tryz.underlying71]
  simp only [Result.andThen]
  rw [Oper.upon_value]
  go_wp2
  exact HH.out _ _ H1 I1
set_option maxRecDepth 100000 in
theorem cloneP_any {b : Nat} {l : List (Nm × (Value × List Pr))} (H : Sat (MapAt ekS evP b l * F) w) (hh : ∀ c w', Sat (MapAt ekS evP c l * (MapAt ekS evP b l * F)) w' → Io w w' → R (.returned (.map (some c))) w') :
    Calls Tryz.prog 39 #[.map (some b)] w R := by
  have HH := Lib.hid hh
  clear hh
  have hq := fun w => run_eql_map_nil_sl (P := Tryz.prog) w 72 _ _ (some b) Tryz.underlying72
  obtain ⟨w1, e1, H1, I1⟩ := run_clone_sl 72 H
  go_enter Tryz.func39, Tryz.ntmps39
  go_wp2
  rw [run_callFunc_extern Tryz.func73 (by kernel_rfl) (by kernel_rfl) (by kernel_rfl) (e := Extern.MapsClone.clone) (by kernel_rfl), e1]
  simp only [Result.andThen]
  rw [Oper.upon_value]
  go_wp2
  rw [run_typeAssert_map_sl _ 72 20 _ _ _ Tryz.underlying72]
  simp only [Result.andThen]
  rw [Oper.upon_value]
  go_wp2
  exact HH.out _ _ H1 I1
theorem modelAt_mk (b bv bh bp : Nat) (S : MV) : ModelAt ⟨b, bv, bh, bp⟩ S = pts b (.cells #[.map (some bv), .map (some bh), .map (some bp), .int .i64 S.next] 74 (0, 0)) * (MapAt ekI evV bv S.vers * (MapAt ekS ekI bh S.heads * MapAt ekS evP bp S.pend)) := rfl
set_option maxRecDepth 100000 in
set_option maxHeartbeats 4000000 in
theorem clonem_any {h : Mh} {S : MV} (H : Sat (ModelAt h S * F) w) (hh : ∀ k w', Sat (ModelAt k S * (ModelAt h S * F)) w' → Io w w' → R (.returned k.ptr) w') : Calls Tryz.prog 18 #[h.ptr] w R := by
  have HH := Lib.hid hh
  clear hh
  have Z0 := ModelAt.cells H.drew
  have HV := ModelAt.asV H.drew
  have HZ := Lib.hid (fun (G : Asn) W (hW : Sat (ModelAt h S * G) W) => ModelAt.cells hW)
  go_enter Tryz.func18, Tryz.ntmps18
  go_wp2_with fail
  go_region_held3 (fun W => W.cell? ⟨h.b, 0, none⟩ = some (.map (some h.bv)) ∧ W.cell? ⟨h.b, 1, none⟩ = some (.map (some h.bh)) ∧ W.cell? ⟨h.b, 2, none⟩ = some (.map (some h.bp)) ∧ W.cell? ⟨h.b, 3, none⟩ = some (.int .i64 S.next)) (first | exact Z0 | exact Z1 | exact Z2 | exact Z3 | exact Z4) (first
    | (go_at_call 37; with_reducible refine cloneV_any HV ?_; intro c1 w1 H1 I1; have K1 : Sat (ModelAt h S * (MapAt ekI evV c1 S.vers * F)) w1 := H1.of_eq (by unfold ModelAt MapsAt; ac_rfl); have Z1 := HZ.out _ _ K1; have HH1 := ModelAt.asH K1)
    | (go_at_call 38; with_reducible refine cloneH_any HH1 ?_; intro c2 w2 H2 I2; have K2 : Sat (ModelAt h S * (MapAt ekS ekI c2 S.heads * (MapAt ekI evV c1 S.vers * F))) w2 := H2.of_eq (by unfold ModelAt MapsAt; ac_rfl); have Z2 := HZ.out _ _ K2; have HP2 := ModelAt.asP K2)
    | (go_at_call 39; with_reducible refine cloneP_any HP2 ?_; intro c3 w3 H3 I3; have K3 : Sat (ModelAt h S * (MapAt ekS evP c3 S.pend * (MapAt ekS ekI c2 S.heads * (MapAt ekI evV c1 S.vers * F)))) w3 := H3.of_eq (by unfold ModelAt MapsAt; ac_rfl); have Z3 := HZ.out _ _ K3; have Z4 := HZ.out _ _ (K3.alloc (.cells #[.map (some c1), .map (some c2), .map (some c3), .int .i64 S.next] 74))))
  all_goals
    have K4 := K3.new (.cells #[.map (some c1), .map (some c2), .map (some c3), .int .i64 S.next] 74)
    have I4 := ((((Io.refl w).drew.trans I1).trans I2).trans I3).alloc (.cells #[.map (some c1), .map (some c2), .map (some c3), .int .i64 S.next] 74)
    go_wp2_with fail
    exact HH.out ⟨w3.heap.size, c1, c2, c3⟩ _ (K4.of_eq (by rw [modelAt_mk w3.heap.size c1 c2 c3 S]; unfold ModelAt MapsAt MCell; ac_rfl)) I4
end
end Go.Proofs.YtabpgejjnphfcaaGreat
