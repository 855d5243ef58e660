/-
  The model of the index: New, fail, Writes, Lose, Clone, by their walks. It proves no statement by itself.
-/
import Derived.Test.YtabpgejjnphfcaaGreatQ13
import Derived.Test.YtabpgejjnphfcaaGreatQ05
import Derived.Test.YtabpgejjnphfcaaGreatQ14
namespace Go.Proofs.YtabpgejjnphfcaaGreat
open Go.RowKit Go.Lib
open Md (Nm St)
set_option linter.unusedSimpArgs false
set_option linter.unusedVariables false
set_option linter.unusedSectionVars false

def encV4 (x : Md.Ver) : List Value := [.int .i64 x.id, .int .i64 x.parent, .int .i64 x.root, .int .i64 x.edges]
theorem encV4_ok : Enc encV4 4 := ⟨fun _ => rfl, fun x u hu => by simp [encV4] at hu; rcases hu with rfl | rfl | rfl | rfl <;> rfl⟩
def encBr (x : Md.Br) : List Value := [.string x.name, .int .i64 x.head]
theorem encBr_ok : Enc encBr 2 := ⟨fun _ => rfl, fun x u hu => by simp [encBr] at hu; rcases hu with rfl | rfl <;> rfl⟩
abbrev RowV (v : Value) (l : List Md.Ver) : Asn := RowOf 44 4 encV4 v l
abbrev RowB (v : Value) (l : List Md.Br) : Asn := RowOf 55 2 encBr v l
abbrev ReadsV (F : Asn) (v : Value) (l : List Md.Ver) : Prop := Reads encV4 F v l
abbrev ReadsB (F : Asn) (v : Value) (l : List Md.Br) : Prop := Reads encBr F v l
theorem Tryz.rowV : RowTy Tryz.prog 34 44 4 32 := ⟨Tryz.underlying34, ⟨.agg #[.int .i64 0, .int .i64 0, .int .i64 0, .int .i64 0], rfl, by kernel_rfl⟩, by omega⟩
theorem Tryz.rowB : RowTy Tryz.prog 35 55 2 24 := ⟨Tryz.underlying35, ⟨.agg #[.string ⟨#[]⟩, .int .i64 0], rfl, by kernel_rfl⟩, by omega⟩
/-- An answer as a value; its rows. -/
structure Sl4 where
  c : Value
  p : Value
  v : Value
  b : Value
def nil4 : Sl4 := ⟨.slice none 0 0, .slice none 0 0, .slice none 0 0, .slice none 0 0⟩
abbrev ansV (A : Md.An) (s : Sl4) : Value := .agg #[.int .i64 A.err, .int .i64 A.version, .bool A.yes, .int .i64 A.count, s.c, s.p, s.v, s.b]
def AnsAt (A : Md.An) (s : Sl4) : Asn := RowC s.c A.changes * (RowP s.p A.pairs * (RowV s.v A.versions * RowB s.b A.branches))
theorem rowV_nil {F : Asn} {w : World} (H : Sat F w) : Sat (RowV (.slice none 0 0) [] * F) w := rowOf_nil H
theorem rowB_nil {F : Asn} {w : World} (H : Sat F w) : Sat (RowB (.slice none 0 0) [] * F) w := rowOf_nil H
theorem rowC_nil {F : Asn} {w : World} (H : Sat F w) : Sat (RowC (.slice none 0 0) [] * F) w := rowOf_nil H
theorem row_nilP' {F : Asn} {w : World} (H : Sat F w) : Sat (RowP (.slice none 0 0) [] * F) w := row_nilP H
theorem ansAt_c {A : Md.An} {s : Sl4} {F : Asn} {w : World} (hp : s.p = .slice none 0 0) (hv : s.v = .slice none 0 0) (hb : s.b = .slice none 0 0) (ep : A.pairs = []) (ev : A.versions = []) (eb : A.branches = []) (H : Sat (RowC s.c A.changes * F) w) : Sat (AnsAt A s * F) w := by
  unfold AnsAt
  rw [hp, hv, hb, ep, ev, eb]
  exact (rowB_nil (rowV_nil (row_nilP' H))).of_eq (by ac_rfl)
theorem ansAt_p {A : Md.An} {s : Sl4} {F : Asn} {w : World} (hp : s.c = .slice none 0 0) (hv : s.v = .slice none 0 0) (hb : s.b = .slice none 0 0) (ep : A.changes = []) (ev : A.versions = []) (eb : A.branches = []) (H : Sat (RowP s.p A.pairs * F) w) : Sat (AnsAt A s * F) w := by
  unfold AnsAt
  rw [hp, hv, hb, ep, ev, eb]
  exact (rowB_nil (rowV_nil (rowC_nil H))).of_eq (by ac_rfl)
theorem ansAt_vb {A : Md.An} {s : Sl4} {F : Asn} {w : World} (hp : s.c = .slice none 0 0) (hv : s.p = .slice none 0 0) (ep : A.changes = []) (ev : A.pairs = []) (H : Sat (RowV s.v A.versions * (RowB s.b A.branches * F)) w) : Sat (AnsAt A s * F) w := by
  unfold AnsAt
  rw [hp, hv, ep, ev]
  exact (rowC_nil (row_nilP' H)).of_eq (by ac_rfl)
theorem ansAt_nil {A : Md.An} {F : Asn} {w : World} (ec : A.changes = []) (ep : A.pairs = []) (ev : A.versions = []) (eb : A.branches = []) (H : Sat F w) : Sat (AnsAt A nil4 * F) w := by
  refine ansAt_c rfl rfl rfl ep ev eb ?_
  rw [ec]
  exact rowOf_nil H
def mv0 : MV := ⟨[(1, (0, .slice none 0 0, []))], [(Md.mainN, 1)], [], 2⟩
theorem mv0_st : mv0.st = Md.init := rfl
theorem mv0_ok : mv0.Ok [] := by
  refine ⟨fun id x e => ?_, fun n x e => by cases e⟩
  unfold mv0 at e
  simp only [Md.aget_sing] at e
  split at e
  · cases e; exact .inl ⟨rfl, rfl⟩
  · cases e
section
variable {F : Asn} {w : World} {R : Ending → World → Prop}
set_option maxRecDepth 100000 in
theorem fail_any (e : Int) (H : Sat F w) (h : ∀ w', Sat F w' → Io w w' → R (.returned (ansV (Md.fail e) nil4)) w') : Calls Tryz.prog 35 #[.int .i64 e] w R := by
  have HH := Lib.hid h
  clear h
  have H1 := H.alloc (.cells #[.int .i64 e, .int .i64 0, .bool false, .int .i64 0, .slice none 0 0, .slice none 0 0, .slice none 0 0, .slice none 0 0] 37)
  have I1 := (Io.refl w).alloc (.cells #[.int .i64 e, .int .i64 0, .bool false, .int .i64 0, .slice none 0 0, .slice none 0 0, .slice none 0 0, .slice none 0 0] 37)
  go_enter Tryz.func35, Tryz.ntmps35
  go_wp2_with fail
  exact bodyPost_ret (v := .agg #[.int .i64 e, .int .i64 0, .bool false, .int .i64 0, .slice none 0 0, .slice none 0 0, .slice none 0 0, .slice none 0 0]) (by simp [results, Tryz.results35, go_sem]) rfl (HH.out _ H1 I1)
set_option maxRecDepth 100000 in
theorem writes_any (k : Int) {d : Bool} (hd : Hid (d = decide (k = 3 ∨ k = 5 ∨ k = 6 ∨ k = 7))) (h : R (.returned (.bool d)) w) : Calls Tryz.prog 27 #[.int .i64 k] w R := by
  have HH := Lib.hid h
  have hd' := hd.out
  clear h hd
  by_cases h3 : k = 3
  · subst h3
    have hd2 : d = true := by simpa using hd'
    clear hd'
    subst hd2
    go_enter Tryz.func27, Tryz.ntmps27
    go_wp2_with fail
    exact HH.out
  · by_cases h5 : k = 5
    · subst h5
      have hd2 : d = true := by simpa using hd'
      clear hd'
      subst hd2
      go_enter Tryz.func27, Tryz.ntmps27
      go_wp2_with fail
      exact HH.out
    · by_cases h6 : k = 6
      · subst h6
        have hd2 : d = true := by simpa using hd'
        clear hd'
        subst hd2
        go_enter Tryz.func27, Tryz.ntmps27
        go_wp2_with fail
        exact HH.out
      · by_cases h7 : k = 7
        · subst h7
          have hd2 : d = true := by simpa using hd'
          clear hd'
          subst hd2
          go_enter Tryz.func27, Tryz.ntmps27
          go_wp2_with fail
          exact HH.out
        · have hd2 : d = false := by simpa [h3, h5, h6, h7] using hd'
          clear hd'
          subst hd2
          go_enter Tryz.func27, Tryz.ntmps27
          go_wp2_with fail
          exact HH.out
set_option maxRecDepth 100000 in
theorem new_any (H : Sat F w) (hh : ∀ h w', Sat (ModelAt h mv0 * F) w' → Io w w' → R (.returned h.ptr) w') : Calls Tryz.prog 16 #[] w R := by
  have HH := Lib.hid hh
  clear hh
  have hmm := @run_makeMap Tryz.prog
  have H1 : Sat (MapAt ekI evV w.heap.size ([] : List (Int × (Int × Value × List Pr))) * F) (w.alloc (.map #[] 0)) := map_new H
  obtain ⟨w2, e2, H2, I2⟩ := run_update (P := Tryz.prog) (T := 70) intKey Tryz.underlying70 Tryz.underlying3 H1 1 (0, .slice none 0 0, [])
  have H3 : Sat (MapAt ekS ekI w2.heap.size ([] : List (Nm × Int)) * _) (w2.alloc (.map #[] 0)) := map_new H2
  obtain ⟨w4, e4, H4, I4⟩ := run_update (P := Tryz.prog) (T := 71) strKey Tryz.underlying71 Tryz.underlying9 H3 Md.mainN 1
  have H5 : Sat (MapAt ekS evP w4.heap.size ([] : List (Nm × (Value × List Pr))) * _) (w4.alloc (.map #[] 0)) := map_new H4
  have I5 := (((((Io.refl w).alloc (.map #[] 0)).trans I2).alloc (.map #[] 0)).trans I4).alloc (.map #[] 0)
  unfold Md.mainN at e4
  go_enter Tryz.func16, Tryz.ntmps16
  go_wp2_with fail
  have H6 := H5.new (.cells #[.map (some w.heap.size), .map (some w2.heap.size), .map (some w4.heap.size), .int .i64 2] 74)
  have I6 := I5.alloc (.cells #[.map (some w.heap.size), .map (some w2.heap.size), .map (some w4.heap.size), .int .i64 2] 74)
  have hb : (w4.alloc (.map #[] 0)).heap.size = w4.heap.size + 1 := by simp
  rw [hb] at H6
  obtain ⟨hM, e1, e2, e3, e4⟩ : ∃ hM : Mh, hM.b = w4.heap.size + 1 ∧ hM.bv = w.heap.size ∧ hM.bh = w2.heap.size ∧ hM.bp = w4.heap.size := ⟨⟨_, _, _, _⟩, rfl, rfl, rfl, rfl⟩
  rw [← e1, ← e2, ← e3, ← e4] at H6 ⊢
  rw [← e2, ← e3, ← e4] at I6
  have H7 : Sat (MCell hM mv0.next * (MapAt ekS evP hM.bp mv0.pend * (MapAt ekS ekI hM.bh mv0.heads * (MapAt ekI evV hM.bv mv0.vers * F)))) _ := H6
  exact HH.out hM _ (H7.of_eq (by unfold ModelAt MapsAt; ac_rfl)) I6
set_option maxRecDepth 100000 in
theorem lose_any {h : Mh} {S : MV} (H : Sat (ModelAt h S * F) w) (hh : ∀ w', Sat (ModelAt h { S with pend := [] } * F) w' → Io w w' → R (.returned (.tuple #[])) w') : Calls Tryz.prog 24 #[h.ptr] w R := by
  have HH := Lib.hid hh
  clear hh
  obtain ⟨c0, c1, c2, c3⟩ := ModelAt.cells H
  obtain ⟨w1, e1, H1, I1⟩ := run_clear (P := Tryz.prog) (T := 72) Tryz.underlying72 (ModelAt.asP H) 0
  go_enter Tryz.func24, Tryz.ntmps24
  go_wp2_with fail
  go_end0
  exact HH.out _ (H1.of_eq (by unfold ModelAt MapsAt MCell; ac_rfl)) I1
end
end Go.Proofs.YtabpgejjnphfcaaGreat
