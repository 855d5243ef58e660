/-
  law 17's asked, by its walk. It proves no statement by itself.
-/
import Derived.Test.YthbbdicdcmjpiaaGreatDoorP42
import Derived.Test.YthbbdicdcmjpiaaGreatDoorJAw
namespace Go.Proofs.YthbbdicdcmjpiaaGreatDoor
open Go.RowKit Go.Lib
set_option linter.unusedSimpArgs false
set_option linter.unusedVariables false
set_option linter.unusedSectionVars false
namespace Aj
/-- One beside a vertex, with its mark. -/
def mk (T : List Pr) (u : Int) (x : Int) : Nr := (x, decide (Md.pair u x ∈ T))
theorem pick_more (out : List Int) (l : List Nr) (x : Nr) : pick out (l ++ [x]) = if (pick out l).2 = true then pick out l else (if fits out x = true then (x.1, true) else pick out l) := by
  unfold pick
  rw [List.find?_append]
  cases h : l.find? (fits out) with
  | some y => simp
  | none =>
    simp only [Option.none_or, Bool.false_eq_true, if_false]
    cases k : fits out x <;> simp [List.find?_cons, k]
end Aj
theorem reads_three {b g : Nat} (x y z : Int) {F : Asn} (hb : b = g) : ReadsZ (pts g (.cells #[.int .i64 x, .int .i64 y, .int .i64 z] 3 (0, 0)) * F) (.slice (some ⟨b, 0, none⟩) 3 3) [x, y, z] := by
  subst hb
  refine ⟨some ⟨b, 0, none⟩, 3, rfl, by simp, .inr ⟨b, 0, rfl, fun w hw j u hu => ?_⟩⟩
  have e : cellsOf encZ [x, y, z] = [.int .i64 x, .int .i64 y, .int .i64 z] := rfl
  rw [e] at hu
  have := Sat.read hw.left.at j
  rw [Nat.zero_add]
  rw [this, ← hu]
  simp
section
variable {a s : Nat} {c : Cq} {F : Asn} {w : World} {R : Ending → World → Prop} {A T : List Pr} {q g : Nat}
set_option maxRecDepth 100000 in
set_option maxHeartbeats 16000000 in
/-- A strange vertex. -/
theorem asked_no (u v : Int) (hu : ¬ (0 ≤ u ∧ u < 1048576)) (hg : g ≤ 240) (H : Sat (AjM a c A T [] q g * (RsAt s A T * F)) w)
    (h : ∀ w', Sat (AjM a c A T [] q g * (RsAt s A T * F)) w' → Io w w' → R (.returned (.bool true)) w') :
    Calls Tryz.prog 16 #[.pointer (some ⟨a, 0, none⟩), .pointer (some ⟨s, 0, none⟩), .int .i64 u, .int .i64 v] w R := by
  have HH := Lib.hid h
  have h30 : Md.wrong u v = 30 := by
    unfold Md.wrong Md.vtx
    rw [decide_eq_false hu]
    rfl
  have HE : Hid ((30 : Int) = Md.wrong u v) := Lib.hid h30.symm
  have HM : Hid (false = decide ((30 : Int) = 0 ∧ Md.pair u v ∈ T)) := Lib.hid (by simp)
  have HD : Hid (false = decide ((30 : Int) = 0 ∧ Md.pair u v ∈ A)) := Lib.hid (by simp)
  have HV : Hid (false = Md.vtx u) := Lib.hid (by unfold Md.vtx; rw [decide_eq_false hu])
  have HG := Lib.hid hg
  have HU := Lib.hid hu
  obtain ⟨p, hp⟩ : ∃ p, Md.pair u v = p := ⟨_, rfl⟩
  obtain ⟨p1, p2⟩ := p
  have HP := Lib.hid hp
  clear h hp h30 hg hu
  go_enter Tryz.func16, Tryz.ntmps16
  go_upto_region 7 with (first
    | (go_at_call 33; (with_reducible refine ajm_get u v HG.out HE HM HD H ?_); intro w1 H1 I1)
    | (go_at_call 29; (with_reducible refine near_no HU.out H1 ?_); intro w2 H2 I2)
    | (go_at_call 10; (with_reducible refine rwrong_any u v H2 HE ?_); intro w3 H3 I3)
    | (go_at_call 9; (with_reducible refine rpair_any u v H3 HP ?_); intro w4 H4 I4; have H5 := (H4.new (.cells #[.int .i64 p1, .int .i64 p2] 35)).right; have I5 := I4.alloc (.cells #[.int .i64 p1, .int .i64 p2] 35))
    | fail)
  clear H1 H2 H3 H4 H
  generalize w4.alloc (.cells #[.int .i64 p1, .int .i64 p2] 35) = w5 at *
  go_quiet (fail)
  have H6 := H5.drewN nq
  have I6 := (((I1.trans I2).trans I3).trans I5).drewN nq
  clear H5 I1 I2 I3 I4 I5
  generalize w5.drewN nq = w6 at *
  go_wp2_with (first
    | (go_at_call 32; (refine pick_no (reads_three v 3 v rfl) HU.out (H6.new _) ?_); intro w7 H7 I7; have H8 := H7.right)
    | (go_at_call 39; (with_reducible refine rvtx_any u H8 HV ?_); intro w8 H9 I9)
    | fail)
  exact HH.out _ H9 (((I6.alloc _).trans I7).trans I9)
/-- What is asked lies so. -/
theorem ask_rows {X : Asn} (H : Sat (X * (RsAt s A T * F)) w) : ∃ va vt, Sat (RowP va A * (RowP vt T * (pts s (.cells #[va, vt] 31 (0, 0)) * (X * F)))) w := by
  obtain ⟨va, vt, h⟩ := sat_rs.1 (H.of_eq (show _ = RsAt s A T * (X * F) from by ac_rfl))
  exact ⟨va, vt, h.of_eq (by unfold RowP; ac_rfl)⟩
theorem ask_back {va vt : Value} {X : Asn} (H : Sat (RowP va A * (RowP vt T * (pts s (.cells #[va, vt] 31 (0, 0)) * (X * F)))) w) : Sat (X * (RsAt s A T * F)) w :=
  (sat_rs.2 ⟨va, vt, H.of_eq (by unfold RowP; ac_rfl)⟩ : Sat (RsAt s A T * (X * F)) w).of_eq (by ac_rfl)
theorem ask_tree {vt : Value} {X Y : Asn} {W : World} (hT : T.length ≤ 1000) (H : Sat (X * (RowP vt T * Y)) W) : ReadsP (X * (RowP vt T * Y)) vt T :=
  let ⟨x, c, h1, h2, h3⟩ := readsP_row (H.of_eq (show _ = RowP vt T * (X * Y) from by unfold RowP; ac_rfl)) (by omega)
  ⟨x, c, h1, h2, h3.imp id fun ⟨b, off, e, k⟩ => ⟨b, off, e, fun w hw => k w (hw.of_eq (show _ = RowP vt T * (X * Y) from by unfold RowP; ac_rfl))⟩⟩
theorem readsP_imp {F G : Asn} {v : Value} {l : List Pr} (h : ReadsP F v l) (k : ∀ w, Sat G w → Sat F w) : ReadsP G v l :=
  let ⟨x, c, h1, h2, h3⟩ := h
  ⟨x, c, h1, h2, h3.imp id fun ⟨b, off, e, q⟩ => ⟨b, off, e, fun w hw => q w (k w hw)⟩⟩
theorem ask_has {v : Value} {l : List Pr} {x y : Int} (hv : ReadsP F v l) {d : Bool} (hd : Hid (d = decide ((x, y) ∈ l))) (H : Sat F w) (h : ∀ w', Sat F w' → Io w w' → R (.returned (.bool d)) w') :
    Calls Tryz.prog 13 #[v, .agg #[.int .i64 x, .int .i64 y]] w R := rhas_d hv (x, y) hd H h
theorem rowW_map {v : Value} {L : List Int} {f : Int → Nr} (H : Sat (RowW v (L.map f) * F) w) : ∃ a c, v = .slice a L.length c := by
  obtain ⟨a, c, h⟩ := rowOf_shl H
  rw [List.length_map] at h
  exact ⟨a, c, h⟩
theorem ask_near {u : Int} (hu : 0 ≤ u ∧ u < 1048576) (hg : g ≤ 240) (hA : A.length ≤ 1000) (H : Sat (AjM a c A T [] q g * F) w)
    (hR : ∀ v w', Sat (RowW v ((Aj.nb A u).map (Aj.mk T u)) * (AjM a c A T [] q g * F)) w' → Io w w' → R (.returned (.tuple #[v, .int .i64 0])) w') :
    Calls Tryz.prog 29 #[.pointer (some ⟨a, 0, none⟩), .int .i64 u] w R := ajm_near hu hg hA (by simp) H fun v w' h => hR v w' h
theorem ask_pick {u : Int} {wv : Value} {l : List Int} (hv : ReadsZ F wv l) (hu : 0 ≤ u ∧ u < 1048576) (hg : g ≤ 240) (hA : A.length ≤ 1000) {x : Int} {ok : Bool} (hx : Hid (Aj.pick l ((Aj.nb A u).map (Aj.mk T u)) = (x, ok))) (H : Sat (AjM a c A T [] q g * F) w)
    (hR : ∀ w', Sat (AjM a c A T [] q g * F) w' → Io w w' → R (.returned (.tuple #[.int .i64 x, .bool ok, .int .i64 0])) w') :
    Calls Tryz.prog 32 #[.pointer (some ⟨a, 0, none⟩), .int .i64 u, wv] w R := ajm_pick hv hu hg hA (by simp) hx H hR
theorem ask_cells {va vt x y : Value} {bx : Nat} {X Y Z : Asn} {t1 t2 : TypeId} (H : Sat (X * (Y * (pts s (.cells #[va, vt] t1 (0, 0)) * ((pts bx (.cells #[x, y] t2 (0, 0)) * Z) * F)))) w) :
    w.cell? ⟨s, 0, none⟩ = some va ∧ w.cell? ⟨s, 1, none⟩ = some vt ∧ w.cell? ⟨bx, 0, none⟩ = some x ∧ w.cell? ⟨bx, 1, none⟩ = some y :=
  ⟨(nd2 H.right.right).1, (nd2 H.right.right).2, (nd2 (H.right.right.right.of_eq (show _ = pts bx (.cells #[x, y] t2 (0, 0)) * (Z * F) from by ac_rfl))).1, (nd2 (H.right.right.right.of_eq (show _ = pts bx (.cells #[x, y] t2 (0, 0)) * (Z * F) from by ac_rfl))).2⟩
/-- The parts, as the loop holds them. -/
abbrev AskG (a s : Nat) (c : Cq) (A T : List Pr) (q g : Nat) (F : Asn) (va vt vm vn : Value) (L : List Int) (f : Int → Nr) : Asn :=
  RowNu vm L * (RowW vn (L.map f) * (RowP vt T * (pts s (.cells #[va, vt] 31 (0, 0)) * (RowP va A * (AjM a c A T [] q g * F)))))
theorem ask_open {vm vn : Value} {L : List Int} {f : Int → Nr} (H : Sat (RowNu vm L * (RsAt s A T * (RowW vn (L.map f) * (AjM a c A T [] q g * F)))) w) : ∃ va vt, Sat (AskG a s c A T q g F va vt vm vn L f) w := by
  obtain ⟨va, vt, h⟩ := sat_rs.1 (H.of_eq (show _ = RsAt s A T * (RowNu vm L * (RowW vn (L.map f) * (AjM a c A T [] q g * F))) from by unfold RowNu; ac_rfl))
  exact ⟨va, vt, h.of_eq (by unfold AskG RowP RowNu RowW; ac_rfl)⟩
theorem ask_close {va vt vm vn : Value} {L : List Int} {f : Int → Nr} (H : Sat (AskG a s c A T q g F va vt vm vn L f) w) : Sat (AjM a c A T [] q g * (RsAt s A T * F)) w :=
  (sat_rs.2 ⟨va, vt, (H.right.right).of_eq (show _ = pts s (.cells #[va, vt] 31 (0, 0)) * (RowP va A * (RowP vt T * (AjM a c A T [] q g * F))) from by unfold RowP; ac_rfl)⟩ : Sat (RsAt s A T * (AjM a c A T [] q g * F)) w).of_eq (by ac_rfl)
theorem ask_t {va vt vm vn : Value} {L : List Int} {f : Int → Nr} (H : Sat (AskG a s c A T q g F va vt vm vn L f) w) : Sat (RowP vt T * (RowNu vm L * (RowW vn (L.map f) * (pts s (.cells #[va, vt] 31 (0, 0)) * (RowP va A * (AjM a c A T [] q g * F)))))) w :=
  H.of_eq (by unfold AskG RowP RowNu RowW; ac_rfl)
theorem ask_w {va vt vm vn : Value} {L : List Int} {f : Int → Nr} (H : Sat (AskG a s c A T q g F va vt vm vn L f) w) : Sat (RowW vn (L.map f) * (RowNu vm L * (RowP vt T * (pts s (.cells #[va, vt] 31 (0, 0)) * (RowP va A * (AjM a c A T [] q g * F)))))) w := swap3 H
theorem ask_k1 {vn x y : Value} {bx : Nat} {L : List Nr} {t2 : TypeId} (H : Sat (((pts bx (.cells #[x, y] t2 (0, 0)) * (RowW vn L * AjM a c A T [] q g)) * (RsAt s A T * F))) w) : Sat (RowW vn L * (AjM a c A T [] q g * (RsAt s A T * F))) w :=
  (H.of_eq (show _ = pts bx (.cells #[x, y] t2 (0, 0)) * (RowW vn L * (AjM a c A T [] q g * (RsAt s A T * F))) from by unfold RowW; ac_rfl)).right
theorem ask_k2 {vn : Value} {L : List Nr} {X : Asn} (H : Sat (AjM a c A T [] q g * (X * (RowW vn L * (RsAt s A T * F)))) w) : Sat (RsAt s A T * (RowW vn L * (AjM a c A T [] q g * F))) w :=
  (H.of_eq (show _ = X * (RsAt s A T * (RowW vn L * (AjM a c A T [] q g * F))) from by unfold RowW; ac_rfl)).right
theorem ask_k3 {vn : Value} {L : List Nr} {X : Asn} (H : Sat (X * (RowW vn L * (AjM a c A T [] q g * (RsAt s A T * F)))) w) : Sat (AjM a c A T [] q g * (X * (RowW vn L * (RsAt s A T * F)))) w :=
  H.of_eq (by unfold RowW; ac_rfl)
end
end Go.Proofs.YthbbdicdcmjpiaaGreatDoor
