/-
  Rows of rows of pairs, and what ModelStays rests on. It proves no statement by itself.
-/
import Derived.Test.YtabpgejjnphfcaaGreatKWB
namespace Go.Proofs.YtabpgejjnphfcaaGreat
open Go.RowKit Go.Lib Go.MapKept
open Md (Nm St)
set_option linter.unusedSimpArgs false
set_option linter.unusedVariables false
set_option linter.unusedSectionVars false
/-- A slice value in parts. -/
abbrev Sl3 := Option Addr × Nat × Nat
def encSl (x : Sl3) : List Value := [.slice x.1 x.2.1 x.2.2]
theorem encSl_ok : Enc encSl 1 := ⟨fun _ => rfl, fun x u hu => by simp [encSl] at hu; rw [hu]; rfl⟩
theorem Tryz.rowSl : RowTy Tryz.prog 42 22 1 24 := ⟨Tryz.underlying42, ⟨.slice none 0 0, rfl, by kernel_rfl⟩, by omega⟩
abbrev RowSl (v : Value) (l : List Sl3) : Asn := RowOf 22 1 encSl v l
/-- Rows of pairs, each owned. -/
def Own : List (Sl3 × List Pr) → Asn
  | [] => emp
  | x :: l => RowP (.slice x.1.1 x.1.2.1 x.1.2.2) x.2 * Own l
theorem own_append (l m : List (Sl3 × List Pr)) : Own (l ++ m) = Own l * Own m := by
  induction l with
  | nil => show Own m = emp * Own m; rw [star_emp]
  | cons x l ih => show RowP _ _ * Own (l ++ m) = (RowP _ _ * Own l) * Own m; rw [ih, star_assoc]
theorem own_snoc {l : List (Sl3 × List Pr)} {a : Option Addr} {n c : Nat} {E : List Pr} {F : Asn} {w : World} (H : Sat (RowP (.slice a n c) E * (Own l * F)) w) : Sat (Own (l ++ [((a, n, c), E)]) * F) w := by
  refine H.of_eq ?_
  rw [own_append]
  show _ = (Own l * (RowP (.slice a n c) E * emp)) * F
  rw [emp_star]
  ac_rfl
theorem own_reads : ∀ (l : List (Sl3 × List Pr)) (F : Asn) (w : World), (∀ x ∈ l, x.2.length ≤ 1000000) → Sat (Own l * F) w → ∀ (k : Nat) (hk : k < l.length), ReadsP (Own l * F) (.slice l[k].1.1 l[k].1.2.1 l[k].1.2.2) l[k].2
  | x :: l, F, w, hl, H, 0, hk => by
    have H1 : Sat (RowP (.slice x.1.1 x.1.2.1 x.1.2.2) x.2 * (Own l * F)) w := H.of_eq (by show (RowP _ _ * Own l) * F = _; rw [star_assoc])
    exact readsP_imp (readsP_row H1 (hl x (by simp))) fun W hW => hW.of_eq (by show (RowP _ _ * Own l) * F = _; rw [star_assoc]; rfl)
  | x :: l, F, w, hl, H, k + 1, hk => by
    have e : Own (x :: l) * F = Own l * (RowP (.slice x.1.1 x.1.2.1 x.1.2.2) x.2 * F) := by show (RowP _ _ * Own l) * F = _; ac_rfl
    have := own_reads l (RowP (.slice x.1.1 x.1.2.1 x.1.2.2) x.2 * F) w (fun y hy => hl y (by simp [hy])) (H.of_eq e) k (by simpa using hk)
    exact readsP_imp this fun W hW => hW.of_eq e
theorem readsSl_get {F : Asn} {a : Option Addr} {n c : Nat} {l : List Sl3} (hl : Reads encSl F (.slice a n c) l) (k : Nat) (hk : k < l.length) : ∃ b off, a = some ⟨b, off, none⟩ ∧ ∀ w, Sat F w → w.cell? ⟨b, off + k, none⟩ = some (.slice l[k].1 l[k].2.1 l[k].2.2) := by
  obtain ⟨b, off, h1, h2⟩ := hl.get encSl_ok k hk
  exact ⟨b, off, h1, fun w hw => by simpa using h2 w hw 0 _ (by omega) rfl⟩
theorem ms_tail {x : Mh × St} {l : List (Mh × St)} {F : Asn} {w : World} (H : Sat (Ms (x :: l) * F) w) : ∃ G, Sat (Ms l * (G * F)) w := by
  obtain ⟨h, T⟩ := x
  obtain ⟨p, S, h1, H1⟩ := ms_open.1 H
  refine ⟨ModelAt h S, ?_⟩
  unfold Ms
  rw [sat_ex]
  exact ⟨p, H1.of_eq (by ac_rfl)⟩
namespace Md
theorem vlist_next {k : Nat} {S : St} (h : Inv k S) {v : Ver} (hv : v ∈ vlist S) : v.id < S.next := by
  obtain ⟨x, hx, _⟩ := (mem_vlist h v).1 hv
  exact (h.ids v.id (by rw [hx]; rfl)).2
theorem vlist_edges {k : Nat} {S : St} (h : Inv k S) {v : Ver} (hv : v ∈ vlist S) : ∃ E : List Pr, E.length ≤ k ∧ v.edges = (E.length : Int) ∧ (∃ p, aget S.vers v.id = some (p, E)) ∧ mdo S ⟨11, ⟨#[]⟩, 0, 0, v.id, 0⟩ = (S, { pairs := E }) := by
  obtain ⟨⟨p, E⟩, hx, e⟩ := (mem_vlist h v).1 hv
  refine ⟨E, (h.goodV v.id p E hx).2, by rw [e]; rfl, ⟨p, hx⟩, mdo_edges (o := ⟨11, ⟨#[]⟩, 0, 0, v.id, 0⟩) rfl hx⟩
theorem later_edges {S T : St} (h : Later S T) {id p : Int} {E : List Pr} (hid : id < S.next) (hx : aget S.vers id = some (p, E)) : mdo T ⟨11, ⟨#[]⟩, 0, 0, id, 0⟩ = (T, { pairs := E }) ∨ mdo T ⟨11, ⟨#[]⟩, 0, 0, id, 0⟩ = (T, { err := 190 }) := by
  rcases h.kept id hid with e | e
  · exact .inr (mdo_edges_none (o := ⟨11, ⟨#[]⟩, 0, 0, id, 0⟩) rfl e)
  · exact .inl (mdo_edges (o := ⟨11, ⟨#[]⟩, 0, 0, id, 0⟩) rfl (x := (p, E)) (by rw [e]; exact hx))
end Md
end Go.Proofs.YtabpgejjnphfcaaGreat
