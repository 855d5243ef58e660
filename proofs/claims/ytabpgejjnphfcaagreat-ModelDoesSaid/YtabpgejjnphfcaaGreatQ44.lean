/-
  Rows of rows of pairs, and what ModelStays rests on. It proves no statement by itself.
-/
import Derived.Test.YtabpgejjnphfcaaGreatKWB
import Derived.Test.YtabpgejjnphfcaaGreatQ43
namespace Go.Proofs.YtabpgejjnphfcaaGreat
open Go.RowKit Go.Lib Go.MapKept
open Md (Nm St)
set_option linter.unusedSimpArgs false
set_option linter.unusedVariables false
set_option linter.unusedSectionVars false
/-- A slice value in parts. -/
abbrev Sl3 := Option Addr × Nat × Nat
def encSl (x : Sl3) : List Value := [.slice x.1 x.2.1 x.2.2]
theorem encSl_ok : Enc encSl 1 := ⟨fun _ => rfl, fun x u hu => by simp [encSl] at hu; rw [hu]; rfl⟩
theorem Tryz.rowSl : RowTy Tryz.prog 42 22 1 24 := ⟨Tryz.underlying42, ⟨.slice none 0 0, rfl, by kernel_rfl⟩, by omega⟩
abbrev RowSl (v : Value) (l : List Sl3) : Asn := RowOf 22 1 encSl v l
/-- Rows of pairs, each owned. -/
def Own : List (Sl3 × List Pr) → Asn
  | [] => emp
  | x :: l => RowP (.slice x.1.1 x.1.2.1 x.1.2.2) x.2 * Own l
theorem own_append (l m : List (Sl3 × List Pr)) : Own (l ++ m) = Own l * Own m := by
  induction l with
  | nil => show Own m = emp * Own m; rw [star_emp]
  | cons x l ih => show RowP _ _ * Own (l ++ m) = (RowP _ _ * Own l) * Own m; rw [ih, star_assoc]
theorem own_snoc {l : List (Sl3 × List Pr)} {a : Option Addr} {n c : Nat} {E : List Pr} {F : Asn} {w : World} (H : Sat (RowP (.slice a n c) E * (Own l * F)) w) : Sat (Own (l ++ [((a, n, c), E)]) * F) w := by
  refine H.of_eq ?_
  rw [own_append]
  show _ = (Own l * (RowP (.slice a n c) E * emp)) * F
  rw [emp_star]
  ac_rfl
theorem own_reads : ∀ (l : List (Sl3 × List Pr)) (F : Asn) (w : World), (∀ x ∈ l, x.2.length ≤ 1000000) → Sat (Own l * F) w → ∀ (k : Nat) (hk : k < l.length), ReadsP (Own l * F) (.slice l[k].1.1 l[k].1.2.1 l[k].1.2.2) l[k].2
  | x :: l, F, w, hl, H, 0, hk => by
    have H1 : Sat (RowP (.slice x.1.1 x.1.2.1 x.1.2.2) x.2 * (Own l * F)) w := H.of_eq (by show (RowP _ _ * Own l) * F = _; rw [star_assoc])
    exact readsP_imp (readsP_row H1 (hl x (by simp))) fun W hW => hW.of_eq (by show (RowP _ _ * Own l) * F = _; rw [star_assoc]; rfl)
  | x :: l, F, w, hl, H, k + 1, hk => by
    have e : Own (x :: l) * F = Own l * (RowP (.slice x.1.1 x.1.2.1 x.1.2.2) x.2 * F) := by show (RowP _ _ * Own l) * F = _; ac_rfl
    have := own_reads l (RowP (.slice x.1.1 x.1.2.1 x.1.2.2) x.2 * F) w (fun y hy => hl y (by simp [hy])) (H.of_eq e) k (by simpa using hk)
    exact readsP_imp this fun W hW => hW.of_eq e
theorem readsSl_get {F : Asn} {a : Option Addr} {n c : Nat} {l : List Sl3} (hl : Reads encSl F (.slice a n c) l) (k : Nat) (hk : k < l.length) : ∃ b off, a = some ⟨b, off, none⟩ ∧ ∀ w, Sat F w → w.cell? ⟨b, off + k, none⟩ = some (.slice l[k].1 l[k].2.1 l[k].2.2) := by
  obtain ⟨b, off, h1, h2⟩ := hl.get encSl_ok k hk
  exact ⟨b, off, h1, fun w hw => by simpa using h2 w hw 0 _ (by omega) rfl⟩
theorem ms_tail {x : Mh × St} {l : List (Mh × St)} {F : Asn} {w : World} (H : Sat (Ms (x :: l) * F) w) : ∃ G, Sat (Ms l * (G * F)) w := by
  obtain ⟨h, T⟩ := x
  obtain ⟨p, S, h1, H1⟩ := ms_open.1 H
  refine ⟨ModelAt h S, ?_⟩
  unfold Ms
  rw [sat_ex]
  exact ⟨p, H1.of_eq (by ac_rfl)⟩
namespace Md
theorem vlist_next {k : Nat} {S : St} (h : Inv k S) {v : Ver} (hv : v ∈ vlist S) : v.id < S.next := by
  obtain ⟨x, hx, _⟩ := (mem_vlist h v).1 hv
  exact (h.ids v.id (by rw [hx]; rfl)).2
theorem vlist_edges {k : Nat} {S : St} (h : Inv k S) {v : Ver} (hv : v ∈ vlist S) : ∃ E : List Pr, E.length ≤ k ∧ v.edges = (E.length : Int) ∧ (∃ p, aget S.vers v.id = some (p, E)) ∧ mdo S ⟨11, ⟨#[]⟩, 0, 0, v.id, 0⟩ = (S, { pairs := E }) := by
  obtain ⟨⟨p, E⟩, hx, e⟩ := (mem_vlist h v).1 hv
  refine ⟨E, (h.goodV v.id p E hx).2, by rw [e]; rfl, ⟨p, hx⟩, mdo_edges (o := ⟨11, ⟨#[]⟩, 0, 0, v.id, 0⟩) rfl hx⟩
theorem later_edges {S T : St} (h : Later S T) {id p : Int} {E : List Pr} (hid : id < S.next) (hx : aget S.vers id = some (p, E)) : mdo T ⟨11, ⟨#[]⟩, 0, 0, id, 0⟩ = (T, { pairs := E }) ∨ mdo T ⟨11, ⟨#[]⟩, 0, 0, id, 0⟩ = (T, { err := 190 }) := by
  rcases h.kept id hid with e | e
  · exact .inr (mdo_edges_none (o := ⟨11, ⟨#[]⟩, 0, 0, id, 0⟩) rfl e)
  · exact .inl (mdo_edges (o := ⟨11, ⟨#[]⟩, 0, 0, id, 0⟩) rfl (x := (p, E)) (by rw [e]; exact hx))
end Md
end Go.Proofs.YtabpgejjnphfcaaGreat

/-
  The document's model on the heap; its small functions, by walks. It proves no statement by itself.
-/
namespace Go.Proofs.YtabpgejjnphfcaaGreat
open Go.RowKit
open Go.Lib
open Md (Nm St)
set_option linter.unusedSimpArgs false
set_option linter.unusedVariables false
set_option linter.unusedSectionVars false
abbrev slv (s : Sl3) : Value := .slice s.1 s.2.1 s.2.2
structure Dx where
  b : Nat
  l : Nat
  vv : Value
  vb : Value
  ve : Value
  vq : Value
  vd : Value
  V : List Md.Ver
  B : List Md.Br
  E : List (Sl3 × List Pr)
  Q : List (Sl3 × List Pr)
  D : List Bool
  n : Int
def Dx.dv (x : Dx) : Md.Dv := ⟨x.V, x.B, x.E.map (·.2), x.Q.map (·.2), x.D, x.n⟩
abbrev Dx.ptr (x : Dx) : Value := .pointer (some ⟨x.b, 0, none⟩)
structure Dx.Ok (p : Pl) (x : Dx) : Prop where
  e : ∀ y ∈ x.E, Held p (slv y.1) y.2
  q : ∀ y ∈ x.Q, Held p (slv y.1) y.2
theorem Dx.Ok.more {p q : Pl} {x : Dx} (h : x.Ok p) (hs : ∀ e ∈ p, e ∈ q) : x.Ok q := ⟨fun y hy => (h.e y hy).more hs, fun y hy => (h.q y hy).more hs⟩
def DMC (x : Dx) : Asn := pts x.b (.cells #[lptr x.l, x.ve, x.vq, x.vd, .int .i64 x.n] 95 (0, 0))
def DRows (x : Dx) : Asn := RowSl x.ve (x.E.map (·.1)) * (RowSl x.vq (x.Q.map (·.1)) * RowBo x.vd x.D)
def DAt (x : Dx) : Asn := LAt x.l x.vv x.vb x.V x.B * (DMC x * DRows x)
/-- How long its lists are. -/
structure Dx.Fit (x : Dx) : Prop where
  v : x.V.length ≤ 1000
  b : x.B.length ≤ 1000
  e : x.E.length = x.V.length
  q : x.Q.length = x.B.length
  d : x.D.length = x.B.length
section
variable {F : Asn} {w : World} {R : Ending → World → Prop} {x : Dx}
theorem DAt.asL (H : Sat (DAt x * F) w) : Sat (LAt x.l x.vv x.vb x.V x.B * (DMC x * (DRows x * F))) w := H.of_eq (by unfold DAt; ac_rfl)
theorem DAt.ofL (H : Sat (LAt x.l x.vv x.vb x.V x.B * (DMC x * (DRows x * F))) w) : Sat (DAt x * F) w := H.of_eq (by unfold DAt; ac_rfl)
theorem DAt.asM (H : Sat (DAt x * F) w) : Sat (DMC x * (LAt x.l x.vv x.vb x.V x.B * (DRows x * F))) w := H.of_eq (by unfold DAt; ac_rfl)
theorem DAt.asE (H : Sat (DAt x * F) w) : Sat (RowSl x.ve (x.E.map (·.1)) * (LAt x.l x.vv x.vb x.V x.B * (DMC x * (RowSl x.vq (x.Q.map (·.1)) * (RowBo x.vd x.D * F))))) w := H.of_eq (by unfold DAt DRows; ac_rfl)
theorem DAt.asQ (H : Sat (DAt x * F) w) : Sat (RowSl x.vq (x.Q.map (·.1)) * (LAt x.l x.vv x.vb x.V x.B * (DMC x * (RowSl x.ve (x.E.map (·.1)) * (RowBo x.vd x.D * F))))) w := H.of_eq (by unfold DAt DRows; ac_rfl)
theorem DAt.asD (H : Sat (DAt x * F) w) : Sat (RowBo x.vd x.D * (LAt x.l x.vv x.vb x.V x.B * (DMC x * (RowSl x.ve (x.E.map (·.1)) * (RowSl x.vq (x.Q.map (·.1)) * F))))) w := H.of_eq (by unfold DAt DRows; ac_rfl)
theorem DAt.cells (H : Sat (DAt x * F) w) : w.cell? ⟨x.b, 0, none⟩ = some (lptr x.l) ∧ w.cell? ⟨x.b, 1, none⟩ = some x.ve ∧ w.cell? ⟨x.b, 2, none⟩ = some x.vq ∧ w.cell? ⟨x.b, 3, none⟩ = some x.vd ∧ w.cell? ⟨x.b, 4, none⟩ = some (.int .i64 x.n) := by
  have k := (DAt.asM H)
  unfold DMC at k
  have k := k.left.at
  exact ⟨Sat.read k 0, Sat.read k 1, Sat.read k 2, Sat.read k 3, Sat.read k 4⟩
theorem DAt.lcells (H : Sat (DAt x * F) w) : w.cell? ⟨x.l, 0, none⟩ = some x.vv ∧ w.cell? ⟨x.l, 1, none⟩ = some x.vb := LAt.cells (DAt.asL H)
theorem DAt.free (H : Sat (DAt x * F) w) (i : Nat) : w.frozen? ⟨x.b, i, none⟩ = false := by
  have k := (DAt.asM H)
  unfold DMC at k
  exact Sat.free k.left.at i
theorem DAt.shE (H : Sat (DAt x * F) w) : ∃ a c, x.ve = .slice a x.E.length c := by have := rowOf_shape (DAt.asE H); rwa [List.length_map] at this
theorem DAt.shQ (H : Sat (DAt x * F) w) : ∃ a c, x.vq = .slice a x.Q.length c := by have := rowOf_shape (DAt.asQ H); rwa [List.length_map] at this
theorem DAt.shD (H : Sat (DAt x * F) w) : ∃ a c, x.vd = .slice a x.D.length c := rowOf_shape (DAt.asD H)
theorem DAt.shV (H : Sat (DAt x * F) w) : ∃ a c, x.vv = .slice a x.V.length c := (LAt.shape (DAt.asL H)).1
theorem DAt.shB (H : Sat (DAt x * F) w) : ∃ a c, x.vb = .slice a x.B.length c := (LAt.shape (DAt.asL H)).2
/-- A place of the versions' edges. -/
theorem DAt.getE (H : Sat (DAt x * F) w) (hl : x.E.length ≤ 1000000) (k : Nat) (hk : k < x.E.length) : ∃ b off c, x.ve = .slice (some ⟨b, off, none⟩) x.E.length c ∧ ∀ W, Sat (DAt x * F) W → W.cell? ⟨b, off + k, none⟩ = some (slv x.E[k].1) := by
  obtain ⟨a, c, e⟩ := DAt.shE H
  have hr := (Reads.of_row (DAt.asE H) (by rw [List.length_map]; exact hl)).imp (G := DAt x * F) fun _ h => DAt.asE h
  rw [e] at hr
  obtain ⟨b, off, h1, h2⟩ := readsSl_get hr k (by rw [List.length_map]; exact hk)
  subst h1
  exact ⟨b, off, c, e, fun W hW => by have := h2 W hW; rwa [List.getElem_map] at this⟩
theorem DAt.getQ (H : Sat (DAt x * F) w) (hl : x.Q.length ≤ 1000000) (k : Nat) (hk : k < x.Q.length) : ∃ b off c, x.vq = .slice (some ⟨b, off, none⟩) x.Q.length c ∧ ∀ W, Sat (DAt x * F) W → W.cell? ⟨b, off + k, none⟩ = some (slv x.Q[k].1) := by
  obtain ⟨a, c, e⟩ := DAt.shQ H
  have hr := (Reads.of_row (DAt.asQ H) (by rw [List.length_map]; exact hl)).imp (G := DAt x * F) fun _ h => DAt.asQ h
  rw [e] at hr
  obtain ⟨b, off, h1, h2⟩ := readsSl_get hr k (by rw [List.length_map]; exact hk)
  subst h1
  exact ⟨b, off, c, e, fun W hW => by have := h2 W hW; rwa [List.getElem_map] at this⟩
theorem DAt.getD (H : Sat (DAt x * F) w) (hl : x.D.length ≤ 1000000) (k : Nat) (hk : k < x.D.length) : ∃ b off c, x.vd = .slice (some ⟨b, off, none⟩) x.D.length c ∧ ∀ W, Sat (DAt x * F) W → W.cell? ⟨b, off + k, none⟩ = some (.bool x.D[k]) := by
  obtain ⟨a, c, e⟩ := DAt.shD H
  have hr := (Reads.of_row (DAt.asD H) hl).imp (G := DAt x * F) fun _ h => DAt.asD h
  rw [e] at hr
  obtain ⟨b, off, h1, h2⟩ := hr.get encBo_ok k hk
  subst h1
  exact ⟨b, off, c, e, fun W hW => by have := h2 W hW 0 (.bool x.D[k]) (by omega) rfl; simpa using this⟩
theorem DAt.getB (H : Sat (DAt x * F) w) (hl : x.B.length ≤ 1000000) (k : Nat) (hk : k < x.B.length) : ∃ b off c, x.vb = .slice (some ⟨b, off, none⟩) x.B.length c ∧ ∀ W, Sat (DAt x * F) W → W.cell? ⟨b, off + k * 2 + 1, none⟩ = some (.int .i64 x.B[k].head) := by
  obtain ⟨a, c, e⟩ := DAt.shB H
  have hr := (LAt.readB (DAt.asL H) hl).imp (G := DAt x * F) fun _ h => DAt.asL h
  rw [e] at hr
  obtain ⟨b, off, nm, hd, h1, h2, h3⟩ := dreadsB_get hr k hk
  subst h1
  exact ⟨b, off, c, e, fun W hW => by rw [h2]; exact (h3 W hW).2⟩
set_option maxRecDepth 100000 in
theorem rfail_any (e : Int) (H : Sat F w) (h : ∀ w', Sat F w' → Io w w' → R (.returned (ansV (Md.fail e) nil4)) w') : Calls Tryz.prog 58 #[.int .i64 e] w R := by
  have HH := Lib.hid h
  clear h
  have H0 := ansZ_new H
  have I0 := io_ansZ w
  go_enter Tryz.func58, Tryz.ntmps58
  go_upto_region 1 with fail
  generalize w.alloc (.cells #[.int .i64 0, .int .i64 0, .bool false, .int .i64 0, .slice none 0 0, .slice none 0 0, .slice none 0 0, .slice none 0 0] 37) = w0 at *
  generalize w.heap.size = r at *
  go_wp2_with (with_reducible refine store_ans rfl (.tmp 2) (.tmp 4) rfl rfl nil4_fit (A := Md.fail e) H0 rfl ?_; intro w2 H2 I2; obtain ⟨d0, d1, d2, d3, d4, d5, d6, d7⟩ := ansA_reads H2)
  exact bodyPost_ret (v := ansV (Md.fail e) nil4) (by simp [results, Tryz.results58, go_sem, d0, d1, d2, d3, d4, d5, d6, d7]) rfl (HH.out _ H2.right (I0.trans I2))
set_option maxRecDepth 100000 in
set_option maxHeartbeats 4000000 in
/-- A version's edges. -/
theorem rof_any (id : Int) (fx : x.Fit) (h1 : Md.vplace x.V id < x.V.length) {s : Sl3} (hs : Hid (∀ (h3 : Md.vplace x.V id < x.E.length), (x.E[Md.vplace x.V id]'h3).1 = s)) (H : Sat (DAt x * F) w) (hh : ∀ w', Sat (DAt x * F) w' → Io w w' → R (.returned (slv s)) w') :
    Calls Tryz.prog 86 #[x.ptr, .int .i64 id] w R := by
  have HH := Lib.hid hh
  clear hh
  obtain ⟨f1, f2, f3, f4, f5⟩ := fx
  have hV3 : Hid ((Md.vplace x.V id : Int) = Md.vnum x.V id) := Lib.hid (by unfold Md.vnum; rw [if_pos h1])
  obtain ⟨be, oe, ce, he, hg⟩ := DAt.getE H (by omega) (Md.vplace x.V id) (by omega)
  rw [hs.out] at hg
  generalize Md.vplace x.V id = q at *
  have hq0 : (0 : Int) ≤ (q : Int) := by omega
  have hql : (q : Int) < (x.E.length : Int) := by omega
  have HZ := Lib.hid (fun W (hW : Sat (DAt x * F) W) => (⟨(DAt.cells hW).1, (by rw [← he]; exact (DAt.cells hW).2.1), hg W hW⟩ : W.cell? ⟨x.b, 0, none⟩ = some (lptr x.l) ∧ W.cell? ⟨x.b, 1, none⟩ = some (.slice (some ⟨be, oe, none⟩) x.E.length ce) ∧ W.cell? ⟨be, oe + q, none⟩ = some (slv s)))
  have Z0 := HZ.out _ H.drew
  have LL := DAt.asL H.drew
  clear hg he hs
  go_enter Tryz.func86, Tryz.ntmps86
  go_wp2_with fail
  go_region_held3 (fun W => W.cell? ⟨x.b, 0, none⟩ = some (lptr x.l) ∧ W.cell? ⟨x.b, 1, none⟩ = some (.slice (some ⟨be, oe, none⟩) x.E.length ce) ∧ W.cell? ⟨be, oe + q, none⟩ = some (slv s)) (first | exact Z0 | exact Z1) ((go_at_call 77; with_reducible refine rfind_any id (by omega) LL hV3 ?_; intro w1 H1 I1; have K1 := DAt.ofL H1; have Z1 := HZ.out _ K1))
  all_goals
    go_wp2_with fail
    exact HH.out _ K1 ((Io.refl _).drew.trans I1)
set_option maxRecDepth 100000 in
set_option maxHeartbeats 4000000 in
/-- A branch's edges. -/
theorem rnow_any (i : Nat) (fx : x.Fit) (hi : i < x.B.length) {s : Sl3} (hs : Hid (∀ (h1 : i < x.D.length) (h2 : i < x.Q.length), if (x.D[i]'h1) then (x.Q[i]'h2).1 = s else Md.vplace x.V (x.B[i]'hi).head < x.V.length ∧ ∀ (h3 : Md.vplace x.V (x.B[i]'hi).head < x.E.length), (x.E[Md.vplace x.V (x.B[i]'hi).head]'h3).1 = s)) (H : Sat (DAt x * F) w) (hh : ∀ w', Sat (DAt x * F) w' → Io w w' → R (.returned (slv s)) w') :
    Calls Tryz.prog 80 #[x.ptr, .int .i64 (i : Int)] w R := by
  have HH := Lib.hid hh
  clear hh
  have fx' := fx
  obtain ⟨f1, f2, f3, f4, f5⟩ := fx'
  have hs2 := hs.out (by omega) (by omega)
  obtain ⟨bd, od, cd, hd, hgd⟩ := DAt.getD H (by omega) i (by omega)
  obtain ⟨bq, oq, cq, hq, hgq⟩ := DAt.getQ H (by omega) i (by omega)
  obtain ⟨bb, ob, cb, hb, hgb⟩ := DAt.getB H (by omega) i (by omega)
  obtain ⟨c0, c1, c2, c3, c4⟩ := DAt.cells H
  obtain ⟨l0, l1⟩ := DAt.lcells H
  rw [hq] at c2
  rw [hd] at c3
  rw [hb] at l1
  have gd := hgd w H
  have gq := hgq w H
  have gb := hgb w H
  have hi0 : (0 : Int) ≤ (i : Int) := by omega
  have hiD : (i : Int) < (x.D.length : Int) := by omega
  have hiQ : (i : Int) < (x.Q.length : Int) := by omega
  have hiB : (i : Int) < (x.B.length : Int) := by omega
  generalize hdd : x.D[i]'(by omega) = d at *
  generalize hhd : (x.B[i]'hi).head = hd0 at *
  clear hgd hgq hgb hd hq hb hdd
  cases d with
  | true =>
    simp only [if_true] at hs2
    rw [hs2] at gq
    clear hs
    go_enter Tryz.func80, Tryz.ntmps80
    go_wp2_with fail
    exact HH.out _ H (Io.refl _)
  | false =>
    simp only [Bool.false_eq_true, if_false] at hs2
    obtain ⟨h1, h2⟩ := hs2
    have HS := Lib.hid h2
    have HF := Lib.hid fx
    clear hs h2 fx
    go_enter Tryz.func80, Tryz.ntmps80
    go_wp2_with (go_at_call 86; with_reducible refine rof_any hd0 HF.out h1 HS H ?_; intro w1 H1 I1)
    exact HH.out _ H1 I1
theorem DAt.setD {v : List Bool} (H : Sat (RowBo x.vd v * (LAt x.l x.vv x.vb x.V x.B * (DMC x * (RowSl x.ve (x.E.map (·.1)) * (RowSl x.vq (x.Q.map (·.1)) * F))))) w) : Sat (DAt { x with D := v } * F) w := H.of_eq (by unfold DAt DRows DMC; ac_rfl)
theorem encBo_set (a b : Bool) : encBo b = (encBo a).set 0 (.bool b) := rfl
/-- A truth value is stored. -/
theorem DAt.storeD {g c : Nat} (hv : x.vd = .slice (some ⟨g, 0, none⟩) x.D.length c) (H : Sat (DAt x * F) w) (k : Nat) (hk : k < x.D.length) (b : Bool) : Sat (DAt { x with D := x.D.set k b } * F) (w.setCell ⟨g, k, none⟩ (.bool b)) := by
  have H1 := DAt.asD H
  rw [hv] at H1
  have H2 := rowOf_set encBo_ok H1 k hk 0 (by omega) b (.bool b) (encBo_set _ _)
  rw [← hv] at H2
  simpa using DAt.setD H2
theorem DAt.freeD {g c : Nat} (hv : x.vd = .slice (some ⟨g, 0, none⟩) x.D.length c) (H : Sat (DAt x * F) w) (k : Nat) : w.frozen? ⟨g, k, none⟩ = false := by
  have H1 := DAt.asD H
  rw [hv] at H1
  exact row_free H1 k
theorem DAt.shD_ne (hne : x.D ≠ []) (H : Sat (DAt x * F) w) : ∃ g c, x.vd = .slice (some ⟨g, 0, none⟩) x.D.length c := rowOf_shape_ne hne (DAt.asD H)
theorem DAt.readD {g c : Nat} (hv : x.vd = .slice (some ⟨g, 0, none⟩) x.D.length c) (H : Sat (DAt x * F) w) (k : Nat) (hk : k < x.D.length) : w.cell? ⟨g, k, none⟩ = some (.bool x.D[k]) := by
  have H1 := DAt.asD H
  rw [hv] at H1
  refine row_read H1 k _ ?_
  have := cellsOf_get encBo_ok x.D k hk 0 (by omega)
  simpa [encBo] using this
def loseTo (D : List Bool) (k : Nat) : List Bool := List.replicate k false ++ D.drop k
theorem loseTo_zero (D : List Bool) : loseTo D 0 = D := by simp [loseTo]
theorem loseTo_len {D : List Bool} {k : Nat} (h : k ≤ D.length) : (loseTo D k).length = D.length := by simp [loseTo]; omega
theorem loseTo_all (D : List Bool) : loseTo D D.length = D.map fun _ => false := by
  unfold loseTo
  rw [List.drop_length, List.append_nil]
  refine List.ext_getElem (by simp) fun i h1 h2 => by simp
theorem loseTo_succ {D : List Bool} {k : Nat} (h : k < D.length) : (loseTo D k).set k false = loseTo D (k + 1) := by
  unfold loseTo
  rw [List.set_append_right _ _ (by simp), List.length_replicate, Nat.sub_self, List.drop_eq_getElem_cons h, List.set_cons_zero, List.replicate_succ', List.append_assoc]
  rfl
set_option maxRecDepth 100000 in
set_option maxHeartbeats 4000000 in
theorem rlose_any (hl : x.D.length ≤ 1000) (H : Sat (DAt x * F) w) (hh : ∀ w', Sat (DAt { x with D := x.D.map fun _ => false } * F) w' → Io w w' → R (.returned (.tuple #[])) w') :
    Calls Tryz.prog 25 #[x.ptr] w R := by
  have HH := Lib.hid hh
  clear hh
  obtain ⟨a, c, ev⟩ := DAt.shD H
  have HEV := Lib.hid ev
  have H0 : Sat (DAt { x with D := loseTo x.D 0 } * F) w := by rw [loseTo_zero]; exact H
  have HC := Lib.hid (fun (D : List Bool) W (hW : Sat (DAt { x with D := D } * F) W) => (by have := (DAt.cells hW).2.2.2.1; rw [ev] at this; exact this : W.cell? ⟨x.b, 3, none⟩ = some (.slice a x.D.length c)))
  clear ev
  go_enter Tryz.func25, Tryz.ntmps25
  go_wp2_with fail
  go_loopw [2] (fun z wr => ∃ k : Nat, k ≤ x.D.length ∧ z = .int .i64 (k : Int) ∧ Sat (DAt { x with D := loseTo x.D k } * F) wr ∧ Io w wr) (fun z _ => x.D.length - (RowKit.intOf z).toNat)
  case atStart => exact ⟨0, by omega, rfl, H0, Io.refl _⟩
  case round =>
    obtain ⟨k, hk, rfl, Hk, Ik⟩ := hrel
    have c3 := HC.out _ _ Hk
    by_cases hlt : k < x.D.length
    · have hlti : (k : Int) < (x.D.length : Int) := by omega
      have hk0 : (0 : Int) ≤ (k : Int) := by omega
      have hlen := loseTo_len (D := x.D) (k := k) (by omega)
      obtain ⟨g, c', e2⟩ := DAt.shD_ne (x := { x with D := loseTo x.D k }) (by intro e; have := congrArg List.length e; simp only [hlen, List.length_nil] at this; omega) Hk
      have e3 := HEV.out
      simp only at e2
      rw [e3, hlen] at e2
      cases e2
      have e4 : ({ x with D := loseTo x.D k } : Dx).vd = .slice (some ⟨g, 0, none⟩) ({ x with D := loseTo x.D k } : Dx).D.length c := by simp only; rw [hlen]; exact e3
      have rd := DAt.readD e4 Hk k (by simp only; omega)
      have fr := DAt.freeD e4 Hk k
      have H1 := DAt.storeD e4 Hk k (by simp only; omega) false
      have I1 := Ik.setCell ⟨g, k, none⟩ (.bool false)
      simp only at rd H1
      rw [loseTo_succ hlt] at H1
      clear e3 e4
      go_wp2_with fail
      go_roundw
      case rel => exact ⟨k + 1, by omega, by go_num, H1, I1⟩
      case measure => simp [RowKit.intOf]; omega
    · obtain rfl : k = x.D.length := by omega
      have hge : ¬ (x.D.length : Int) < (x.D.length : Int) := by omega
      rw [loseTo_all] at Hk
      go_wp2_with fail
      go_end0
      exact HH.out _ Hk Ik
end
end Go.Proofs.YtabpgejjnphfcaaGreat

/-
  The document's model stands for the model's state; which vertices are wrong, pairs, by walks. It proves no statement by itself.
-/
namespace Go.Proofs.YtabpgejjnphfcaaGreat
open Go.RowKit
open Go.Lib
open Md (Nm St)
set_option linter.unusedSimpArgs false
set_option linter.unusedVariables false
set_option linter.unusedSectionVars false
structure DocOk (k : Nat) (S : St) (p : Pl) (x : Dx) : Prop where
  inv : Md.Inv k S
  sim : Md.Sim S x.dv
  ok : x.Ok p
  ne : x.B ≠ []
section
variable {k : Nat} {S : St} {p : Pl} {x : Dx}
theorem DocOk.fit (h : DocOk k S p x) (hk : k ≤ 500) : x.Fit where
  v := by have h1 : x.V = Md.vlist S := h.sim.v; rw [h1, Md.vlist_len]; have := h.inv.nv; omega
  b := by have h1 : x.B = Md.blist S := h.sim.b; rw [h1, Md.blist_len]; have := h.inv.nh; omega
  e := by have := h.sim.le; simpa [Dx.dv] using this
  q := by have := h.sim.lq; simpa [Dx.dv] using this
  d := h.sim.ld
theorem DocOk.bsome (h : DocOk k S p x) (n : Nm) : Md.bplace x.B n < x.B.length ↔ (aget S.heads n).isSome = true := h.sim.bsome h.inv n
theorem DocOk.vsome (h : DocOk k S p x) (id : Int) : Md.vplace x.V id < x.V.length ↔ (aget S.vers id).isSome = true := h.sim.vsome h.inv id
theorem DocOk.bnum (h : DocOk k S p x) (n : Nm) : Md.bnum x.B n = if (aget S.heads n).isSome = true then (Md.bplace x.B n : Int) else -1 := by
  unfold Md.bnum
  have := h.bsome n
  by_cases c : (aget S.heads n).isSome = true
  · rw [if_pos c, if_pos (this.2 c)]
  · rw [if_neg c, if_neg (fun e => c (this.1 e))]
theorem DocOk.vnum (h : DocOk k S p x) (id : Int) : Md.vnum x.V id = if (aget S.vers id).isSome = true then (Md.vplace x.V id : Int) else -1 := by
  unfold Md.vnum
  have := h.vsome id
  by_cases c : (aget S.vers id).isSome = true
  · rw [if_pos c, if_pos (this.2 c)]
  · rw [if_neg c, if_neg (fun e => c (this.1 e))]
/-- A version's row. -/
theorem DocOk.of (h : DocOk k S p x) {id : Int} (hs : (aget S.vers id).isSome = true) : ∃ s : Sl3, (∀ (h3 : Md.vplace x.V id < x.E.length), (x.E[Md.vplace x.V id]'h3).1 = s) ∧ Held p (slv s) (Md.vget S id).2 := by
  have h1 := (h.vsome id).2 hs
  have hl : x.E.length = x.V.length := by have := h.sim.le; simpa [Dx.dv] using this
  have h2 : Md.vplace x.V id < x.E.length := by omega
  refine ⟨(x.E[Md.vplace x.V id]'h2).1, fun _ => rfl, ?_⟩
  have h4 := h.sim.of h.inv hs
  have h5 : x.dv.of id = (x.E[Md.vplace x.V id]'h2).2 := by
    unfold Md.Dv.of Dx.dv
    simp only [List.getD_eq_getElem?_getD, List.getElem?_map, List.getElem?_eq_getElem h2]
    rfl
  rw [← h4, h5]
  exact h.ok.e _ (List.getElem_mem h2)
/-- A branch's row. -/
theorem DocOk.now (h : DocOk k S p x) {n : Nm} (hn : (aget S.heads n).isSome = true) (hi : Md.bplace x.B n < x.B.length) : ∃ s : Sl3, (∀ (h1 : Md.bplace x.B n < x.D.length) (h2 : Md.bplace x.B n < x.Q.length), if (x.D[Md.bplace x.B n]'h1) then (x.Q[Md.bplace x.B n]'h2).1 = s else Md.vplace x.V (x.B[Md.bplace x.B n]'hi).head < x.V.length ∧ ∀ (h3 : Md.vplace x.V (x.B[Md.bplace x.B n]'hi).head < x.E.length), (x.E[Md.vplace x.V (x.B[Md.bplace x.B n]'hi).head]'h3).1 = s) ∧ Held p (slv s) (Md.now S n) := by
  have hq : x.Q.length = x.B.length := by have := h.sim.lq; simpa [Dx.dv] using this
  have hd : x.D.length = x.B.length := h.sim.ld
  have h1 : Md.bplace x.B n < x.D.length := by omega
  have h2 : Md.bplace x.B n < x.Q.length := by omega
  have hh : (x.B[Md.bplace x.B n]'hi).head = Md.hget S n := h.sim.head h.inv (n := n) hi
  have h6 := h.sim.p (Md.bplace x.B n) hi
  have h7 : (x.B[Md.bplace x.B n]'hi).name = n := Md.bplace_get hi
  cases hc : x.D[Md.bplace x.B n]'h1 with
  | true =>
    refine ⟨(x.Q[Md.bplace x.B n]'h2).1, fun _ _ => by rw [hc, if_pos rfl], ?_⟩
    have e : aget S.pend n = some (x.Q[Md.bplace x.B n]'h2).2 := by
      have : aget S.pend (x.B[Md.bplace x.B n]'hi).name = _ := h6
      rw [h7] at this
      rw [this]
      simp [Dx.dv, hc]
    unfold Md.now
    rw [e]
    exact h.ok.q _ (List.getElem_mem h2)
  | false =>
    obtain ⟨hdd, ehd⟩ := Option.isSome_iff_exists.1 hn
    have hg : Md.hget S n = hdd := by unfold Md.hget; rw [ehd]; rfl
    have hv : (aget S.vers (Md.hget S n)).isSome = true := by rw [hg]; exact h.inv.head n hdd ehd
    obtain ⟨s, hs1, hs2⟩ := h.of hv
    refine ⟨s, fun _ _ => ?_, ?_⟩
    · rw [hc, if_neg (by simp)]
      simp only [hh]
      exact ⟨(h.vsome _).2 hv, hs1⟩
    · have e : aget S.pend n = none := by
        have : aget S.pend (x.B[Md.bplace x.B n]'hi).name = _ := h6
        rw [h7] at this
        rw [this]
        simp [Dx.dv, hc]
      unfold Md.now
      rw [e]
      exact hs2
end
section
variable {F : Asn} {w : World} {R : Ending → World → Prop} {x : Dx}
theorem rowOf_free {α : Type} {enc : α → List Value} {sz : Nat} {e : TypeId} {g n c : Nat} {l : List α} (H : Sat (RowOf e sz enc (.slice (some ⟨g, 0, none⟩) n c) l * F) w) (k : Nat) : w.frozen? ⟨g, k, none⟩ = false := by
  obtain ⟨hl, ⟨h0, _⟩ | ⟨g', cap, cur, e1, e2, e3, e4, e5, h⟩⟩ := sat_row.1 H
  · cases h0
  · cases e1
    exact Sat.free h.left.at k
theorem rowOf_read {α : Type} {enc : α → List Value} {sz : Nat} (he : Enc enc sz) {e : TypeId} {g n c : Nat} {l : List α} (H : Sat (RowOf e sz enc (.slice (some ⟨g, 0, none⟩) n c) l * F) w) (k : Nat) (hk : k < l.length) (i : Nat) (hi : i < sz) (u : Value) (hu : (enc l[k])[i]? = some u) : w.cell? ⟨g, k * sz + i, none⟩ = some u := by
  have hn : n = l.length := by
    obtain ⟨hx, ⟨h0, _⟩ | ⟨g', cap, cur, e1, _⟩⟩ := sat_row.1 H
    · cases h0
    · cases e1; rfl
  subst hn
  exact row_read H (k * sz + i) u (by rw [cellsOf_get he l k hk i hi]; exact hu)
theorem DAt.setQ {v : List (Sl3 × List Pr)} (H : Sat (RowSl x.vq (v.map (·.1)) * (LAt x.l x.vv x.vb x.V x.B * (DMC x * (RowSl x.ve (x.E.map (·.1)) * (RowBo x.vd x.D * F))))) w) : Sat (DAt { x with Q := v } * F) w := H.of_eq (by
  show _ = LAt x.l x.vv x.vb x.V x.B * (DMC x * (RowSl x.ve (x.E.map (·.1)) * (RowSl x.vq (v.map (·.1)) * RowBo x.vd x.D))) * F
  ac_rfl)
theorem DAt.storeQ {g c : Nat} (hv : x.vq = .slice (some ⟨g, 0, none⟩) x.Q.length c) (H : Sat (DAt x * F) w) (k : Nat) (hk : k < x.Q.length) (s : Sl3) (l : List Pr) : Sat (DAt { x with Q := x.Q.set k (s, l) } * F) (w.setCell ⟨g, k, none⟩ (slv s)) := by
  have H1 := DAt.asQ H
  rw [hv] at H1
  have H2 := rowOf_set encSl_ok H1 k (by rw [List.length_map]; exact hk) 0 (by omega) s (slv s) (by simp [encSl])
  rw [← hv] at H2
  have e : (x.Q.map (·.1)).set k s = (x.Q.set k (s, l)).map (·.1) := by rw [List.map_set]
  rw [e] at H2
  simp only [Nat.mul_one, Nat.add_zero] at H2
  exact DAt.setQ H2
theorem DAt.freeQ {g c : Nat} (hv : x.vq = .slice (some ⟨g, 0, none⟩) x.Q.length c) (H : Sat (DAt x * F) w) (k : Nat) : w.frozen? ⟨g, k, none⟩ = false := by
  have H1 := DAt.asQ H
  rw [hv] at H1
  exact rowOf_free H1 k
theorem DAt.shQ_ne (hne : x.Q ≠ []) (H : Sat (DAt x * F) w) : ∃ g c, x.vq = .slice (some ⟨g, 0, none⟩) x.Q.length c := by
  have := rowOf_shape_ne (by simpa using hne) (DAt.asQ H)
  rwa [List.length_map] at this
theorem DAt.readQ {g c : Nat} (hv : x.vq = .slice (some ⟨g, 0, none⟩) x.Q.length c) (H : Sat (DAt x * F) w) (k : Nat) (hk : k < x.Q.length) : w.cell? ⟨g, k, none⟩ = some (slv x.Q[k].1) := by
  have H1 := DAt.asQ H
  rw [hv] at H1
  have := rowOf_read encSl_ok H1 k (by rw [List.length_map]; exact hk) 0 (by omega) (slv x.Q[k].1) (by simp [encSl])
  simpa using this
set_option maxRecDepth 100000 in
theorem rvtx_any (v : Int) (H : Sat F w) {d : Bool} (hd : Hid (d = Md.vtx v)) (h : ∀ w', Sat F w' → Io w w' → R (.returned (.bool d)) w') : Calls Tryz.prog 87 #[.int .i64 v] w R := by
  have hx := hd.out
  unfold Md.vtx at hx
  have HH := Lib.hid h
  clear h hd
  by_cases h0 : 0 ≤ v
  · by_cases h1 : v < 1048576
    · rw [decide_eq_true ⟨h0, h1⟩] at hx
      subst hx
      go_enter Tryz.func87, Tryz.ntmps87
      go_wp2_with fail
      exact HH.out _ H (Io.refl _)
    · rw [decide_eq_false (fun h => h1 h.2)] at hx
      subst hx
      go_enter Tryz.func87, Tryz.ntmps87
      go_wp2_with fail
      exact HH.out _ H (Io.refl _)
  · rw [decide_eq_false (fun h => h0 h.1)] at hx
    subst hx
    go_enter Tryz.func87, Tryz.ntmps87
    go_wp2_with fail
    exact HH.out _ H (Io.refl _)
set_option maxRecDepth 100000 in
theorem rwrong_any (u v : Int) (H : Sat F w) {e : Int} (he : Hid (e = Md.wrong u v)) (h : ∀ w', Sat F w' → Io w w' → R (.returned (.int .i64 e)) w') : Calls Tryz.prog 78 #[.int .i64 u, .int .i64 v] w R := by
  have hx := he.out
  have HH := Lib.hid h
  obtain ⟨d1, h1⟩ : ∃ d, d = Md.vtx u := ⟨_, rfl⟩
  obtain ⟨d2, h2⟩ : ∃ d, d = Md.vtx v := ⟨_, rfl⟩
  have HD1 := Lib.hid h1
  have HD2 := Lib.hid h2
  unfold Md.wrong at hx
  rw [← h1, ← h2] at hx
  clear h he h1 h2
  cases d1 with
  | false =>
    simp only [Bool.false_and, Bool.false_eq_true, if_false] at hx
    subst hx
    go_enter Tryz.func78, Tryz.ntmps78
    go_wp2_with (go_at_call 87; with_reducible refine rvtx_any u H HD1 ?_; intro w1 H1 I1)
    exact HH.out _ H1 I1
  | true =>
    cases d2 with
    | false =>
      simp only [Bool.and_false, Bool.false_eq_true, if_false] at hx
      subst hx
      go_enter Tryz.func78, Tryz.ntmps78
      go_wp2_with (go_at_call 87; first | (with_reducible refine rvtx_any u H HD1 ?_; intro w1 H1 I1) | (with_reducible refine rvtx_any v H1 HD2 ?_; intro w2 H2 I2))
      exact HH.out _ H2 (I1.trans I2)
    | true =>
      simp only [Bool.and_self, if_true] at hx
      by_cases e2 : u = v
      · rw [if_pos e2] at hx
        subst e2
        subst hx
        go_enter Tryz.func78, Tryz.ntmps78
        go_wp2_with (go_at_call 87; first | (with_reducible refine rvtx_any u H1 HD2 ?_; intro w2 H2 I2) | (with_reducible refine rvtx_any u H HD1 ?_; intro w1 H1 I1))
        exact HH.out _ H2 (I1.trans I2)
      · rw [if_neg e2] at hx
        subst hx
        go_enter Tryz.func78, Tryz.ntmps78
        go_wp2_with (go_at_call 87; first | (with_reducible refine rvtx_any u H HD1 ?_; intro w1 H1 I1) | (with_reducible refine rvtx_any v H1 HD2 ?_; intro w2 H2 I2))
        exact HH.out _ H2 (I1.trans I2)
set_option maxRecDepth 100000 in
theorem rpair_any (u v : Int) (H : Sat F w) {a b : Int} (he : Hid (Md.pair u v = (a, b))) (h : ∀ w', Sat F w' → Io w w' → R (.returned (.agg #[.int .i64 a, .int .i64 b])) w') : Calls Tryz.prog 79 #[.int .i64 u, .int .i64 v] w R := by
  have hx := he.out
  unfold Md.pair at hx
  simp only [Prod.mk.injEq] at hx
  obtain ⟨hx1, hx2⟩ := hx
  have HH := Lib.hid h
  have H1 : Sat (PairB w.heap.size a b * F) (w.alloc (.cells #[.int .i64 a, .int .i64 b] 49)) := H.new _
  have I1 := (Io.refl w).alloc (.cells #[.int .i64 a, .int .i64 b] 49)
  clear he h
  subst hx1 hx2
  go_enter Tryz.func79, Tryz.ntmps79
  go_wp2_with fail
  obtain ⟨q0, q1⟩ := pair_reads H1
  exact bodyPost_ret (v := .agg #[.int .i64 (min u v), .int .i64 (max u v)]) (by simp [results, Tryz.results79, go_sem, q0, q1]) rfl (HH.out _ H1.right I1)
end
end Go.Proofs.YtabpgejjnphfcaaGreat

/-
  The document's model: change, by its walk. It proves no statement by itself.
-/
namespace Go.Proofs.YtabpgejjnphfcaaGreat
open Go.RowKit
open Go.Lib
open Md (Nm St)
set_option linter.unusedSimpArgs false
set_option linter.unusedVariables false
set_option linter.unusedSectionVars false
theorem mdo_chg {S : St} {o : Md.Op} (hk : o.kind = 1 ∨ o.kind = 2) (hn : (aget S.heads o.name).isSome = true) : Md.mdo S o = Md.change S o := by
  rw [Md.mdo_k S o (by omega), if_neg (by simp [hn])]
  unfold Md.onB
  rw [if_neg (by omega), if_neg (by omega), if_neg (by omega)]
theorem mdo_none {S : St} {o : Md.Op} (hk : o.kind = 1 ∨ o.kind = 2 ∨ o.kind = 3 ∨ o.kind = 4 ∨ o.kind = 12) (hn : ¬ (aget S.heads o.name).isSome = true) : Md.mdo S o = (S, Md.fail 191) := by
  rw [Md.mdo_k S o hk, if_pos (by simpa using hn)]
theorem DocOk.mono {k j : Nat} {S : St} {p : Pl} {x : Dx} (h : DocOk k S p x) (hk : k ≤ j) : DocOk j S p x := ⟨h.inv.mono hk, h.sim, h.ok, h.ne⟩
theorem DocOk.nowi {k : Nat} {S : St} {p : Pl} {x : Dx} (h : DocOk k S p x) {n : Nm} (hn : (aget S.heads n).isSome = true) : ∃ (i : Nat) (hi : i < x.B.length) (s : Sl3), i = Md.bplace x.B n ∧ (∀ (h1 : i < x.D.length) (h2 : i < x.Q.length), if (x.D[i]'h1) then (x.Q[i]'h2).1 = s else Md.vplace x.V (x.B[i]'hi).head < x.V.length ∧ ∀ (h3 : Md.vplace x.V (x.B[i]'hi).head < x.E.length), (x.E[Md.vplace x.V (x.B[i]'hi).head]'h3).1 = s) ∧ Held p (slv s) (Md.now S n) := by
  have hi := (h.bsome n).2 hn
  obtain ⟨s, h1, h2⟩ := h.now hn hi
  exact ⟨_, hi, s, rfl, h1, h2⟩
theorem DocOk.change {k : Nat} {S : St} {p : Pl} {x : Dx} (h : DocOk k S p x) {n : Nm} (hn : (aget S.heads n).isSome = true) {l : List Pr} {s : Sl3} (hI : Md.Inv (k + 1) { S with pend := aput S.pend n l }) : DocOk (k + 1) { S with pend := aput S.pend n l } ((slv s, l) :: p) { x with Q := x.Q.set (Md.bplace x.B n) (s, l), D := x.D.set (Md.bplace x.B n) true } where
  inv := hI
  sim := by
    have := h.sim.change h.inv hn l
    unfold Dx.dv at this ⊢
    simp only [List.map_set] at this ⊢
    exact this
  ok := ⟨fun y hy => (h.ok.e y hy).more fun e he => List.mem_cons_of_mem _ he, fun y hy => by
    rcases List.mem_or_eq_of_mem_set hy with hy | rfl
    · exact (h.ok.q y hy).more fun e he => List.mem_cons_of_mem _ he
    · exact .inr (by simp)⟩
  ne := h.ne
section
variable {F : Asn} {w : World} {R : Ending → World → Prop} {x : Dx} {S : St} {p : Pl} {j : Nat}
set_option maxRecDepth 100000 in
set_option maxHeartbeats 16000000 in
theorem rchange_any (y : OpX) (h12 : y.op.kind = 1 ∨ y.op.kind = 2) (hj : j ≤ 300) (ok : DocOk j S p x) {S' : St} {A : Md.An} (hm : Hid (Md.mdo S y.op = (S', A))) (H : Sat (DAt x * (Pool p * F)) w)
    (hh : ∀ x' p' w', x'.b = x.b → DocOk (j + 1) S' p' x' → Sat (DAt x' * (Pool p' * F)) w' → Io w w' → R (.returned (ansV A nil4)) w') :
    Calls Tryz.prog 53 #[x.ptr, opV y] w R := by
  have HH := Lib.hid hh
  clear hh
  have OK := Lib.hid ok
  have H00 : Sat (OpAt w.heap.size y * (DAt x * (Pool p * F))) (w.alloc (.cells (opC y) 41)) := H.new _
  have I00 : Io w (w.alloc (.cells (opC y) 41)) := (Io.refl w).alloc _
  have H0 := ansZ_new H00
  have I0 := I00.trans (io_ansZ _)
  have hr : (w.alloc (.cells (opC y) 41)).heap.size = w.heap.size + 1 := by simp
  rw [hr] at H0
  clear H00 I00 hr
  have FX := Lib.hid (ok.fit (by omega))
  have f2 := FX.out.b
  obtain ⟨bi, hbi⟩ : ∃ r, r = Md.bnum x.B y.op.name := ⟨_, rfl⟩
  have HBI := Lib.hid hbi
  rw [ok.bnum] at hbi
  have HBJ := Lib.hid hbi
  clear hbi
  have HZ := Lib.hid (fun (o : Nat) (G : Asn) W (hW : Sat (DAt x * (OpAt o y * G)) W) => (⟨(DAt.cells hW).1, (op_reads hW.right).2.1⟩ : W.cell? ⟨x.b, 0, none⟩ = some (lptr x.l) ∧ W.cell? ⟨o, 1, none⟩ = some (.string y.op.name)))
  go_enter Tryz.func53, Tryz.ntmps53
  go_upto_region 1 with fail
  generalize (w.alloc (.cells (opC y) 41)).alloc (.cells #[.int .i64 0, .int .i64 0, .bool false, .int .i64 0, .slice none 0 0, .slice none 0 0, .slice none 0 0, .slice none 0 0] 37) = w0 at *
  generalize w.heap.size + 1 = r at *
  generalize w.heap.size = o at *
  have H1 : Sat (DAt x * (OpAt o y * (ansZ r * (Pool p * F)))) w0 := H0.of_eq (by ac_rfl)
  have Z0 := HZ.out _ _ _ H1.drew
  have LL := DAt.asL H1.drew
  clear H0
  go_region_held3 (fun W => W.cell? ⟨x.b, 0, none⟩ = some (lptr x.l) ∧ W.cell? ⟨o, 1, none⟩ = some (.string y.op.name)) (first | exact Z0 | exact Z1) ((go_at_call 52; with_reducible refine rbranch_any y.op.name (by omega) LL HBI ?_; intro w1 H2 I2; have K2 := DAt.ofL H2; have Z1 := HZ.out _ _ _ K2))
  all_goals
    have hbi := HBJ.out
    clear Z0 Z1 LL H1 H2 HBI HBJ
    have I3 := I0.drew.trans I2
    have K4 : Sat (ansZ r * (OpAt o y * (DAt x * (Pool p * F)))) w1 := K2.of_eq (by ac_rfl)
    clear I0 I2 K2
    by_cases hn : (aget S.heads y.op.name).isSome = true
    · rw [if_pos hn] at hbi
      have HMC := mdo_chg h12 hn
      obtain ⟨i, hi, s, hidef, hs, hheld⟩ := ok.nowi hn
      have hlen := (ok.inv.now y.op.name).2
      have hgood := (ok.inv.now y.op.name).1.1
      have hI' := Md.inv_change ok.inv y.op hn
      have HID := Lib.hid hidef
      rw [← hidef] at hbi
      obtain ⟨sa, sn, sc⟩ := s
      obtain ⟨sa', sc', hsl⟩ := hheld.slice K4.right.right.right
      cases hsl
      have R1 := Lib.hid (fun (G : Asn) W (hW : Sat (Pool p * G) W) => hheld.reads (by omega) hW)
      have HN := Lib.hid hn
      have HI' := Lib.hid hI'
      have HG := Lib.hid hgood
      have HMC' := Lib.hid HMC
      obtain ⟨l, hl⟩ : ∃ l, l = Md.now S y.op.name := ⟨_, rfl⟩
      have HL := Lib.hid hl
      rw [← hl] at R1 hlen HG hs
      have HS2 := Lib.hid hs
      clear hs hheld hgood hI' HMC hn hl ok hidef
      obtain ⟨we, hwe⟩ : ∃ e, e = Md.wrong y.op.u y.op.v := ⟨_, rfl⟩
      have HWE := Lib.hid hwe
      obtain ⟨⟨qa, qb⟩, hq⟩ : ∃ q, Md.pair y.op.u y.op.v = q := ⟨_, rfl⟩
      have HQ := Lib.hid hq
      obtain ⟨th, hth⟩ : ∃ d, d = decide ((qa, qb) ∈ l) := ⟨_, rfl⟩
      have HT := Lib.hid hth
      clear hwe hq hth
      subst hbi
      have hi0 : ¬ (i : Int) < 0 := by omega
      have hi1 : (0 : Int) ≤ (i : Int) := by omega
      obtain ⟨x0, x1, x2, x3, x4, x5, x6, x7, x8, x9⟩ := op_reads K4.right
      by_cases hwe : we = 0
      · subst hwe
        go_upto_region 10 with (first
          | (go_at_call 78; with_reducible refine rwrong_any y.op.u y.op.v K4 HWE ?_; intro w2 H2 I2; obtain ⟨y0, y1, y2, y3, y4, y5, y6, y7, y8, y9⟩ := op_reads H2.right)
          | (go_at_call 79; with_reducible refine rpair_any y.op.u y.op.v H2 HQ ?_; intro w3 H3 I4; have H4 : Sat (PairB w3.heap.size qa qb * _) (w3.alloc (.cells #[.int .i64 qa, .int .i64 qb] 49)) := H3.new _; have I5 := ((I3.trans I2).trans I4).alloc (.cells #[.int .i64 qa, .int .i64 qb] 49); have K5 := H4.of_eq (show _ = DAt x * (PairB w3.heap.size qa qb * (ansZ r * (OpAt o y * (Pool p * F)))) from by ac_rfl))
          | (go_at_call 80; with_reducible refine rnow_any (s := (sa, l.length, sc)) i FX.out hi HS2 K5 ?_; intro w4 H5 I6; have P5 := H5.of_eq (show _ = Pool p * (PairB w3.heap.size qa qb * (ansZ r * (OpAt o y * (DAt x * F)))) from by ac_rfl); have rx := R1.out _ _ P5; obtain ⟨Y0, Y1⟩ := pair_reads P5.right)
          | (go_at_call 81; with_reducible refine rhas_d (p := (qa, qb)) rx HT P5 ?_; intro w5 H6 I7))
        generalize w3.heap.size = bq at *
        have K7 : Sat (ansZ r * (OpAt o y * (PairB bq qa qb * (DAt x * (Pool p * F))))) w5 := H6.of_eq (by ac_rfl)
        have I8 := (I5.trans I6).trans I7
        clear x0 x1 x2 x3 x4 x5 x6 x7 x8 x9 y0 y1 y2 y3 y4 y5 y6 y7 y8 y9 Y0 Y1 H6 H5 P5 rx K5 H4 H3 H2 K4 I7 I6 I5 I4 I3 I2
        obtain ⟨x0, x1, x2, x3, x4, x5, x6, x7, x8, x9⟩ := op_reads K7.right
        obtain ⟨Q0, Q1⟩ := pair_reads K7.right.right
        rcases h12 with k1 | k2
        · cases th with
          | true =>
            have HC : Hid (S' = S ∧ A = Md.fail 180) := Lib.hid (by
              have e := hm.out
              rw [HMC'.out] at e
              unfold Md.change at e
              rw [if_neg (by rw [← HWE.out]; simp), HQ.out, if_pos ⟨k1, by rw [← HL.out]; exact of_decide_eq_true HT.out.symm⟩] at e
              cases e; exact ⟨rfl, rfl⟩)
            obtain ⟨rfl, rfl⟩ := HC.out
            go_wp2_with (first
              | (go_at_call 58; with_reducible refine rfail_any 180 K7 ?_; intro w7 H7 I7)
              | (with_reducible refine store_ans rfl (.tmp 4) (.tmp 46) rfl rfl nil4_fit H7 rfl ?_; intro w6 H6 I6; obtain ⟨d0, d1, d2, d3, d4, d5, d6, d7⟩ := ansA_reads H6))
            exact bodyPost_ret (v := ansV (Md.fail 180) nil4) (by simp [results, Tryz.results53, go_sem, d0, d1, d2, d3, d4, d5, d6, d7]) rfl (HH.out x p _ rfl (OK.out.mono (by omega)) H6.right.right.right ((I8.trans I7).trans I6))
          | false =>
            have HC : Hid (S' = { S with pend := aput S.pend y.op.name (Eg.put l (qa, qb)) } ∧ A = {} ∧ Md.Inv (j + 1) S') := Lib.hid (by
              have e := hm.out
              have e3 := HI'.out
              have e4 : Md.mdo S y.op = _ := HMC'.out
              rw [← e4, hm.out] at e3
              rw [HMC'.out] at e
              unfold Md.change at e
              rw [if_neg (by rw [← HWE.out]; simp), HQ.out, if_neg (fun h => of_decide_eq_false HT.out.symm (by rw [HL.out]; exact h.2)), if_neg (fun h => h.1 k1), ← HL.out, ← HT.out, Md.apply_one HG.out] at e
              cases e; exact ⟨rfl, rfl, e3⟩)
            obtain ⟨g, gc, hvq⟩ := DAt.shQ_ne (by intro e; have := FX.out.q; rw [e] at this; simp at this; omega) K7.right.right.right
            obtain ⟨g2, gc2, hvd⟩ := DAt.shD_ne (by intro e; have := FX.out.d; rw [e] at this; simp at this; omega) K7.right.right.right
            have hiq : i < x.Q.length := by have := FX.out.q; omega
            have hid : i < x.D.length := by have := FX.out.d; omega
            have hiqi : (i : Int) < (x.Q.length : Int) := by omega
            have hidi : (i : Int) < (x.D.length : Int) := by omega
            have P7 := K7.of_eq (show _ = Pool p * (PairB bq qa qb * (ansZ r * (OpAt o y * (DAt x * F)))) from by ac_rfl)
            have rx := R1.out _ _ P7
            go_wp2_with (first
              | (go_at_call 82; with_reducible refine rputp_any rx (by omega) (qa, qb) P7 ?_; intro v8 w8 H8 I9; obtain ⟨ga, gcc, hv8⟩ := row_slice2 H8; subst hv8
                 have M8 : Sat (DAt x * (RowP (.slice ga (Eg.put l (qa, qb)).length gcc) (Eg.put l (qa, qb)) * (Pool p * (PairB bq qa qb * (ansZ r * (OpAt o y * F)))))) w8 := H8.of_eq (by ac_rfl)
                 obtain ⟨c0, c1, c2, c3, c4⟩ := DAt.cells M8
                 rw [hvq] at c2
                 have rq := DAt.readQ hvq M8 i hiq
                 have fq := DAt.freeQ hvq M8 i
                 have M9 := DAt.storeQ hvq M8 i hiq (ga, (Eg.put l (qa, qb)).length, gcc) (Eg.put l (qa, qb))
                 obtain ⟨e0, e1, e2, e3, e4⟩ := DAt.cells M9
                 simp only at e0 e1 e2 e3 e4
                 rw [hvd] at e3
                 have rd := DAt.readD (x := { x with Q := x.Q.set i ((ga, (Eg.put l (qa, qb)).length, gcc), Eg.put l (qa, qb)) }) hvd M9 i hid
                 have fd := DAt.freeD (x := { x with Q := x.Q.set i ((ga, (Eg.put l (qa, qb)).length, gcc), Eg.put l (qa, qb)) }) hvd M9 i
                 have M10 := DAt.storeD (x := { x with Q := x.Q.set i ((ga, (Eg.put l (qa, qb)).length, gcc), Eg.put l (qa, qb)) }) hvd M9 i hid true
                 have I10 := ((I8.trans I9).setCell ⟨g, i, none⟩ (slv (ga, (Eg.put l (qa, qb)).length, gcc))).setCell ⟨g2, i, none⟩ (.bool true)
                 have K10 := M10.of_eq (show _ = ansZ r * ((OpAt o y * PairB bq qa qb) * (DAt { x with Q := x.Q.set i ((ga, (Eg.put l (qa, qb)).length, gcc), Eg.put l (qa, qb)), D := x.D.set i true } * (RowP (.slice ga (Eg.put l (qa, qb)).length gcc) (Eg.put l (qa, qb)) * (Pool p * F)))) from by ac_rfl))
              | (with_reducible refine store_ans rfl (.tmp 4) (.tmp 77) rfl rfl nil4_fit (A := {}) K10 rfl ?_; intro w6 H6 I6; obtain ⟨d0, d1, d2, d3, d4, d5, d6, d7⟩ := ansA_reads H6))
            obtain ⟨hS', rfl, hInv⟩ := HC.out
            have K11 : Sat (DAt { x with Q := x.Q.set i ((ga, (Eg.put l (qa, qb)).length, gcc), Eg.put l (qa, qb)), D := x.D.set i true } * (Pool ((slv (ga, (Eg.put l (qa, qb)).length, gcc), Eg.put l (qa, qb)) :: p) * F)) _ := H6.right.right.of_eq (by rw [pool_cons]; ac_rfl)
            have okk := OK.out.change HN.out (s := (ga, (Eg.put l (qa, qb)).length, gcc)) (hS' ▸ hInv)
            rw [← hS', ← HID.out] at okk
            exact bodyPost_ret (v := ansV {} nil4) (by simp [results, Tryz.results53, go_sem, d0, d1, d2, d3, d4, d5, d6, d7]) rfl (HH.out { x with Q := x.Q.set i ((ga, (Eg.put l (qa, qb)).length, gcc), Eg.put l (qa, qb)), D := x.D.set i true } ((slv (ga, (Eg.put l (qa, qb)).length, gcc), Eg.put l (qa, qb)) :: p) _ rfl okk K11 (I10.trans I6))
        · have k1 : ¬ y.op.kind = 1 := by omega
          cases th with
          | true =>
            have HC : Hid (S' = { S with pend := aput S.pend y.op.name (Eg.without l (qa, qb)) } ∧ A = {} ∧ Md.Inv (j + 1) S') := Lib.hid (by
              have e := hm.out
              have e3 := HI'.out
              have e4 : Md.mdo S y.op = _ := HMC'.out
              rw [← e4, hm.out] at e3
              rw [HMC'.out] at e
              unfold Md.change at e
              rw [if_neg (by rw [← HWE.out]; simp), HQ.out, if_neg (fun h => k1 h.1), if_neg (fun h => h.2 (by rw [← HL.out]; exact of_decide_eq_true HT.out.symm)), ← HL.out, ← HT.out, Md.apply_one HG.out] at e
              cases e; exact ⟨rfl, rfl, e3⟩)
            obtain ⟨g, gc, hvq⟩ := DAt.shQ_ne (by intro e; have := FX.out.q; rw [e] at this; simp at this; omega) K7.right.right.right
            obtain ⟨g2, gc2, hvd⟩ := DAt.shD_ne (by intro e; have := FX.out.d; rw [e] at this; simp at this; omega) K7.right.right.right
            have hiq : i < x.Q.length := by have := FX.out.q; omega
            have hid : i < x.D.length := by have := FX.out.d; omega
            have hiqi : (i : Int) < (x.Q.length : Int) := by omega
            have hidi : (i : Int) < (x.D.length : Int) := by omega
            have P7 := K7.of_eq (show _ = Pool p * (PairB bq qa qb * (ansZ r * (OpAt o y * (DAt x * F)))) from by ac_rfl)
            have rx := R1.out _ _ P7
            go_wp2_with (first
              | (go_at_call 83; with_reducible refine rwithout_any rx (by omega) (qa, qb) P7 ?_; intro v8 w8 H8 I9; obtain ⟨ga, gcc, hv8⟩ := row_slice2 H8; subst hv8
                 have M8 : Sat (DAt x * (RowP (.slice ga (Eg.without l (qa, qb)).length gcc) (Eg.without l (qa, qb)) * (Pool p * (PairB bq qa qb * (ansZ r * (OpAt o y * F)))))) w8 := H8.of_eq (by ac_rfl)
                 obtain ⟨c0, c1, c2, c3, c4⟩ := DAt.cells M8
                 rw [hvq] at c2
                 have rq := DAt.readQ hvq M8 i hiq
                 have fq := DAt.freeQ hvq M8 i
                 have M9 := DAt.storeQ hvq M8 i hiq (ga, (Eg.without l (qa, qb)).length, gcc) (Eg.without l (qa, qb))
                 obtain ⟨e0, e1, e2, e3, e4⟩ := DAt.cells M9
                 simp only at e0 e1 e2 e3 e4
                 rw [hvd] at e3
                 have rd := DAt.readD (x := { x with Q := x.Q.set i ((ga, (Eg.without l (qa, qb)).length, gcc), Eg.without l (qa, qb)) }) hvd M9 i hid
                 have fd := DAt.freeD (x := { x with Q := x.Q.set i ((ga, (Eg.without l (qa, qb)).length, gcc), Eg.without l (qa, qb)) }) hvd M9 i
                 have M10 := DAt.storeD (x := { x with Q := x.Q.set i ((ga, (Eg.without l (qa, qb)).length, gcc), Eg.without l (qa, qb)) }) hvd M9 i hid true
                 have I10 := ((I8.trans I9).setCell ⟨g, i, none⟩ (slv (ga, (Eg.without l (qa, qb)).length, gcc))).setCell ⟨g2, i, none⟩ (.bool true)
                 have K10 := M10.of_eq (show _ = ansZ r * ((OpAt o y * PairB bq qa qb) * (DAt { x with Q := x.Q.set i ((ga, (Eg.without l (qa, qb)).length, gcc), Eg.without l (qa, qb)), D := x.D.set i true } * (RowP (.slice ga (Eg.without l (qa, qb)).length gcc) (Eg.without l (qa, qb)) * (Pool p * F)))) from by ac_rfl))
              | (with_reducible refine store_ans rfl (.tmp 4) (.tmp 77) rfl rfl nil4_fit (A := {}) K10 rfl ?_; intro w6 H6 I6; obtain ⟨d0, d1, d2, d3, d4, d5, d6, d7⟩ := ansA_reads H6))
            obtain ⟨hS', rfl, hInv⟩ := HC.out
            have K11 : Sat (DAt { x with Q := x.Q.set i ((ga, (Eg.without l (qa, qb)).length, gcc), Eg.without l (qa, qb)), D := x.D.set i true } * (Pool ((slv (ga, (Eg.without l (qa, qb)).length, gcc), Eg.without l (qa, qb)) :: p) * F)) _ := H6.right.right.of_eq (by rw [pool_cons]; ac_rfl)
            have okk := OK.out.change HN.out (s := (ga, (Eg.without l (qa, qb)).length, gcc)) (hS' ▸ hInv)
            rw [← hS', ← HID.out] at okk
            exact bodyPost_ret (v := ansV {} nil4) (by simp [results, Tryz.results53, go_sem, d0, d1, d2, d3, d4, d5, d6, d7]) rfl (HH.out { x with Q := x.Q.set i ((ga, (Eg.without l (qa, qb)).length, gcc), Eg.without l (qa, qb)), D := x.D.set i true } ((slv (ga, (Eg.without l (qa, qb)).length, gcc), Eg.without l (qa, qb)) :: p) _ rfl okk K11 (I10.trans I6))
          | false =>
            have HC : Hid (S' = S ∧ A = Md.fail 181) := Lib.hid (by
              have e := hm.out
              rw [HMC'.out] at e
              unfold Md.change at e
              rw [if_neg (by rw [← HWE.out]; simp), HQ.out, if_neg (fun h => k1 h.1), if_pos ⟨k1, by rw [← HL.out]; exact of_decide_eq_false HT.out.symm⟩] at e
              cases e; exact ⟨rfl, rfl⟩)
            obtain ⟨rfl, rfl⟩ := HC.out
            go_wp2_with (first
              | (go_at_call 58; with_reducible refine rfail_any 181 K7 ?_; intro w7 H7 I7)
              | (with_reducible refine store_ans rfl (.tmp 4) (.tmp 54) rfl rfl nil4_fit H7 rfl ?_; intro w6 H6 I6; obtain ⟨d0, d1, d2, d3, d4, d5, d6, d7⟩ := ansA_reads H6))
            exact bodyPost_ret (v := ansV (Md.fail 181) nil4) (by simp [results, Tryz.results53, go_sem, d0, d1, d2, d3, d4, d5, d6, d7]) rfl (HH.out x p _ rfl (OK.out.mono (by omega)) H6.right.right.right ((I8.trans I7).trans I6))
      · have HC : Hid (S' = S ∧ A = Md.fail we) := Lib.hid (by
          have e := hm.out
          rw [HMC'.out] at e
          unfold Md.change at e
          rw [if_pos (by rw [← HWE.out]; exact hwe), ← HWE.out] at e
          cases e; exact ⟨rfl, rfl⟩)
        obtain ⟨rfl, rfl⟩ := HC.out
        have hb : (we != 0) = true := by simp [hwe]
        go_wp2_with (first
          | (go_at_call 78; with_reducible refine rwrong_any y.op.u y.op.v K4 HWE ?_; intro w2 H2 I2)
          | (go_at_call 58; with_reducible refine rfail_any we H2 ?_; intro w7 H7 I7)
          | (with_reducible refine store_ans rfl (.tmp 4) (.tmp 28) rfl rfl nil4_fit H7 rfl ?_; intro w6 H6 I6; obtain ⟨d0, d1, d2, d3, d4, d5, d6, d7⟩ := ansA_reads H6))
        exact bodyPost_ret (v := ansV (Md.fail we) nil4) (by simp [results, Tryz.results53, go_sem, d0, d1, d2, d3, d4, d5, d6, d7]) rfl (HH.out x p _ rfl (OK.out.mono (by omega)) H6.right.right (((I3.trans I2).trans I7).trans I6))
    · rw [if_neg hn] at hbi
      subst hbi
      obtain ⟨rfl, rfl⟩ : S' = S ∧ A = Md.fail 191 := by have e := hm.out; rw [mdo_none (by omega) hn] at e; cases e; exact ⟨rfl, rfl⟩
      go_wp2_with (first
        | (go_at_call 58; with_reducible refine rfail_any 191 K4 ?_; intro w7 H7 I7)
        | (with_reducible refine store_ans rfl (.tmp 4) (.tmp 19) rfl rfl nil4_fit H7 rfl ?_; intro w6 H6 I6; obtain ⟨d0, d1, d2, d3, d4, d5, d6, d7⟩ := ansA_reads H6))
      exact bodyPost_ret (v := ansV (Md.fail 191) nil4) (by simp [results, Tryz.results53, go_sem, d0, d1, d2, d3, d4, d5, d6, d7]) rfl (HH.out x p _ rfl (OK.out.mono (by omega)) H6.right.right ((I3.trans I7).trans I6))
end
end Go.Proofs.YtabpgejjnphfcaaGreat
