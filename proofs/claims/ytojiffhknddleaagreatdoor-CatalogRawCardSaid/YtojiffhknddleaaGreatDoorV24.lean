/-
  The tree of keys on pages, plain: which kid has a key; going through the entries from a key on. No program in sight. It proves no statement by itself.
-/
import Derived.Test.YtojiffhknddleaaGreatDoorV23
import Derived.Deep.RegionLaw
namespace Go.Proofs.YtojiffhknddleaaGreatDoor
set_option linter.unusedSimpArgs false
set_option linter.unusedVariables false
namespace Tb
open Ky
/-- Which kid has a key: how many keys are no greater. -/
def chd (key : Nm) (B : List Nm) : Nat := B.findIdx fun y => Md.nlt key y
theorem chd_le (key : Nm) (B : List Nm) : chd key B ≤ B.length := List.findIdx_le_length
theorem chd_ahead {key : Nm} {B : List Nm} {j : Nat} (hj : j < B.length) (h : j < chd key B) : Md.nlt key B[j] = false := by
  have := List.not_of_lt_findIdx h
  simpa using this
theorem chd_behind {key : Nm} {B : List Nm} (hu : B.Pairwise fun x y => Md.nlt x y = true) {j : Nat} (hj : j < B.length) (h : chd key B ≤ j) : Md.nlt key B[j] = true := by
  have hc : chd key B < B.length := by omega
  have h0 : Md.nlt key (B[chd key B]) = true := List.findIdx_getElem (p := fun y => Md.nlt key y) (w := hc)
  rcases Nat.lt_or_ge (chd key B) j with c | c
  · rw [List.pairwise_iff_getElem] at hu
    exact nlt_trans h0 (hu _ _ hc hj c)
  · obtain rfl : j = chd key B := by omega
    exact h0
theorem chd_unique {key : Nm} {B : List Nm} (hu : B.Pairwise fun x y => Md.nlt x y = true) {c : Nat} (hc : c ≤ B.length) (h1 : ∀ j (hj : j < B.length), j < c → Md.nlt key B[j] = false) (h2 : ∀ j (hj : j < B.length), c ≤ j → Md.nlt key B[j] = true) : c = chd key B := by
  rcases Nat.lt_trichotomy c (chd key B) with h | h | h
  · have h3 := chd_le key B
    have := chd_ahead (key := key) (B := B) (j := c) (by omega) h
    rw [h2 c (by omega) (Nat.le_refl _)] at this
    cases this
  · exact h
  · have := chd_behind hu (key := key) (j := chd key B) (by omega) (Nat.le_refl _)
    rw [h1 _ (by omega) h] at this
    cases this
theorem chd_take {key : Nm} {B : List Nm} : ∀ y ∈ B.take (chd key B), Md.nlt key y = false := fun y hy => by
  obtain ⟨i, hi, rfl⟩ := List.mem_iff_getElem.1 hy
  rw [List.length_take] at hi
  rw [List.getElem_take]
  exact chd_ahead (by omega) (by omega)
theorem chd_drop {key : Nm} {B : List Nm} (hu : B.Pairwise fun x y => Md.nlt x y = true) : ∀ y ∈ B.drop (chd key B), Md.nlt key y = true := fun y hy => by
  obtain ⟨i, hi, rfl⟩ := List.mem_iff_getElem.1 hy
  rw [List.length_drop] at hi
  rw [List.getElem_drop]
  exact chd_behind hu (by omega) (by omega)
/-- The kid that has a key, with all that is beside it. -/
theorem child_at {h : Nat} {lo hi : Bd} {K : List Int} {B : List Nm} {es : List En} {L : Pg} {key : Nm} (n : Node (Sb h) lo hi K B es L) (hlo : ge lo key) (hhi : lt hi key) (hi' : chd key B < K.length) :
    ∃ a b e1 ec e2 L1 Lc L2, SegL (Sb h) lo a (K.take (chd key B)) (B.take (chd key B)) e1 L1 ∧ Sb h a b K[chd key B] ec Lc ∧ SegR (Sb h) b hi (K.drop (chd key B + 1)) (B.drop (chd key B)) e2 L2 ∧ es = e1 ++ (ec ++ e2) ∧ L = L1 ++ (Lc ++ L2) ∧
      ge a key ∧ lt b key ∧ (∀ x ∈ e1, Md.nlt x.1 key = true) ∧ ∀ x ∈ e2, Md.nlt key x.1 = true := by
  have hu := n.up fun ⟨_, s⟩ => s.bounds.1
  obtain ⟨a, b, e1, ec, e2, L1, Lc, L2, g1, g2, g3, q1, q2⟩ := n.at (chd key B) hi'
  have ha := g1.low hlo chd_take
  have hb := g3.high hhi (chd_drop hu)
  exact ⟨a, b, e1, ec, e2, L1, Lc, L2, g1, g2, g3, q1, q2, ha, hb, g1.ahead (fun s => s.inn) ha, g3.behind (fun s => s.inn) hb⟩
/-! ### Going through the entries from a key on. -/
/-- The entries from a key on. -/
def frm (key : Nm) (l : List En) : List En := l.drop (pos key l)
def okb (lo hi : Bd) (key : Nm) : Prop := lt hi key ∧ (ge lo key ∨ ∃ y, lo = some y ∧ Md.nlt key y = true)
inductive Vis (S : Bd → Bd → Int → List En → Pg → Prop) (key : Nm) : List Int → List En → Pg → Prop
  | nil : Vis S key [] [] []
  | cons {lo hi : Bd} {k : Int} {e t : List En} {K : List Int} {L1 L2 : Pg} (s : S lo hi k e L1) (o : okb lo hi key) (r : Vis S key K t L2) : Vis S key (k :: K) (frm key e ++ t) (L1 ++ L2)
theorem frm_all {key : Nm} {l : List En} (h : ∀ x ∈ l, Md.nlt key x.1 = true) : frm key l = l := by
  unfold frm pos
  cases l with
  | nil => rfl
  | cons x l =>
    rw [List.findIdx_cons]
    have := nlt_asym (h x (List.mem_cons_self ..))
    simp [this]
theorem frm_loc {key : Nm} {E1 Ec E2 : List En} (h1 : ∀ x ∈ E1, Md.nlt x.1 key = true) (h2 : ∀ x ∈ E2, Md.nlt key x.1 = true) : frm key (E1 ++ (Ec ++ E2)) = frm key Ec ++ E2 := by
  unfold frm
  rw [pos_loc h1 h2, ← List.drop_drop, List.drop_left, List.drop_append, show pos key Ec - Ec.length = 0 by have := pos_le key Ec; omega]
  rfl
theorem segR_vis {S : Bd → Bd → Int → List En → Pg → Prop} (hS : ∀ {lo hi k e L}, S lo hi k e L → blt lo hi ∧ (∀ x ∈ e, ge lo x.1 ∧ lt hi x.1) ∧ Right e) {key : Nm} {m hi : Bd} {K : List Int} {B : List Nm} {e : List En} {L : Pg} (h : SegR S m hi K B e L) (hk : lt m key) : Vis S key K e L := by
  induction h with
  | nil => exact .nil
  | cons s r ih =>
    have h0 := hk _ rfl
    obtain ⟨s1, s2, _⟩ := hS s
    have hm : lt _ key := fun z hz => nlt_trans h0 (s1 _ z rfl hz)
    have := Vis.cons s ⟨hm, .inr ⟨_, rfl, h0⟩⟩ (ih hm)
    rwa [frm_all fun x hx => nlt_le_trans h0 ((s2 x hx).1 _ rfl)] at this
theorem node_vis {h : Nat} {K : List Int} {B : List Nm} {es : List En} {L : Pg} {key : Nm} {lo hi : Bd} (n : Node (Sb h) lo hi K B es L) (o : okb lo hi key) (hi' : chd key B < K.length) :
    ∃ L1 L2, Vis (Sb h) key (K.drop (chd key B)) (frm key es) L2 ∧ L = L1 ++ L2 := by
  have hu := n.up fun ⟨_, s⟩ => s.bounds.1
  have h0 : ge lo key ∨ chd key B = 0 ∧ ∃ y, lo = some y ∧ Md.nlt key y = true := by
    rcases o.2 with h | ⟨y, rfl, h⟩
    · exact .inl h
    · right
      refine ⟨?_, y, rfl, h⟩
      cases n with
      | mk s r =>
        cases r with
        | nil => rfl
        | cons s2 r2 =>
          obtain ⟨_, s⟩ := s
          unfold chd
          rw [List.findIdx_cons, nlt_trans h (s.bounds.1 _ _ rfl rfl)]
          rfl
  obtain ⟨a, b, e1, ec, e2, L1, Lc, L2, g1, g2, g3, q1, q2⟩ := n.at (chd key B) hi'
  have hb := g3.high o.1 (chd_drop hu)
  have he2 := g3.behind (fun s => s.inn) hb
  have hv := segR_vis (fun s => s.inn) g3 hb
  rcases h0 with hlo | ⟨h0, y, rfl, hy⟩
  · have ha := g1.low hlo chd_take
    refine ⟨L1, Lc ++ L2, ?_, q2⟩
    rw [q1, frm_loc (g1.ahead (fun s => s.inn) ha) he2, List.drop_eq_getElem_cons hi']
    exact .cons g2 ⟨hb, .inl ha⟩ hv
  · refine ⟨L1, Lc ++ L2, ?_, q2⟩
    rw [List.drop_eq_getElem_cons hi']
    generalize hT : K.take (chd key B) = T at g1
    generalize hU : B.take (chd key B) = U at g1
    cases g1 with
    | nil =>
      rw [q1, List.nil_append, ← List.nil_append (ec ++ e2), frm_loc (by simp) he2]
      exact .cons g2 ⟨hb, .inr ⟨y, rfl, hy⟩⟩ hv
    | cons _ _ =>
      rw [h0] at hT
      simp at hT
/-- Going on with each, till it is enough. -/
def go {α : Type} (step : α → En → α × Bool) : α → List En → α × Bool
  | s, [] => (s, true)
  | s, x :: l => if (step s x).2 then go step (step s x).1 l else ((step s x).1, false)
theorem go_append {α : Type} (step : α → En → α × Bool) (s : α) (l m : List En) : go step s (l ++ m) = if (go step s l).2 then go step (go step s l).1 m else go step s l := by
  induction l generalizing s with
  | nil => simp [go]
  | cons x l ih =>
    simp only [List.cons_append, go]
    split
    · exact ih _
    · simp
end Tb
end Go.Proofs.YtojiffhknddleaaGreatDoor

/-
  node.copied, Split, Join, Swap, by walks: regions whose order is drawn, with several rows made beside one another. It proves no statement by itself.
-/
namespace Go.Proofs.YtojiffhknddleaaGreatDoor
open Go.RowKit Go.Lib
set_option linter.unusedSimpArgs false
set_option linter.unusedVariables false
set_option linter.unusedSectionVars false
theorem Sat.p1 {A1 X T : Asn} {w : World} (h : Sat ((A1 * X) * T) w) : Sat (A1 * ((X) * T)) w := h.of_eq (by ac_rfl)
theorem Sat.p2 {A1 A2 X T : Asn} {w : World} (h : Sat ((A1 * (A2 * X)) * T) w) : Sat (A2 * ((A1 * X) * T)) w := h.of_eq (by ac_rfl)
theorem Sat.p3 {A1 A2 A3 X T : Asn} {w : World} (h : Sat ((A1 * (A2 * (A3 * X))) * T) w) : Sat (A3 * ((A1 * (A2 * X)) * T)) w := h.of_eq (by ac_rfl)
theorem Sat.p4 {A1 A2 A3 A4 X T : Asn} {w : World} (h : Sat ((A1 * (A2 * (A3 * (A4 * X)))) * T) w) : Sat (A4 * ((A1 * (A2 * (A3 * X))) * T)) w := h.of_eq (by ac_rfl)
theorem Sat.p5 {A1 A2 A3 A4 A5 X T : Asn} {w : World} (h : Sat ((A1 * (A2 * (A3 * (A4 * (A5 * X))))) * T) w) : Sat (A5 * ((A1 * (A2 * (A3 * (A4 * X)))) * T)) w := h.of_eq (by ac_rfl)
theorem Sat.p6 {A1 A2 A3 A4 A5 A6 X T : Asn} {w : World} (h : Sat ((A1 * (A2 * (A3 * (A4 * (A5 * (A6 * X)))))) * T) w) : Sat (A6 * ((A1 * (A2 * (A3 * (A4 * (A5 * X))))) * T)) w := h.of_eq (by ac_rfl)
theorem Sat.p7 {A1 A2 A3 A4 A5 A6 A7 X T : Asn} {w : World} (h : Sat ((A1 * (A2 * (A3 * (A4 * (A5 * (A6 * (A7 * X))))))) * T) w) : Sat (A7 * ((A1 * (A2 * (A3 * (A4 * (A5 * (A6 * X)))))) * T)) w := h.of_eq (by ac_rfl)
theorem Sat.p8 {A1 A2 A3 A4 A5 A6 A7 A8 X T : Asn} {w : World} (h : Sat ((A1 * (A2 * (A3 * (A4 * (A5 * (A6 * (A7 * (A8 * X)))))))) * T) w) : Sat (A8 * ((A1 * (A2 * (A3 * (A4 * (A5 * (A6 * (A7 * X))))))) * T)) w := h.of_eq (by ac_rfl)
theorem Sat.push {A X T : Asn} {w : World} (h : Sat (A * (X * T)) w) : Sat ((A * X) * T) w := h.of_eq (star_assoc _ _ _).symm
theorem Sat.n1 {X T : Asn} {w : World} (h : Sat (X * T) w) (o : Obj) : Sat ((pts w.heap.size o * X) * T) (w.alloc o) := (h.new o).push
theorem Sat.in_emp {A : Asn} {w : World} (h : Sat A w) : Sat (emp * A) w := h.of_eq (star_emp A).symm
theorem emp_r {A : Asn} {w : World} (h : Sat A w) : Sat (A * emp) w := h.of_eq (emp_star A).symm
theorem Sat.drop2 {X P Q F : Asn} {w : World} (h : Sat (X * (P * (Q * F))) w) : Sat (X * F) w := (h.of_eq (show X * (P * (Q * F)) = P * (Q * (X * F)) from by ac_rfl)).right.right
theorem Sat.sw {X P Q : Asn} {w : World} (h : Sat (X * (P * Q)) w) : Sat (P * (X * Q)) w := h.of_eq (by ac_rfl)
theorem Sat.sw2 {X P Q S : Asn} {w : World} (h : Sat (X * (P * (Q * S))) w) : Sat (Q * (X * (P * S))) w := h.of_eq (by ac_rfl)
theorem with_si {A : Asn} {W w0 : World} {p : Program} {f : FuncId} {args : Array Value} {R : Ending → World → Prop} (h : Sat A W) (i : Io w0 W) (k : Sat A W → Io w0 W → Calls p f args W R) : Calls p f args W R := k h i
theorem heap_alloc (w : World) (o : Obj) : (w.alloc o).heap.size = w.heap.size + 1 := World.size_alloc w o
theorem rowOf_form3 {α : Type} {enc : α → List Value} {sz : Nat} {e : TypeId} {v : Value} {l : List α} {F : Asn} {w : World} (H : Sat (RowOf e sz enc v l * F) w) : ∃ a n c, v = .slice a n c := by
  obtain ⟨a, c, h⟩ := rowOf_form H
  exact ⟨a, _, c, h⟩
theorem held_a {W : World} {b : Nat} {x y z u : Value} {o : Obj} (h : W.cell? ⟨b, 0, none⟩ = some x ∧ W.cell? ⟨b, 1, none⟩ = some y ∧ W.cell? ⟨b, 2, none⟩ = some z ∧ W.cell? ⟨b, 3, none⟩ = some u) :
    (W.alloc o).cell? ⟨b, 0, none⟩ = some x ∧ (W.alloc o).cell? ⟨b, 1, none⟩ = some y ∧ (W.alloc o).cell? ⟨b, 2, none⟩ = some z ∧ (W.alloc o).cell? ⟨b, 3, none⟩ = some u := by
  obtain ⟨h0, h1, h2, h3⟩ := h
  simp [h0, h1, h2, h3, World.cell?_alloc_some]
theorem held_d {W : World} {b : Nat} {x y z u : Value} {o : Obj} (h : W.drew.cell? ⟨b, 0, none⟩ = some x ∧ W.drew.cell? ⟨b, 1, none⟩ = some y ∧ W.drew.cell? ⟨b, 2, none⟩ = some z ∧ W.drew.cell? ⟨b, 3, none⟩ = some u) :
    (W.alloc o).drew.cell? ⟨b, 0, none⟩ = some x ∧ (W.alloc o).drew.cell? ⟨b, 1, none⟩ = some y ∧ (W.alloc o).drew.cell? ⟨b, 2, none⟩ = some z ∧ (W.alloc o).drew.cell? ⟨b, 3, none⟩ = some u := held_a (W := W.drew) h
theorem held_s1 {W : World} {b : Nat} {x y z u p q r s : Value} (h : W.cell? ⟨b, 0, none⟩ = some x ∧ W.cell? ⟨b, 1, none⟩ = some y ∧ W.cell? ⟨b, 2, none⟩ = some z ∧ W.cell? ⟨b, 3, none⟩ = some u) :
    ((((W.setCell ⟨b + 1, 0, none⟩ p).setCell ⟨b + 1, 1, none⟩ q).setCell ⟨b + 1, 2, none⟩ r).setCell ⟨b + 1, 3, none⟩ s).cell? ⟨b, 0, none⟩ = some x ∧
    ((((W.setCell ⟨b + 1, 0, none⟩ p).setCell ⟨b + 1, 1, none⟩ q).setCell ⟨b + 1, 2, none⟩ r).setCell ⟨b + 1, 3, none⟩ s).cell? ⟨b, 1, none⟩ = some y ∧
    ((((W.setCell ⟨b + 1, 0, none⟩ p).setCell ⟨b + 1, 1, none⟩ q).setCell ⟨b + 1, 2, none⟩ r).setCell ⟨b + 1, 3, none⟩ s).cell? ⟨b, 2, none⟩ = some z ∧
    ((((W.setCell ⟨b + 1, 0, none⟩ p).setCell ⟨b + 1, 1, none⟩ q).setCell ⟨b + 1, 2, none⟩ r).setCell ⟨b + 1, 3, none⟩ s).cell? ⟨b, 3, none⟩ = some u := by
  obtain ⟨h0, h1, h2, h3⟩ := h
  simp [h0, h1, h2, h3, World.cell?_setCell_far]
theorem Sat.drop1 {X Q F : Asn} {w : World} (h : Sat (X * (Q * F)) w) : Sat (X * F) w := (h.of_eq (show X * (Q * F) = Q * (X * F) from by ac_rfl)).right
theorem nd4f {b : Nat} {x y z u : Value} {t : TypeId} {G : Asn} {w : World} (H : Sat (pts b (.cells #[x, y, z, u] t (0, 0)) * G) w) : w.frozen? ⟨b, 0, none⟩ = false ∧ w.frozen? ⟨b, 1, none⟩ = false ∧ w.frozen? ⟨b, 2, none⟩ = false ∧ w.frozen? ⟨b, 3, none⟩ = false :=
  ⟨Sat.free H.left.at 0, Sat.free H.left.at 1, Sat.free H.left.at 2, Sat.free H.left.at 3⟩
/-- Four cells are written. -/
theorem Sat.cells4 {b : Nat} {x y z u x' y' z' u' : Value} {t : TypeId} {G : Asn} {w : World} (H : Sat (pts b (.cells #[x, y, z, u] t (0, 0)) * G) w) :
    Sat (pts b (.cells #[x', y', z', u'] t (0, 0)) * G) ((((w.setCell ⟨b, 0, none⟩ x').setCell ⟨b, 1, none⟩ y').setCell ⟨b, 2, none⟩ z').setCell ⟨b, 3, none⟩ u') :=
  ((((H.cell 0 x').cell 1 y').cell 2 z').cell 3 u')
section
variable {F : Asn} {w : World} {R : Ending → World → Prop}

set_option maxRecDepth 100000 in
set_option maxHeartbeats 16000000 in
theorem copied_any {n : Ky.Nd} {v : Value} (hv : NdV F v n) (hl : n.es.length ≤ 5000 ∧ n.kids.length ≤ 5000 ∧ n.keys.length ≤ 5000) (H : Sat F w) (h : ∀ G v' w', NdV G v' n → Sat (G * F) w' → Io w w' → R (.returned v') w') :
    Calls Tryz.prog 119 #[v] w R := by
  obtain ⟨leaf, es, kids, keys⟩ := n
  obtain ⟨se, sk, sx, rfl, ⟨h1, h2⟩, ⟨h3, h4⟩, h5, h6⟩ := hv
  dsimp only at h1 h2 h3 h4 h5 h6 hl ⊢
  obtain ⟨a1, c1, rfl, m1⟩ := reads_shape h1
  obtain ⟨a3, c3, rfl, m3⟩ := reads_shape h3
  obtain ⟨a5, c5, rfl, m5⟩ := reads_shape h5
  have HH := Lib.hid h
  obtain ⟨n1, hn1⟩ : ∃ n, n = es.length := ⟨_, rfl⟩
  obtain ⟨n3, hn3⟩ : ∃ n, n = kids.length := ⟨_, rfl⟩
  obtain ⟨n5, hn5⟩ : ∃ n, n = keys.length := ⟨_, rfl⟩
  rw [← hn1] at h1
  rw [← hn3] at h3
  rw [← hn5] at h5
  simp only [← hn1, ← hn3, ← hn5]
  have L1 : Hid (es.length ≤ 10000) := Lib.hid (by omega)
  have L3 : Hid (kids.length ≤ 10000) := Lib.hid (by omega)
  have L5 : Hid (keys.length ≤ 10000) := Lib.hid (by omega)
  have P1 := Lib.hid h1
  have P3 := Lib.hid h3
  have P5 := Lib.hid h5
  clear h h1 h2 h3 h4 h5 h6 hl m1 m3 m5 hn1 hn3 hn5
  have I := ((Io.refl w).alloc (.cells #[.bool leaf, .slice a1 n1 c1, .slice a3 n3 c3, .slice a5 n5 c5] 140)).alloc (.cells #[.bool false, .slice none 0 0, .slice none 0 0, .slice none 0 0] 140)
  have H3 := ((H.new (.cells #[.bool leaf, .slice a1 n1 c1, .slice a3 n3 c3, .slice a5 n5 c5] 140)).new (.cells #[.bool false, .slice none 0 0, .slice none 0 0, .slice none 0 0] 140)).in_emp
  rw [heap_alloc] at H3
  go_enter Tryz.func119, Tryz.ntmps119
  go_wp2_with fail
  generalize ((w.alloc (.cells #[.bool leaf, .slice a1 n1 c1, .slice a3 n3 c3, .slice a5 n5 c5] 140)).alloc (.cells #[.bool false, .slice none 0 0, .slice none 0 0, .slice none 0 0] 140)) = w2 at *
  generalize hb1 : w.heap.size = b1 at *
  have Zu := nd4 H3.right.right
  replace I := I.drew
  replace H3 := H3.drew
  have Z := nd4 H3.right.right
  have Y := nd4 H3.right
  have Yf := nd4f H3.right
  have H' := H3
  clear H H3
  have H := H'
  clear H'
  go_region_held3 (fun W => W.cell? ⟨b1, 0, none⟩ = some (.bool leaf) ∧ W.cell? ⟨b1, 1, none⟩ = some (.slice a1 n1 c1) ∧ W.cell? ⟨b1, 2, none⟩ = some (.slice a3 n3 c3) ∧ W.cell? ⟨b1, 3, none⟩ = some (.slice a5 n5 c5)) ((with_reducible (first | exact Z | (refine held_d ?_; assumption) | (refine held_a ?_; assumption) | (refine held_s1 ?_; assumption)))) ((first
    | (go_at_call 121; (with_reducible (first | refine with_si H I (fun HS IS => ?_) | refine with_si (H.n1 _) (I.alloc _) (fun HS IS => ?_) | refine with_si ((H.n1 _).n1 _) ((I.alloc _).alloc _) (fun HS IS => ?_) | refine with_si (((H.n1 _).n1 _).n1 _) (((I.alloc _).alloc _).alloc _) (fun HS IS => ?_) | refine with_si ((((H.n1 _).n1 _).n1 _).n1 _) ((((I.alloc _).alloc _).alloc _).alloc _) (fun HS IS => ?_))); (try simp only [heap_alloc, Nat.add_assoc, Nat.reduceAdd] at HS); (with_reducible (first | refine glueE1_any (P1.out.imp (fun _ hw => hw.right.right.right)) L1.out HS.p1 ?_ | refine glueE1_any (P1.out.imp (fun _ hw => hw.right.right.right)) L1.out HS.p2 ?_ | refine glueE1_any (P1.out.imp (fun _ hw => hw.right.right.right)) L1.out HS.p3 ?_ | refine glueE1_any (P1.out.imp (fun _ hw => hw.right.right.right)) L1.out HS.p4 ?_ | refine glueE1_any (P1.out.imp (fun _ hw => hw.right.right.right)) L1.out HS.p5 ?_ | refine glueE1_any (P1.out.imp (fun _ hw => hw.right.right.right)) L1.out HS.p6 ?_ | refine glueE1_any (P1.out.imp (fun _ hw => hw.right.right.right)) L1.out HS.p7 ?_ | refine glueE1_any (P1.out.imp (fun _ hw => hw.right.right.right)) L1.out HS.p8 ?_)); clear H I Z Y Yf; (try clear Zu); intro vE wE H5 I5; obtain ⟨aE, mE, cE, rfl⟩ := rowOf_form3 H5; have RE := Lib.hid (Reads.of_row (emp_r H5.left) (by have := L1.out; omega)); have SE := Lib.hid (slOk_row H5); have H := H5.push; have I := IS.trans I5; clear H5 I5 HS IS; have Z := nd4 H.right.right; have Y := nd4 H.right; have Yf := nd4f H.right)
    | (go_at_call 122; (with_reducible (first | refine with_si H I (fun HS IS => ?_) | refine with_si (H.n1 _) (I.alloc _) (fun HS IS => ?_) | refine with_si ((H.n1 _).n1 _) ((I.alloc _).alloc _) (fun HS IS => ?_) | refine with_si (((H.n1 _).n1 _).n1 _) (((I.alloc _).alloc _).alloc _) (fun HS IS => ?_) | refine with_si ((((H.n1 _).n1 _).n1 _).n1 _) ((((I.alloc _).alloc _).alloc _).alloc _) (fun HS IS => ?_))); (try simp only [heap_alloc, Nat.add_assoc, Nat.reduceAdd] at HS); (with_reducible (first | refine glueNu1_any (P3.out.imp (fun _ hw => hw.right.right.right)) L3.out HS.p1 ?_ | refine glueNu1_any (P3.out.imp (fun _ hw => hw.right.right.right)) L3.out HS.p2 ?_ | refine glueNu1_any (P3.out.imp (fun _ hw => hw.right.right.right)) L3.out HS.p3 ?_ | refine glueNu1_any (P3.out.imp (fun _ hw => hw.right.right.right)) L3.out HS.p4 ?_ | refine glueNu1_any (P3.out.imp (fun _ hw => hw.right.right.right)) L3.out HS.p5 ?_ | refine glueNu1_any (P3.out.imp (fun _ hw => hw.right.right.right)) L3.out HS.p6 ?_ | refine glueNu1_any (P3.out.imp (fun _ hw => hw.right.right.right)) L3.out HS.p7 ?_ | refine glueNu1_any (P3.out.imp (fun _ hw => hw.right.right.right)) L3.out HS.p8 ?_)); clear H I Z Y Yf; (try clear Zu); intro vN wN H5 I5; obtain ⟨aN, mN, cN, rfl⟩ := rowOf_form3 H5; have RN := Lib.hid (Reads.of_row (emp_r H5.left) (by have := L3.out; omega)); have SN := Lib.hid (slOk_row H5); have H := H5.push; have I := IS.trans I5; clear H5 I5 HS IS; have Z := nd4 H.right.right; have Y := nd4 H.right; have Yf := nd4f H.right)
    | (go_at_call 123; (with_reducible (first | refine with_si H I (fun HS IS => ?_) | refine with_si (H.n1 _) (I.alloc _) (fun HS IS => ?_) | refine with_si ((H.n1 _).n1 _) ((I.alloc _).alloc _) (fun HS IS => ?_) | refine with_si (((H.n1 _).n1 _).n1 _) (((I.alloc _).alloc _).alloc _) (fun HS IS => ?_) | refine with_si ((((H.n1 _).n1 _).n1 _).n1 _) ((((I.alloc _).alloc _).alloc _).alloc _) (fun HS IS => ?_))); (try simp only [heap_alloc, Nat.add_assoc, Nat.reduceAdd] at HS); (with_reducible (first | refine glueTx1_any (P5.out.imp (fun _ hw => hw.right.right.right)) L5.out HS.p1 ?_ | refine glueTx1_any (P5.out.imp (fun _ hw => hw.right.right.right)) L5.out HS.p2 ?_ | refine glueTx1_any (P5.out.imp (fun _ hw => hw.right.right.right)) L5.out HS.p3 ?_ | refine glueTx1_any (P5.out.imp (fun _ hw => hw.right.right.right)) L5.out HS.p4 ?_ | refine glueTx1_any (P5.out.imp (fun _ hw => hw.right.right.right)) L5.out HS.p5 ?_ | refine glueTx1_any (P5.out.imp (fun _ hw => hw.right.right.right)) L5.out HS.p6 ?_ | refine glueTx1_any (P5.out.imp (fun _ hw => hw.right.right.right)) L5.out HS.p7 ?_ | refine glueTx1_any (P5.out.imp (fun _ hw => hw.right.right.right)) L5.out HS.p8 ?_)); clear H I Z Y Yf; (try clear Zu); intro vT wT H5 I5; obtain ⟨aT, mT, cT, rfl⟩ := rowOf_form3 H5; have RT := Lib.hid (Reads.of_row (emp_r H5.left) (by have := L5.out; omega)); have ST := Lib.hid (slOk_row H5); have H := H5.push; have I := IS.trans I5; clear H5 I5 HS IS; have Z := nd4 H.right.right; have Y := nd4 H.right; have Yf := nd4f H.right)))
  all_goals (
    obtain ⟨y0, y1, y2, y3⟩ := Y
    obtain ⟨f0, f1, f2, f3⟩ := Yf
    go_wp2_with fail
    have K := (H.sw).cells4 (x' := .bool leaf) (y' := .slice aE mE cE) (z' := .slice aN mN cN) (u' := .slice aT mT cT)
    have J := (((I.setCell ⟨b1 + 1, 0, none⟩ (.bool leaf)).setCell ⟨b1 + 1, 1, none⟩ (.slice aE mE cE)).setCell ⟨b1 + 1, 2, none⟩ (.slice aN mN cN)).setCell ⟨b1 + 1, 3, none⟩ (.slice aT mT cT)
    clear H I Z y0 y1 y2 y3 f0 f1 f2 f3
    generalize ((((wT.setCell ⟨b1 + 1, 0, none⟩ (.bool leaf)).setCell ⟨b1 + 1, 1, none⟩ (.slice aE mE cE)).setCell ⟨b1 + 1, 2, none⟩ (.slice aN mN cN)).setCell ⟨b1 + 1, 3, none⟩ (.slice aT mT cT)) = W at *
    obtain ⟨y0, y1, y2, y3⟩ := nd4 K
    exact bodyPost_ret (v := .agg #[.bool leaf, .slice aE mE cE, .slice aN mN cN, .slice aT mT cT]) (by simp [results, Tryz.results119, go_sem, y0, y1, y2, y3]) rfl (HH.out _ _ _ ⟨_, _, _, rfl, ⟨RE.out.imp (fun _ hw => emp_r hw.right.right.left), SE.out⟩, ⟨RN.out.imp (fun _ hw => emp_r hw.right.left), SN.out⟩, RT.out.imp (fun _ hw => emp_r hw.left), ST.out⟩ K.right.drop1 J))

end
end Go.Proofs.YtojiffhknddleaaGreatDoor

/-
  node.Encode, Child, by walks; what a node's bytes are, plain. It proves no statement by itself.
-/
namespace Go.Proofs.YtojiffhknddleaaGreatDoor
open Go.RowKit Go.Lib
set_option linter.unusedSimpArgs false
set_option linter.unusedVariables false
set_option linter.unusedSectionVars false
namespace Ky
def p4 (n : Int) : Nm := tx (be 4 n.toNat)
theorem p4_size (n : Int) : (p4 n).size = 4 := by unfold p4; rw [tx_size, be_four]; rfl
/-- Keys, each with the kid behind it. -/
def encP : List Nm → List Int → Nm
  | k :: l, c :: m => txt k ++ (p4 c ++ encP l m)
  | _, _ => ⟨#[]⟩
def encN (n : Nd) : Nm := if n.leaf then encL n.es else match n.kids with
  | c :: m => p4 c ++ encP n.keys m
  | [] => ⟨#[]⟩
theorem encN_leaf (es : List En) : encN (lf es) = encL es := rfl
theorem encN_inner (c : Int) (m : List Int) (keys : List Nm) : encN (inn (c :: m) keys) = p4 c ++ encP keys m := rfl
theorem encP_drop {l : List Nm} {m : List Int} {k : Nat} (hl : k < l.length) (hm : k < m.length) : encP (l.drop k) (m.drop k) = txt l[k] ++ (p4 m[k] ++ encP (l.drop (k + 1)) (m.drop (k + 1))) := by
  rw [List.drop_eq_getElem_cons hl, List.drop_eq_getElem_cons hm]
  rfl
theorem encP_take : ∀ {l : List Nm} {m : List Int} {k : Nat} (hl : k < l.length) (hm : k < m.length), encP (l.take (k + 1)) (m.take (k + 1)) = encP (l.take k) (m.take k) ++ (txt l[k] ++ p4 m[k])
  | x :: l, y :: m, 0, _, _ => by simp [encP, nil_add, add_nil]
  | x :: l, y :: m, k + 1, hl, hm => by
    have ih := encP_take (l := l) (m := m) (k := k) (by simpa using hl) (by simpa using hm)
    rw [List.take_succ_cons, List.take_succ_cons, List.take_succ_cons, List.take_succ_cons]
    simp only [encP, ih, List.getElem_cons_succ]
    rw [ba_assoc, ba_assoc]
theorem encP_size : ∀ {l : List Nm} {m : List Int}, l.length = m.length → (encP l m).size = keysSize l
  | [], [], _ => rfl
  | x :: l, y :: m, h => by
    have ih := encP_size (l := l) (m := m) (by simpa using h)
    simp only [encP, ByteArray.size_append, txt_size, p4_size, ih, keysSize]
    omega
theorem encN_size {n : Nd} (h : NdR n) : (encN n).size = ndSize n := by
  cases h with
  | leaf h => rw [encN_leaf, encL_size]; rfl
  | @inner kids keys h =>
    obtain ⟨c, m, rfl⟩ : ∃ c m, kids = c :: m := by
      cases kids with
      | nil => have := h.len; simp at this
      | cons c m => exact ⟨c, m, rfl⟩
    rw [encN_inner, ByteArray.size_append, p4_size, encP_size (by have := h.len; simpa using this.symm)]
    rfl
def kind (n : Nd) : Int := if n.leaf then 1 else 2
end Ky
section
variable {F : Asn} {w : World} {R : Ending → World → Prop}
set_option maxRecDepth 100000 in
set_option maxHeartbeats 4000000 in
theorem nencode_leaf {es : List Ky.En} {v : Value} (hr : Ky.Right es) (hz : Ky.size es ≤ 240) (hv : NdV F v (Ky.lf es)) (hl : es.length ≤ 5000) (H : Sat F w) (h : ∀ w', Sat F w' → Io w w' → R (.returned (.tuple #[.int .u8 1, .string (Ky.encL es), .int .i64 0])) w') :
    Calls Tryz.prog 125 #[v] w R := by
  obtain ⟨se, sk, sx, rfl, hh⟩ := id hv
  dsimp only [Ky.lf] at hh
  obtain ⟨⟨h1, h2⟩, h34, h56⟩ := hh
  have HV := Lib.hid hv
  have HR := Lib.hid hr
  have P1 := Lib.hid h1
  have HH := Lib.hid h
  have HD : Hid (true = decide (Ky.ndSize (Ky.lf es) ≤ 240)) := Lib.hid (decide_eq_true hz).symm
  clear h hv h1 h2 h34 h56 hr
  have H1 := H.new (.cells #[.bool true, se, sk, sx] 140)
  have I1 := (Io.refl w).alloc (.cells #[.bool true, se, sk, sx] 140)
  obtain ⟨q0, q1, q2, q3⟩ := nd4 H1
  go_enter Tryz.func125, Tryz.ntmps125
  go_wp2_with (first
    | (go_at_call 118; refine nright_any (.leaf HR.out) HV.out.with ⟨hl, Nat.zero_le _⟩ H1 ?_; intro w2 H2 I2; obtain ⟨q0, q1, q2, q3⟩ := nd4 H2)
    | (go_at_call 129; refine nfits_any (.leaf HR.out) HV.out.with ⟨hl, Nat.zero_le _⟩ H2 HD ?_; intro w3 H3 I3; obtain ⟨q0, q1, q2, q3⟩ := nd4 H3)
    | (go_at_call 143; refine encode_any HR.out P1.out.with hl H3 (Lib.hid rfl) ?_; intro w4 H4 I4))
  exact bodyPost_ret (v := .tuple #[.int .u8 1, .string (Ky.encL es), .int .i64 0]) (by simp [results, Tryz.results125, go_sem]) rfl (HH.out _ H4.right (((I1.trans I2).trans I3).trans I4))
theorem p4_nat (m : Nat) : Ky.p4 (m : Int) = tx (be 4 m) := by unfold Ky.p4; rw [Int.toNat_natCast]
set_option maxRecDepth 100000 in
set_option maxHeartbeats 4000000 in
theorem nencode_inner {c0 : Int} {kt : List Int} {keys : List Ky.Nm} {v : Value} (hr : Ky.InR (c0 :: kt) keys) (hz : 4 + Ky.keysSize keys ≤ 240) (hv : NdV F v (Ky.inn (c0 :: kt) keys)) (hl : kt.length ≤ 4000) (H : Sat F w) (h : ∀ w', Sat F w' → Io w w' → R (.returned (.tuple #[.int .u8 2, .string (Ky.p4 c0 ++ Ky.encP keys kt), .int .i64 0])) w') :
    Calls Tryz.prog 125 #[v] w R := by
  have HV := Lib.hid hv
  obtain ⟨se, sk, sx, rfl, hh⟩ := hv
  dsimp only [Ky.inn] at hh
  obtain ⟨h12, ⟨h3, h4⟩, h5, h6⟩ := hh
  obtain ⟨a3, c3, rfl, m3⟩ := reads_shape h3
  obtain ⟨a5, c5, rfl, m5⟩ := reads_shape h5
  have HR := Lib.hid hr
  have P3 := Lib.hid (fun k hk => readsNu_get h3 k hk)
  have P5 := Lib.hid (fun k hk => readsTx_get h5 k hk)
  have HH := Lib.hid h
  have HD : Hid (true = decide (Ky.ndSize (Ky.inn (c0 :: kt) keys) ≤ 240)) := Lib.hid (decide_eq_true hz).symm
  have HLK : Hid (kt.length = keys.length) := Lib.hid (by have := hr.len; simpa using this)
  have HC := Lib.hid hr.chk
  have HI := Lib.hid hr.ids
  have hle : Hid (((c0 :: kt).length ≤ 5000)) := Lib.hid (by rw [List.length_cons]; omega)
  have HB : Hid (∀ k, k ≤ keys.length → (Ky.encP (keys.take k) (kt.take k)).size ≤ 300) := Lib.hid (fun k hk => by
    have e := hr.len
    rw [List.length_cons] at e
    rw [Ky.encP_size (by rw [List.length_take, List.length_take]; omega)]
    have h1 : Ky.keysSize (keys.take k) + Ky.keysSize (keys.drop k) = Ky.keysSize keys := by rw [← Ky.keysSize_append, List.take_append_drop]
    omega)
  obtain ⟨nk, hnk⟩ : ∃ nk, nk = (c0 :: kt).length := ⟨_, rfl⟩
  have HNK : Hid (nk = keys.length + 1) := Lib.hid (by rw [hnk]; exact hr.len)
  have n1 : (0 : Int) < (nk : Int) := by rw [hnk, List.length_cons]; omega
  have hi0 := hr.ids c0 (List.mem_cons_self ..)
  obtain ⟨b3, o3, x3, hsh, hx3, g3⟩ := P3.out 0 (by rw [List.length_cons]; omega)
  subst hsh
  rw [List.getElem_cons_zero] at hx3
  subst hx3
  obtain ⟨m0, rfl⟩ : ∃ m0 : Nat, c0 = (m0 : Int) := ⟨c0.toNat, by omega⟩
  have hm0 : m0 < 4294967296 := by omega
  rw [p4_nat] at HH
  have G3 := Lib.hid g3
  rw [← hnk] at HV ⊢
  have P3' : Hid (∀ k (hk : k < kt.length), ∃ x, kt[k] = x ∧ (2 ≤ x ∧ x ≤ 4294967295) ∧ ∀ w, Sat F w → w.cell? ⟨b3, o3 + (k + 1), none⟩ = some (.int .i64 x)) := Lib.hid (fun k hk => by
    obtain ⟨b', o', x, e, hx, g⟩ := P3.out (k + 1) (by rw [List.length_cons]; omega)
    cases e
    rw [List.getElem_cons_succ] at hx
    exact ⟨x, hx, hx ▸ HI.out _ (List.mem_cons_of_mem _ (List.getElem_mem hk)), g⟩)
  have hkl : keys.length ≤ 4000 := by have := HLK.out; omega
  clear h h12 h3 h4 h5 h6 hr hl P3 hi0 g3 hz
  change Calls Tryz.prog 125 #[.agg #[.bool false, se, .slice (some ⟨b3, o3, none⟩) nk c3, .slice a5 keys.length c5]] w R
  have H1 := H.new (.cells #[.bool false, se, .slice (some ⟨b3, o3, none⟩) nk c3, .slice a5 keys.length c5] 140)
  have I1 := (Io.refl w).alloc (.cells #[.bool false, se, .slice (some ⟨b3, o3, none⟩) nk c3, .slice a5 keys.length c5] 140)
  obtain ⟨q0, q1, q2, q3⟩ := nd4 H1
  have HNK2 := Lib.hid hnk
  clear hnk
  go_enter Tryz.func125, Tryz.ntmps125
  go_wp2_with (first
    | (go_at_call 118; refine nright_any (.inner HR.out) (HV.out.with) ⟨Nat.zero_le _, hle.out⟩ H1 ?_; intro w2 H2 I2; obtain ⟨q0, q1, q2, q3⟩ := nd4 H2)
    | (go_at_call 129; refine nfits_any (.inner HR.out) (HV.out.with) ⟨Nat.zero_le _, hle.out⟩ H2 HD ?_; intro w3 H3 I3; obtain ⟨q0, q1, q2, q3⟩ := nd4 H3; have g0 := G3.out w3 H3.right; simp only [Nat.add_zero] at g0)
    | (go_at_call 37; refine put4_yes m0 hm0 H3 ?_; intro w4 H4 I4; obtain ⟨q0, q1, q2, q3⟩ := nd4 H4))
  have J4 := ((I1.trans I2).trans I3).trans I4
  have T0 : (tx (be 4 m0)).size = 4 := by rw [← p4_nat, Ky.p4_size]
  generalize tx (be 4 m0) = s4 at *
  clear q0 q1 q2 q3 I1 I2 I3 I4 H1 H2 H3 g0
  go_loopw [7, 45] (fun t x wr => ∃ (k : Nat), k ≤ keys.length ∧ x = .int .i64 (k : Int) ∧ t = .string (s4 ++ Ky.encP (keys.take k) (kt.take k)) ∧ Sat (pts w.heap.size (.cells #[.bool false, se, .slice (some ⟨b3, o3, none⟩) nk c3, .slice a5 keys.length c5] 140 (0, 0)) * F) wr ∧ Io w wr) (fun _ x _ => keys.length - (RowKit.intOf x).toNat)
  case atStart => exact ⟨0, by omega, rfl, by simp [Ky.encP, Ky.add_nil], H4, J4⟩
  case round =>
    obtain ⟨k, hk, rfl, rfl, Hk, Ik⟩ := hrel
    have hb := HB.out k hk
    obtain ⟨r0, r1, r2, r3⟩ := nd4 Hk
    by_cases hlt : k < keys.length
    · have hlti : (k : Int) < (keys.length : Int) := by omega
      have hk0 : (0 : Int) ≤ (k : Int) := by omega
      have hk1 : (k : Int) ≤ 4000 := by omega
      obtain ⟨b', off, key, rfl, hx, hc⟩ := P5.out k hlt
      have g1 := hc wr Hk.right
      obtain ⟨xk, hxk, hxr, hg⟩ := P3'.out k (by have := HLK.out; omega)
      obtain ⟨mk, rfl⟩ : ∃ mk : Nat, xk = (mk : Int) := ⟨xk.toNat, by omega⟩
      have hmk : mk < 4294967296 := by omega
      have hck := HC.out _ (List.getElem_mem hlt)
      rw [hx] at hck
      obtain ⟨ck1, ck2⟩ := hck
      have HT : Hid (Ky.encP (keys.take (k + 1)) (kt.take (k + 1)) = Ky.encP (keys.take k) (kt.take k) ++ (Ky.txt key ++ tx (be 4 mk))) := Lib.hid (by rw [Ky.encP_take hlt (by have := HLK.out; omega), hx, hxk, p4_nat])
      obtain ⟨jj, hjj⟩ : ∃ jj, jj = k + 1 := ⟨_, rfl⟩
      rw [← hjj] at hg HT
      have hj1 : (k : Int) + 1 = (jj : Int) := by omega
      have hj2 : (jj : Int) < (nk : Int) := by have := HNK.out; omega
      have hj3 : (0 : Int) ≤ (jj : Int) := by omega
      have hj4 : (jj : Int) ≤ 4001 := by omega
      have HG := Lib.hid hg
      have HJ := Lib.hid hjj
      have z1 : (Ky.txt key).size = 1 + key.size := Ky.txt_size _
      have z2 : (tx (be 4 mk)).size = 4 := by rw [← p4_nat, Ky.p4_size]
      clear hc hx hg hxk hxr hjj
      generalize Ky.encP (keys.take k) (kt.take k) = s0 at *
      go_wp2_with (go_at_call 148; refine text_any _ (by omega) Hk (Lib.hid rfl) ?_; intro w2 H2 I2; obtain ⟨q0, q1, q2, q3⟩ := nd4 H2; have g2 := HG.out w2 H2.right)
      go_wp2_with (go_at_call 37; refine put4_yes mk hmk H2 ?_; intro w3 H3 I3)
      generalize Ky.txt key = t1 at *
      generalize tx (be 4 mk) = t2 at *
      go_roundw
      case rel => exact ⟨jj, by have := HJ.out; omega, by go_num, by rw [HT.out, ba_assoc], H3, (Ik.trans I2).trans I3⟩
      case measure => have := HJ.out; simp [RowKit.intOf]; omega
    · obtain rfl : k = keys.length := by omega
      have hge : ¬ (keys.length : Int) < (keys.length : Int) := by omega
      have e1 : keys.take keys.length = keys := List.take_length
      have e2 : kt.take keys.length = kt := by rw [← HLK.out, List.take_length]
      rw [e1, e2]
      clear P3' e1 e2
      generalize Ky.encP keys kt = s0 at *
      go_wp2_with fail
      exact bodyPost_ret (v := .tuple #[.int .u8 2, .string (s4 ++ s0), .int .i64 0]) (by simp [results, Tryz.results125, go_sem]) rfl (HH.out _ Hk.right Ik)
/-- A NODE's BYTES. -/
theorem nencode_any {n : Ky.Nd} {v : Value} (hr : Ky.NdR n) (hz : Ky.ndSize n ≤ 240) (hv : NdV F v n) (H : Sat F w) (h : ∀ w', Sat F w' → Io w w' → R (.returned (.tuple #[.int .u8 (Ky.kind n), .string (Ky.encN n), .int .i64 0])) w') :
    Calls Tryz.prog 125 #[v] w R := by
  cases hr with
  | @leaf es hr =>
    have hl := (Tb.size_low hr.1).1
    have hz' : Ky.size es ≤ 240 := hz
    exact nencode_leaf hr hz' hv (by omega) H h
  | @inner kids keys hr =>
    have hz' : 4 + Ky.keysSize keys ≤ 240 := hz
    have hl := (Tb.keysSize_low hr.chk).1
    have hlen := hr.len
    cases kids with
    | nil => simp at hlen
    | cons c m => exact nencode_inner hr hz' hv (by rw [List.length_cons] at hlen; omega) H h
end
end Go.Proofs.YtojiffhknddleaaGreatDoor

/-
  node.Decode, by walks. It proves no statement by itself.
-/
namespace Go.Proofs.YtojiffhknddleaaGreatDoor
open Go.RowKit Go.Lib
set_option linter.unusedSimpArgs false
set_option linter.unusedVariables false
set_option linter.unusedSectionVars false
theorem nilOk : SlOk (.slice none 0 0) 0 := .inl ⟨rfl, rfl⟩
section
variable {F : Asn} {w : World} {R : Ending → World → Prop}
set_option maxRecDepth 100000 in
set_option maxHeartbeats 4000000 in
theorem ndecode_leaf {es : List Ky.En} (hr : Ky.Right es) (hz : Ky.size es ≤ 240) (H : Sat F w) (h : ∀ G v w', NdV G v (Ky.lf es) → Sat (G * F) w' → Io w w' → R (.returned (.tuple #[v, .int .i64 0])) w') :
    Calls Tryz.prog 113 #[.int .u8 1, .string (Ky.encL es)] w R := by
  have HH := Lib.hid h
  have HR := Lib.hid hr
  have HD : Hid (true = decide (Ky.ndSize (Ky.lf es) ≤ 240)) := Lib.hid (decide_eq_true hz).symm
  have HL : Hid (es.length ≤ 5000) := Lib.hid (by have := (Tb.size_low hr.1).1; omega)
  have HZ : Hid (Ky.size es ≤ 5000) := Lib.hid (by omega)
  clear h hr hz
  have I1 := ((Io.refl w).alloc (.cells #[.bool false, .slice none 0 0, .slice none 0 0, .slice none 0 0] 140)).alloc (.cells #[.bool false, .slice none 0 0, .slice none 0 0, .slice none 0 0] 140)
  have H1 := (H.new (.cells #[.bool false, .slice none 0 0, .slice none 0 0, .slice none 0 0] 140)).new (.cells #[.bool false, .slice none 0 0, .slice none 0 0, .slice none 0 0] 140)
  rw [heap_alloc] at H1
  generalize hs : Ky.encL es = s at *
  have HS : Hid (s = Ky.encL es) := Lib.hid hs.symm
  clear hs
  go_enter Tryz.func113, Tryz.ntmps113
  go_upto_region 3 with fail
  generalize ((w.alloc (.cells #[.bool false, .slice none 0 0, .slice none 0 0, .slice none 0 0] 140)).alloc (.cells #[.bool false, .slice none 0 0, .slice none 0 0, .slice none 0 0] 140)) = w1 at *
  generalize hb : w.heap.size = b at *
  obtain ⟨q0, q1, q2, q3⟩ := nd4 H1
  obtain ⟨f0, f1, f2, f3⟩ := nd4f H1
  have K1 : Sat (pts (b + 1) (.cells #[.bool true, .slice none 0 0, .slice none 0 0, .slice none 0 0] 140 (0, 0)) * (pts b (.cells #[.bool false, .slice none 0 0, .slice none 0 0, .slice none 0 0] 140 (0, 0)) * F)) (w1.setCell ⟨b + 1, 0, none⟩ (.bool true)) := H1.cell 0 (.bool true)
  have J1 := I1.setCell ⟨b + 1, 0, none⟩ (.bool true)
  go_upto_region 6 with fail
  generalize w1.setCell ⟨b + 1, 0, none⟩ (.bool true) = w2 at *
  clear q0 q1 q2 q3 f0 f1 f2 f3 H1 I1 H
  go_upto_region 14 with (go_at_call 139; refine decode_any HR.out HZ.out K1 HS ?_; intro v w3 H3 I3; have RE := Lib.hid (Reads.of_row (emp_r H3.left) (by have := HL.out; omega)); have SE := Lib.hid (slOk_row H3); obtain ⟨a3, m3, c3, rfl⟩ := rowOf_form3 H3; obtain ⟨q0, q1, q2, q3⟩ := nd4 H3.right; obtain ⟨f0, f1, f2, f3⟩ := nd4f H3.right)
  have K3 : Sat (pts (b + 1) (.cells #[.bool true, .slice a3 m3 c3, .slice none 0 0, .slice none 0 0] 140 (0, 0)) * (RowE (.slice a3 m3 c3) es * (pts b (.cells #[.bool false, .slice none 0 0, .slice none 0 0, .slice none 0 0] 140 (0, 0)) * F))) (w3.setCell ⟨b + 1, 1, none⟩ (.slice a3 m3 c3)) := (H3.sw).cell 1 (.slice a3 m3 c3)
  have J3 := (J1.trans I3).setCell ⟨b + 1, 1, none⟩ (.slice a3 m3 c3)
  generalize w3.setCell ⟨b + 1, 1, none⟩ (.slice a3 m3 c3) = w4 at *
  clear q0 q1 q2 q3 f0 f1 f2 f3 H3 I3 J1 K1
  have NV : Hid (NdV (pts (b + 1) (.cells #[.bool true, .slice a3 m3 c3, .slice none 0 0, .slice none 0 0] 140 (0, 0)) * (RowE (.slice a3 m3 c3) es * (pts b (.cells #[.bool false, .slice none 0 0, .slice none 0 0, .slice none 0 0] 140 (0, 0)) * F))) (.agg #[.bool true, .slice a3 m3 c3, .slice none 0 0, .slice none 0 0]) (Ky.lf es)) :=
    Lib.hid ⟨_, _, _, rfl, ⟨RE.out.imp (fun _ hw => emp_r hw.right.left), SE.out⟩, ⟨reads_none _ none 0, nilOk⟩, reads_none _ none 0, nilOk⟩
  obtain ⟨q0, q1, q2, q3⟩ := nd4 K3
  go_wp2_with (go_at_call 129; refine nfits_any (.leaf HR.out) NV.out ⟨HL.out, Nat.zero_le _⟩ K3 HD ?_; intro w5 H5 I5; obtain ⟨q0, q1, q2, q3⟩ := nd4 H5; obtain ⟨g0, g1, g2, g3⟩ := nd4 H5.right.right; obtain ⟨f0, f1, f2, f3⟩ := nd4f H5.right.right)
  have K5 := (H5.of_eq (show _ = pts b (.cells #[.bool false, .slice none 0 0, .slice none 0 0, .slice none 0 0] 140 (0, 0)) * (RowE (.slice a3 m3 c3) es * (F * pts (b + 1) (.cells #[.bool true, .slice a3 m3 c3, .slice none 0 0, .slice none 0 0] 140 (0, 0)))) from by ac_rfl)).cells4 (x' := .bool true) (y' := .slice a3 m3 c3) (z' := .slice none 0 0) (u' := .slice none 0 0)
  have J5 := ((((J3.trans I5).setCell ⟨b, 0, none⟩ (.bool true)).setCell ⟨b, 1, none⟩ (.slice a3 m3 c3)).setCell ⟨b, 2, none⟩ (.slice none 0 0)).setCell ⟨b, 3, none⟩ (.slice none 0 0)
  generalize ((((w5.setCell ⟨b, 0, none⟩ (.bool true)).setCell ⟨b, 1, none⟩ (.slice a3 m3 c3)).setCell ⟨b, 2, none⟩ (.slice none 0 0)).setCell ⟨b, 3, none⟩ (.slice none 0 0)) = W at *
  clear q0 q1 q2 q3 g0 g1 g2 g3 f0 f1 f2 f3
  obtain ⟨y0, y1, y2, y3⟩ := nd4 K5
  exact bodyPost_ret (v := .tuple #[.agg #[.bool true, .slice a3 m3 c3, .slice none 0 0, .slice none 0 0], .int .i64 0]) (by simp [results, Tryz.results113, go_sem, y0, y1, y2, y3]) rfl
    (HH.out (RowE (.slice a3 m3 c3) es) _ _ ⟨_, _, _, rfl, ⟨RE.out.imp (fun _ hw => emp_r hw), SE.out⟩, ⟨reads_none _ none 0, nilOk⟩, reads_none _ none 0, nilOk⟩ (K5.right.of_eq (show RowE (.slice a3 m3 c3) es * (F * _) = (RowE (.slice a3 m3 c3) es * F) * _ from (star_assoc _ _ _).symm)).left J5)
end
end Go.Proofs.YtojiffhknddleaaGreatDoor

/-
  node.Decode of a node above others, by walks. It proves no statement by itself.
-/
namespace Go.Proofs.YtojiffhknddleaaGreatDoor
open Go.RowKit Go.Lib
set_option linter.unusedSimpArgs false
set_option linter.unusedVariables false
set_option linter.unusedSectionVars false
/-- How much a reader has left. -/
def rdLeft (p : Nat) (w : World) : Nat := match w.cell? ⟨p, 0, none⟩ with
  | some (.string s) => s.size
  | _ => 0
theorem rdLeft_of {p : Nat} {r : Rd} {F : Asn} {w : World} (H : Sat (IsRd p r * F) w) : rdLeft p w = r.rest.size := by
  have := (rd_cells H).2.1
  unfold rdLeft
  rw [this]
theorem row_lit {α : Type} {enc : α → List Value} {sz : Nat} (he : Enc enc sz) {e : TypeId} {g : Nat} (y : α) {F : Asn} {w : World} (H : Sat (pts g (.cells (enc y).toArray e (0, 0)) * F) w) : Sat (RowOf e sz enc (.slice (some ⟨g, 0, none⟩) 1 1) [y] * F) w := by
  unfold RowOf
  refine sat_row.2 ⟨by simp [cellsOf, he.len], .inr ⟨g, 1, (enc y).toArray, rfl, by simp, by unfold maxLen; omega, by simp [he.len], ?_, H⟩⟩
  simp only [cellsOf, List.flatMap_cons, List.flatMap_nil, List.append_nil, List.length_singleton, Nat.one_mul, List.toList_toArray]
  rw [← he.len y, List.take_length]
section
variable {F : Asn} {w : World} {R : Ending → World → Prop} {p : Nat}
theorem rint4_any (m : Nat) (rest : ByteArray) (hm : m < 4294967296) (hr : rest.size ≤ 100000) (H : Sat (IsRd p ⟨Ky.p4 (m : Int) ++ rest, 0⟩ * F) w) (h : ∀ w', Sat (IsRd p ⟨rest, 0⟩ * F) w' → Io w w' → R (.returned (.int .i64 (m : Int))) w') :
    Calls Tryz.prog 64 #[.pointer (some ⟨p, 0, none⟩), .int .i64 4] w R := by
  have z0 : (Ky.p4 (m : Int)).size = 4 := Ky.p4_size _
  have q2 : (Ky.p4 (m : Int) ++ rest).size ≤ 1000000 := by rw [ByteArray.size_append, z0]; omega
  have b2 := bR_at (a := Ky.p4 (m : Int)) (b := rest) (n := 4) z0.symm
  have n1 : (⟨Ky.p4 (m : Int) ++ rest, 0⟩ : Rd).num 4 = m := by
    unfold Rd.num
    rw [bS_at z0.symm, p4_nat, tx_list, un_be]
    exact Nat.mod_eq_of_lt (by omega)
  refine int_any H q2 4 (.inr (.inr rfl)) fun w1 H1 I1 => ?_
  rw [show ((4 : Nat) : Int) = 4 from rfl] at H1
  have b2' : (⟨Ky.p4 (m : Int) ++ rest, 0⟩ : Rd).bR (4 : Int) = ⟨rest, 0⟩ := b2
  rw [b2'] at H1
  rw [n1]
  exact h w1 H1 I1
set_option maxRecDepth 100000 in
set_option maxHeartbeats 8000000 in
theorem ndecode_inner {c0 : Int} {kt : List Int} {keys : List Ky.Nm} (hr : Ky.InR (c0 :: kt) keys) (hz : 4 + Ky.keysSize keys ≤ 240) (H : Sat F w) (h : ∀ G v w', NdV G v (Ky.inn (c0 :: kt) keys) → Sat (G * F) w' → Io w w' → R (.returned (.tuple #[v, .int .i64 0])) w') :
    Calls Tryz.prog 113 #[.int .u8 2, .string (Ky.p4 c0 ++ Ky.encP keys kt)] w R := by
  have HH := Lib.hid h
  have HR := Lib.hid hr
  have HD : Hid (true = decide (Ky.ndSize (Ky.inn (c0 :: kt) keys) ≤ 240)) := Lib.hid (decide_eq_true hz).symm
  have HC := Lib.hid hr.chk
  have HI := Lib.hid hr.ids
  have HLK : Hid (kt.length = keys.length) := Lib.hid (by have := hr.len; simpa using this)
  have hkl : keys.length ≤ 60 := by have := (Tb.keysSize_low hr.chk).1; omega
  have HB : Hid (∀ k, (Ky.encP (keys.drop k) (kt.drop k)).size ≤ 300) := Lib.hid (fun k => by
    have e := hr.len
    rw [List.length_cons] at e
    rw [Ky.encP_size (by rw [List.length_drop, List.length_drop]; omega)]
    have h1 : Ky.keysSize (keys.take k) + Ky.keysSize (keys.drop k) = Ky.keysSize keys := by rw [← Ky.keysSize_append, List.take_append_drop]
    omega)
  have hi0 := hr.ids c0 (List.mem_cons_self ..)
  obtain ⟨m0, rfl⟩ : ∃ m0 : Nat, c0 = (m0 : Int) := ⟨c0.toNat, by omega⟩
  have hm0 : m0 < 4294967296 := by omega
  clear h hr hz hi0
  have I1 := ((Io.refl w).alloc (.cells #[.bool false, .slice none 0 0, .slice none 0 0, .slice none 0 0] 140)).alloc (.cells #[.bool false, .slice none 0 0, .slice none 0 0, .slice none 0 0] 140)
  have H1 := (H.new (.cells #[.bool false, .slice none 0 0, .slice none 0 0, .slice none 0 0] 140)).new (.cells #[.bool false, .slice none 0 0, .slice none 0 0, .slice none 0 0] 140)
  rw [heap_alloc] at H1
  obtain ⟨s, hs⟩ : ∃ s, s = Ky.p4 (m0 : Int) ++ Ky.encP keys kt := ⟨_, rfl⟩
  have HS := Lib.hid hs
  rw [← hs]
  clear hs
  go_enter Tryz.func113, Tryz.ntmps113
  go_upto_region 3 with fail
  generalize ((w.alloc (.cells #[.bool false, .slice none 0 0, .slice none 0 0, .slice none 0 0] 140)).alloc (.cells #[.bool false, .slice none 0 0, .slice none 0 0, .slice none 0 0] 140)) = w1 at *
  generalize hb : w.heap.size = b at *
  go_upto_region 9 with (go_at_call 62; refine read_new H1 _ ?_; intro p w2 H2 I2)
  have HB0 := HB.out 0
  rw [List.drop_zero, List.drop_zero] at HB0
  go_upto_region 10 with (go_at_call 64; refine rint4_any m0 (Ky.encP keys kt) hm0 (by omega) (H2.of_eq (by rw [← HS.out])) ?_; intro w3 H3 I3; have H4 := H3.new (.cells #[.int .i64 (m0 : Int)] 3); obtain ⟨q0, q1, q2, q3⟩ := nd4 H4.right.right; obtain ⟨f0, f1, f2, f3⟩ := nd4f H4.right.right)
  have K4 := row_lit encNu_ok (m0 : Int) H4
  have K5 := (K4.of_eq (show _ = pts (b + 1) (.cells #[.bool false, .slice none 0 0, .slice none 0 0, .slice none 0 0] 140 (0, 0)) * (IsRd p ⟨Ky.encP keys kt, 0⟩ * (RowNu (.slice (some ⟨w3.heap.size, 0, none⟩) 1 1) [(m0 : Int)] * (pts b (.cells #[.bool false, .slice none 0 0, .slice none 0 0, .slice none 0 0] 140 (0, 0)) * F))) from by unfold RowNu; ac_rfl)).cell 2 (.slice (some ⟨w3.heap.size, 0, none⟩) 1 1)
  simp only [List.setIfInBounds_toArray, List.set_cons_succ, List.set_cons_zero] at K5
  have J5 := ((((I1.trans I2).trans I3).alloc (.cells #[.int .i64 (m0 : Int)] 3)).setCell ⟨b + 1, 2, none⟩ (.slice (some ⟨w3.heap.size, 0, none⟩) 1 1))
  generalize (w3.alloc (.cells #[.int .i64 (m0 : Int)] 3)).setCell ⟨b + 1, 2, none⟩ (.slice (some ⟨w3.heap.size, 0, none⟩) 1 1) = w5 at *
  clear q0 q1 q2 q3 f0 f1 f2 f3 H1 H2 H3 H4 I1 I2 I3 K4 H
  have K6 : Sat (IsRd p ⟨Ky.encP keys kt, 0⟩ * (RowNu (.slice (some ⟨w3.heap.size, 0, none⟩) 1 1) [(m0 : Int)] * (RowTx (.slice none 0 0) [] * (pts (b + 1) (.cells #[.bool false, .slice none 0 0, .slice (some ⟨w3.heap.size, 0, none⟩) 1 1, .slice none 0 0] 140 (0, 0)) * (pts b (.cells #[.bool false, .slice none 0 0, .slice none 0 0, .slice none 0 0] 140 (0, 0)) * F))))) w5 :=
    (rowOf_nil K5 (enc := encTx) (sz := 1) (e := 9)).of_eq (by unfold RowTx RowNu; ac_rfl)
  generalize w3.heap.size = g3 at *
  go_loopw [28] (fun _ wr => ∃ (k : Nat) (kv xv : Value), k ≤ keys.length ∧ Sat (IsRd p ⟨Ky.encP (keys.drop k) (kt.drop k), 0⟩ * (RowNu kv ((m0 : Int) :: kt.take k) * (RowTx xv (keys.take k) * (pts (b + 1) (.cells #[.bool false, .slice none 0 0, kv, xv] 140 (0, 0)) * (pts b (.cells #[.bool false, .slice none 0 0, .slice none 0 0, .slice none 0 0] 140 (0, 0)) * F))))) wr ∧ Io w wr) (fun _ wr => rdLeft p wr)
  case atStart => exact ⟨0, _, _, Nat.zero_le _, K6, J5⟩
  case round =>
    obtain ⟨k, kv, xv, hk, Hk, Ik⟩ := hrel
    rw [rdLeft_of Hk]
    have hq := HB.out k
    obtain ⟨a3, n3, c3, rfl⟩ := rowOf_form3 Hk.right
    obtain ⟨a5, n5, c5, rfl⟩ := rowOf_form3 Hk.right.right
    by_cases hlt : k < keys.length
    · obtain ⟨key, hx⟩ : ∃ x, keys[k] = x := ⟨_, rfl⟩
      have hlt2 : k < kt.length := by have := HLK.out; omega
      obtain ⟨mi, hmi⟩ : ∃ x, kt[k] = x := ⟨_, rfl⟩
      have hir := HI.out _ (List.mem_cons_of_mem _ (List.getElem_mem hlt2))
      rw [hmi] at hir
      obtain ⟨mk, rfl⟩ : ∃ mk : Nat, mi = (mk : Int) := ⟨mi.toNat, by omega⟩
      have hmk : mk < 4294967296 := by omega
      have hck := HC.out _ (List.getElem_mem hlt)
      rw [hx] at hck
      obtain ⟨ck1, ck2⟩ := hck
      have e1 : Ky.encP (keys.drop k) (kt.drop k) = Ky.txt key ++ (Ky.p4 (mk : Int) ++ Ky.encP (keys.drop (k + 1)) (kt.drop (k + 1))) := by rw [Ky.encP_drop hlt hlt2, hx, hmi]
      have HT1 : Hid (keys.take (k + 1) = keys.take k ++ [key]) := Lib.hid (by rw [List.take_succ_eq_append_getElem hlt, hx])
      have HT2 : Hid ((m0 : Int) :: kt.take (k + 1) = ((m0 : Int) :: kt.take k) ++ [(mk : Int)]) := Lib.hid (by rw [List.take_succ_eq_append_getElem hlt2, hmi]; rfl)
      have hr2 := HB.out (k + 1)
      obtain ⟨rest, hrest⟩ : ∃ rest, Ky.encP (keys.drop (k + 1)) (kt.drop (k + 1)) = rest := ⟨_, rfl⟩
      rw [hrest] at hr2 e1
      have HRE := Lib.hid hrest
      rw [e1] at Hk hq ⊢
      have HM : Hid (rest.size < (Ky.txt key ++ (Ky.p4 (mk : Int) ++ rest)).size) := Lib.hid (by simp only [ByteArray.size_append, Ky.txt_size]; omega)
      have hq2 : (Ky.txt key ++ (Ky.p4 (mk : Int) ++ rest)).size ≤ 1000000 := by omega
      have hpos : (0 : Int) < ((Ky.txt key ++ (Ky.p4 (mk : Int) ++ rest)).size : Int) := by simp only [ByteArray.size_append, Ky.txt_size]; omega
      have s2 : (Ky.p4 (mk : Int) ++ rest).size ≤ 100000 := by rw [ByteArray.size_append, Ky.p4_size]; omega
      have LK : Hid ((keys.take k).length ≤ 1000000) := Lib.hid (by rw [List.length_take]; omega)
      have LM : Hid (((m0 : Int) :: kt.take k).length ≤ 1000000) := Lib.hid (by rw [List.length_cons, List.length_take]; omega)
      have HLT := Lib.hid hlt
      clear hx hmi hir hrest e1 hlt hlt2 K6
      obtain ⟨q0, q1, q2, q3⟩ := nd4 Hk.right.right.right
      obtain ⟨s0, hs0⟩ : ∃ s0, Ky.txt key ++ (Ky.p4 (mk : Int) ++ rest) = s0 := ⟨_, rfl⟩
      have HS0 := Lib.hid hs0
      rw [hs0] at Hk hq hq2 hpos HM ⊢
      clear hs0
      go_upto_region 11 with (first
        | (go_at_call 140; with_reducible refine left_any Hk hq2 ?_)
        | (go_at_call 141; with_reducible refine err_any Hk ?_))
      have Hd := Hk.drew
      obtain ⟨d0, d1, d2, d3⟩ := nd4 Hd.right.right.right
      go_region_law (first
        | (refine step_append_rec Tryz.rowTx encTx_ok rfl (.tmp 36) (.tmp 39) rfl rfl H2r LK.out key rfl rfl ?_; intro v3 w3 H3 I3; obtain ⟨a6, n6, c6, rfl⟩ := rowOf_form3 H3; obtain ⟨t0, t1, t2, t3⟩ := nd4 H3.right.right.right; obtain ⟨f0, f1, f2, f3⟩ := nd4f H3.right.right.right)
        | (go_simp; go_at_call 142; refine rtext_any key (Ky.p4 (mk : Int) ++ rest) (by omega) s2 (Hd.of_eq (by rw [← HS0.out])) ?_; intro w2 H2 I2; obtain ⟨u0, u1, u2, u3⟩ := nd4 H2.right.right.right; obtain ⟨e0, e1, e2, e3⟩ := nd4 (H2.new (.cells #[.string key] 9)).right.right.right.right; have H2r := H2.of_eq (show _ = RowTx (.slice a5 n5 c5) (keys.take k) * (IsRd p ⟨Ky.p4 (mk : Int) ++ rest, 0⟩ * (RowNu (.slice a3 n3 c3) ((m0 : Int) :: kt.take k) * (pts (b + 1) (.cells #[.bool false, .slice none 0 0, .slice a3 n3 c3, .slice a5 n5 c5] 140 (0, 0)) * (pts b (.cells #[.bool false, .slice none 0 0, .slice none 0 0, .slice none 0 0] 140 (0, 0)) * F)))) from by ac_rfl); go_simp))
      all_goals
        have K3 := (H3.of_eq (show _ = pts (b + 1) (.cells #[.bool false, .slice none 0 0, .slice a3 n3 c3, .slice a5 n5 c5] 140 (0, 0)) * (IsRd p ⟨Ky.p4 (mk : Int) ++ rest, 0⟩ * (RowNu (.slice a3 n3 c3) ((m0 : Int) :: kt.take k) * (RowTx (.slice a6 n6 c6) (keys.take k ++ [key]) * (pts b (.cells #[.bool false, .slice none 0 0, .slice none 0 0, .slice none 0 0] 140 (0, 0)) * F)))) from by unfold RowTx RowNu; ac_rfl)).cell 3 (.slice a6 n6 c6)
        simp only [List.setIfInBounds_toArray, List.set_cons_succ, List.set_cons_zero] at K3
        have J3 := ((Ik.drew.trans I2).trans I3).setCell ⟨b + 1, 3, none⟩ (.slice a6 n6 c6)
        clear q0 q1 q2 q3 d0 d1 d2 d3 u0 u1 u2 u3 e0 e1 e2 e3 t0 t1 t2 t3 f0 f1 f2 f3 H2 H2r H3 I2 I3 Hk Hd Ik J5
        generalize w3.setCell ⟨b + 1, 3, none⟩ (.slice a6 n6 c6) = w6 at *
        obtain ⟨q0, q1, q2, q3⟩ := nd4 K3
        have Kd := K3.drew
        obtain ⟨d0, d1, d2, d3⟩ := nd4 Kd
        go_upto_region 12 with fail
        go_region_law (first
          | (refine step_append_rec Tryz.rowNu encNu_ok rfl (.tmp 43) (.tmp 46) rfl rfl H7r LM.out (mk : Int) rfl rfl ?_; intro v8 w8 H8 I8; obtain ⟨a9, n9, c9, rfl⟩ := rowOf_form3 H8; obtain ⟨t0, t1, t2, t3⟩ := nd4 H8.right.right; obtain ⟨f0, f1, f2, f3⟩ := nd4f H8.right.right)
          | (go_simp; go_at_call 64; refine rint4_any mk rest hmk (by omega) (Kd.of_eq (show _ = IsRd p ⟨Ky.p4 (mk : Int) ++ rest, 0⟩ * (pts (b + 1) (.cells #[.bool false, .slice none 0 0, .slice a3 n3 c3, .slice a6 n6 c6] 140 (0, 0)) * (RowNu (.slice a3 n3 c3) ((m0 : Int) :: kt.take k) * (RowTx (.slice a6 n6 c6) (keys.take k ++ [key]) * (pts b (.cells #[.bool false, .slice none 0 0, .slice none 0 0, .slice none 0 0] 140 (0, 0)) * F)))) from by ac_rfl)) ?_; intro w7 H7 I7; obtain ⟨u0, u1, u2, u3⟩ := nd4 H7.right; obtain ⟨e0, e1, e2, e3⟩ := nd4 (H7.new (.cells #[.int .i64 (mk : Int)] 3)).right.right; have H7r := H7.of_eq (show _ = RowNu (.slice a3 n3 c3) ((m0 : Int) :: kt.take k) * (IsRd p ⟨rest, 0⟩ * (pts (b + 1) (.cells #[.bool false, .slice none 0 0, .slice a3 n3 c3, .slice a6 n6 c6] 140 (0, 0)) * (RowTx (.slice a6 n6 c6) (keys.take k ++ [key]) * (pts b (.cells #[.bool false, .slice none 0 0, .slice none 0 0, .slice none 0 0] 140 (0, 0)) * F)))) from by ac_rfl); go_simp))
        all_goals
          have K8 := (H8.of_eq (show _ = pts (b + 1) (.cells #[.bool false, .slice none 0 0, .slice a3 n3 c3, .slice a6 n6 c6] 140 (0, 0)) * (IsRd p ⟨rest, 0⟩ * (RowNu (.slice a9 n9 c9) (((m0 : Int) :: kt.take k) ++ [(mk : Int)]) * (RowTx (.slice a6 n6 c6) (keys.take k ++ [key]) * (pts b (.cells #[.bool false, .slice none 0 0, .slice none 0 0, .slice none 0 0] 140 (0, 0)) * F)))) from by unfold RowNu; ac_rfl)).cell 2 (.slice a9 n9 c9)
          simp only [List.setIfInBounds_toArray, List.set_cons_succ, List.set_cons_zero] at K8
          have J8 := ((J3.drew.trans I7).trans I8).setCell ⟨b + 1, 2, none⟩ (.slice a9 n9 c9)
          clear q0 q1 q2 q3 d0 d1 d2 d3 u0 u1 u2 u3 e0 e1 e2 e3 t0 t1 t2 t3 f0 f1 f2 f3 H7 H7r H8 I7 I8 Kd K3 J3
          generalize w8.setCell ⟨b + 1, 2, none⟩ (.slice a9 n9 c9) = w9 at *
          have K9 : Sat (IsRd p ⟨rest, 0⟩ * (RowNu (.slice a9 n9 c9) (((m0 : Int) :: kt.take k) ++ [(mk : Int)]) * (RowTx (.slice a6 n6 c6) (keys.take k ++ [key]) * (pts (b + 1) (.cells #[.bool false, .slice none 0 0, .slice a9 n9 c9, .slice a6 n6 c6] 140 (0, 0)) * (pts b (.cells #[.bool false, .slice none 0 0, .slice none 0 0, .slice none 0 0] 140 (0, 0)) * F))))) w9 := K8.of_eq (by ac_rfl)
          go_roundw
          case rel => exact ⟨_, _, _, _, _, _, _, _, _, _, _, _, _, _, _, _, _, _, _, _, _, _, ⟨k + 1, _, _, by have := HLT.out; omega, by rw [HRE.out, HT1.out, HT2.out]; exact K9, J8⟩, rfl⟩
          case measure => rw [rdLeft_of K9]; exact HM.out
    · obtain rfl : k = keys.length := by omega
      have e1 : Ky.encP (keys.drop keys.length) (kt.drop keys.length) = ⟨#[]⟩ := by rw [← HLK.out, List.drop_length, HLK.out, List.drop_length]; rfl
      have e2 : kt.take keys.length = kt := by rw [← HLK.out, List.take_length]
      rw [e1, e2, List.take_length] at Hk
      have EF : Hid ((⟨⟨#[]⟩, 0⟩ : Rd).fin = 0) := Lib.hid (by unfold Rd.fin; exact if_pos rfl)
      have hz : ((⟨#[]⟩ : ByteArray).size : Int) = 0 := rfl
      have hz2 : (⟨#[]⟩ : ByteArray).size ≤ 1000000 := Nat.zero_le _
      have RN := Lib.hid (Reads.of_row (emp_r Hk.right.left) (by rw [List.length_cons]; have := HLK.out; omega))
      have SN := Lib.hid (slOk_row Hk.right)
      have RX := Lib.hid (Reads.of_row (emp_r Hk.right.right.left) (by omega))
      have SX := Lib.hid (slOk_row Hk.right.right)
      have NV : Hid (NdV (IsRd p ⟨⟨#[]⟩, 0⟩ * (RowNu (.slice a3 n3 c3) ((m0 : Int) :: kt) * (RowTx (.slice a5 n5 c5) keys * (pts (b + 1) (.cells #[.bool false, .slice none 0 0, .slice a3 n3 c3, .slice a5 n5 c5] 140 (0, 0)) * (pts b (.cells #[.bool false, .slice none 0 0, .slice none 0 0, .slice none 0 0] 140 (0, 0)) * F))))) (.agg #[.bool false, .slice none 0 0, .slice a3 n3 c3, .slice a5 n5 c5]) (Ky.inn ((m0 : Int) :: kt) keys)) :=
        Lib.hid ⟨_, _, _, rfl, ⟨reads_none _ none 0, nilOk⟩, ⟨RN.out.imp (fun _ hw => emp_r hw.right.left), SN.out⟩, RX.out.imp (fun _ hw => emp_r hw.right.right.left), SX.out⟩
      have hle : Hid ((((m0 : Int) :: kt).length ≤ 5000)) := Lib.hid (by rw [List.length_cons]; have := HLK.out; omega)
      clear e1 e2 hq K6
      obtain ⟨q0, q1, q2, q3⟩ := nd4 Hk.right.right.right
      go_wp2_with (first
        | (go_at_call 140; with_reducible refine left_any Hk hz2 ?_)
        | (go_at_call 141; with_reducible refine err_any Hk ?_)
        | (go_at_call 65; with_reducible refine end_any Hk ?_; intro w4 H4 I4; rw [EF.out]; obtain ⟨u0, u1, u2, u3⟩ := nd4 H4.right.right.right)
        | (go_at_call 129; refine nfits_any (.inner HR.out) NV.out ⟨Nat.zero_le _, hle.out⟩ H4 HD ?_; intro w5 H5 I5; obtain ⟨t0, t1, t2, t3⟩ := nd4 H5.right.right.right; obtain ⟨g0, g1, g2, g3'⟩ := nd4 H5.right.right.right.right; obtain ⟨f0, f1, f2, f3⟩ := nd4f H5.right.right.right.right))
      have K5' := (H5.of_eq (show _ = pts b (.cells #[.bool false, .slice none 0 0, .slice none 0 0, .slice none 0 0] 140 (0, 0)) * ((RowNu (.slice a3 n3 c3) ((m0 : Int) :: kt) * (RowTx (.slice a5 n5 c5) keys * F)) * (IsRd p ⟨⟨#[]⟩, 0⟩ * pts (b + 1) (.cells #[.bool false, .slice none 0 0, .slice a3 n3 c3, .slice a5 n5 c5] 140 (0, 0)))) from by ac_rfl)).cells4 (x' := .bool false) (y' := .slice none 0 0) (z' := .slice a3 n3 c3) (u' := .slice a5 n5 c5)
      have J5' := (((((Ik.trans I4).trans I5).setCell ⟨b, 0, none⟩ (.bool false)).setCell ⟨b, 1, none⟩ (.slice none 0 0)).setCell ⟨b, 2, none⟩ (.slice a3 n3 c3)).setCell ⟨b, 3, none⟩ (.slice a5 n5 c5)
      generalize ((((w5.setCell ⟨b, 0, none⟩ (.bool false)).setCell ⟨b, 1, none⟩ (.slice none 0 0)).setCell ⟨b, 2, none⟩ (.slice a3 n3 c3)).setCell ⟨b, 3, none⟩ (.slice a5 n5 c5)) = W at *
      clear q0 q1 q2 q3 u0 u1 u2 u3 t0 t1 t2 t3 g0 g1 g2 g3' f0 f1 f2 f3
      obtain ⟨y0, y1, y2, y3⟩ := nd4 K5'
      exact bodyPost_ret (v := .tuple #[.agg #[.bool false, .slice none 0 0, .slice a3 n3 c3, .slice a5 n5 c5], .int .i64 0]) (by simp [results, Tryz.results113, go_sem, y0, y1, y2, y3]) rfl
        (HH.out (RowNu (.slice a3 n3 c3) ((m0 : Int) :: kt) * RowTx (.slice a5 n5 c5) keys) _ _ ⟨_, _, _, rfl, ⟨reads_none _ none 0, nilOk⟩, ⟨RN.out.imp (fun _ hw => emp_r hw.left), SN.out⟩, RX.out.imp (fun _ hw => emp_r hw.right), SX.out⟩ (K5'.right.left.of_eq (star_assoc _ _ _).symm) J5')
/-- A NODE's BYTES ARE READ BACK. -/
theorem ndecode_any {n : Ky.Nd} (hr : Ky.NdR n) (hz : Ky.ndSize n ≤ 240) {s : ByteArray} (hs : s = Ky.encN n) {kd : Int} (hk : kd = Ky.kind n) (H : Sat F w) (h : ∀ G v w', NdV G v n → Sat (G * F) w' → Io w w' → R (.returned (.tuple #[v, .int .i64 0])) w') :
    Calls Tryz.prog 113 #[.int .u8 kd, .string s] w R := by
  subst hs hk
  cases hr with
  | @leaf es hr => exact ndecode_leaf hr hz H h
  | @inner kids keys hr =>
    have hlen := hr.len
    cases kids with
    | nil => simp at hlen
    | cons c m => exact ndecode_inner hr hz H h
end
end Go.Proofs.YtojiffhknddleaaGreatDoor

/-
  node.Split, by walks: regions whose order is drawn. It proves no statement by itself.
-/
namespace Go.Proofs.YtojiffhknddleaaGreatDoor
open Go.RowKit Go.Lib
set_option linter.unusedSimpArgs false
set_option linter.unusedVariables false
set_option linter.unusedSectionVars false
theorem five {A B C D E : Prop} (h : A ∧ B ∧ C ∧ D) (e : E) : A ∧ B ∧ C ∧ D ∧ E := ⟨h.1, h.2.1, h.2.2.1, h.2.2.2, e⟩
theorem five_up {W : World} {b b' o : Nat} {x y z u v : Value} {ob : Obj} (h : W.cell? ⟨b, 0, none⟩ = some x ∧ W.cell? ⟨b, 1, none⟩ = some y ∧ W.cell? ⟨b, 2, none⟩ = some z ∧ W.cell? ⟨b, 3, none⟩ = some u ∧ W.cell? ⟨b', o, none⟩ = some v) :
    (W.alloc ob).cell? ⟨b, 0, none⟩ = some x ∧ (W.alloc ob).cell? ⟨b, 1, none⟩ = some y ∧ (W.alloc ob).cell? ⟨b, 2, none⟩ = some z ∧ (W.alloc ob).cell? ⟨b, 3, none⟩ = some u ∧ (W.alloc ob).cell? ⟨b', o, none⟩ = some v := by
  obtain ⟨h0, h1, h2, h3, h4⟩ := h
  simp [h0, h1, h2, h3, h4, World.cell?_alloc_some]
theorem five_d {W : World} {b b' o : Nat} {x y z u v : Value} {ob : Obj} (h : W.drew.cell? ⟨b, 0, none⟩ = some x ∧ W.drew.cell? ⟨b, 1, none⟩ = some y ∧ W.drew.cell? ⟨b, 2, none⟩ = some z ∧ W.drew.cell? ⟨b, 3, none⟩ = some u ∧ W.drew.cell? ⟨b', o, none⟩ = some v) :
    (W.alloc ob).drew.cell? ⟨b, 0, none⟩ = some x ∧ (W.alloc ob).drew.cell? ⟨b, 1, none⟩ = some y ∧ (W.alloc ob).drew.cell? ⟨b, 2, none⟩ = some z ∧ (W.alloc ob).drew.cell? ⟨b, 3, none⟩ = some u ∧ (W.alloc ob).drew.cell? ⟨b', o, none⟩ = some v := five_up (W := W.drew) h
theorem five_s1 {W : World} {b b' o : Nat} {x y z u v p q r s : Value} (hb : b' < b) (h : W.cell? ⟨b, 0, none⟩ = some x ∧ W.cell? ⟨b, 1, none⟩ = some y ∧ W.cell? ⟨b, 2, none⟩ = some z ∧ W.cell? ⟨b, 3, none⟩ = some u ∧ W.cell? ⟨b', o, none⟩ = some v) :
    ((((W.setCell ⟨b + 1, 0, none⟩ p).setCell ⟨b + 1, 1, none⟩ q).setCell ⟨b + 1, 2, none⟩ r).setCell ⟨b + 1, 3, none⟩ s).cell? ⟨b, 0, none⟩ = some x ∧ ((((W.setCell ⟨b + 1, 0, none⟩ p).setCell ⟨b + 1, 1, none⟩ q).setCell ⟨b + 1, 2, none⟩ r).setCell ⟨b + 1, 3, none⟩ s).cell? ⟨b, 1, none⟩ = some y ∧ ((((W.setCell ⟨b + 1, 0, none⟩ p).setCell ⟨b + 1, 1, none⟩ q).setCell ⟨b + 1, 2, none⟩ r).setCell ⟨b + 1, 3, none⟩ s).cell? ⟨b, 2, none⟩ = some z ∧ ((((W.setCell ⟨b + 1, 0, none⟩ p).setCell ⟨b + 1, 1, none⟩ q).setCell ⟨b + 1, 2, none⟩ r).setCell ⟨b + 1, 3, none⟩ s).cell? ⟨b, 3, none⟩ = some u ∧ ((((W.setCell ⟨b + 1, 0, none⟩ p).setCell ⟨b + 1, 1, none⟩ q).setCell ⟨b + 1, 2, none⟩ r).setCell ⟨b + 1, 3, none⟩ s).cell? ⟨b', o, none⟩ = some v := by
  obtain ⟨h0, h1, h2, h3, h4⟩ := h
  have e : b + 1 ≠ b' := by omega
  simp [h0, h1, h2, h3, h4, e, World.cell?_setCell_far]
theorem five_s2 {W : World} {b b' o : Nat} {x y z u v p q r s : Value} (hb : b' < b) (h : W.cell? ⟨b, 0, none⟩ = some x ∧ W.cell? ⟨b, 1, none⟩ = some y ∧ W.cell? ⟨b, 2, none⟩ = some z ∧ W.cell? ⟨b, 3, none⟩ = some u ∧ W.cell? ⟨b', o, none⟩ = some v) :
    ((((W.setCell ⟨b + 2, 0, none⟩ p).setCell ⟨b + 2, 1, none⟩ q).setCell ⟨b + 2, 2, none⟩ r).setCell ⟨b + 2, 3, none⟩ s).cell? ⟨b, 0, none⟩ = some x ∧ ((((W.setCell ⟨b + 2, 0, none⟩ p).setCell ⟨b + 2, 1, none⟩ q).setCell ⟨b + 2, 2, none⟩ r).setCell ⟨b + 2, 3, none⟩ s).cell? ⟨b, 1, none⟩ = some y ∧ ((((W.setCell ⟨b + 2, 0, none⟩ p).setCell ⟨b + 2, 1, none⟩ q).setCell ⟨b + 2, 2, none⟩ r).setCell ⟨b + 2, 3, none⟩ s).cell? ⟨b, 2, none⟩ = some z ∧ ((((W.setCell ⟨b + 2, 0, none⟩ p).setCell ⟨b + 2, 1, none⟩ q).setCell ⟨b + 2, 2, none⟩ r).setCell ⟨b + 2, 3, none⟩ s).cell? ⟨b, 3, none⟩ = some u ∧ ((((W.setCell ⟨b + 2, 0, none⟩ p).setCell ⟨b + 2, 1, none⟩ q).setCell ⟨b + 2, 2, none⟩ r).setCell ⟨b + 2, 3, none⟩ s).cell? ⟨b', o, none⟩ = some v := by
  obtain ⟨h0, h1, h2, h3, h4⟩ := h
  have e : b + 2 ≠ b' := by omega
  simp [h0, h1, h2, h3, h4, e, World.cell?_setCell_far]
theorem Sat.sw3 {Q X P S : Asn} {w : World} (h : Sat (Q * (X * (P * S))) w) : Sat (P * (Q * (X * S))) w := h.of_eq (by ac_rfl)
theorem nil_ok : SlOk (.slice none 0 0) 0 := .inl ⟨rfl, rfl⟩
section
variable {F : Asn} {w : World} {R : Ending → World → Prop}
set_option maxRecDepth 100000 in
set_option maxHeartbeats 16000000 in
/-- A leaf of two entries or more. -/
theorem split_leaf {es : List Ky.En} {v : Value} (hr : Ky.Right es) (h2 : 2 ≤ es.length) (hl : es.length ≤ 5000) (hv : NdV F v (Ky.lf es)) (H : Sat F w)
    (h : ∀ k key val G v1 v2 w', Ky.HalfOk es k → es[k]? = some (key, val) → NdV G v1 (Ky.lf (es.take k)) → NdV G v2 (Ky.lf (es.drop k)) → Sat (G * F) w' → Io w w' → R (.returned (.tuple #[v1, .string key, v2])) w') :
    Calls Tryz.prog 95 #[v] w R := by
  have HVV := Lib.hid hv
  obtain ⟨se, sk, sx, rfl, hh⟩ := hv
  dsimp only [Ky.lf] at hh
  obtain ⟨⟨h1, s1⟩, -, -⟩ := hh
  obtain ⟨b1, o1, c1, rfl, hc1, hc2⟩ : ∃ b off c, se = .slice (some ⟨b, off, none⟩) es.length c ∧ es.length ≤ c ∧ c ≤ maxLen := by
    rcases s1 with ⟨_, h0⟩ | h
    · omega
    · exact h
  unfold maxLen at hc2
  have HH := Lib.hid h
  have P1 := Lib.hid h1
  have HR := Lib.hid hr
  have HG := Lib.hid (fun k hk => readsE_get h1 k hk)
  obtain ⟨n1, hn1⟩ : ∃ n, n = es.length := ⟨_, rfl⟩
  have HN := Lib.hid hn1
  have L1 : Hid (es.length ≤ 5000) := Lib.hid hl
  have i1 : (2 : Int) ≤ (n1 : Int) := by omega
  have i1n : ¬ (n1 : Int) < 2 := by omega
  have i2 : (n1 : Int) ≤ (c1 : Int) := by omega
  have h2' := Lib.hid h2
  have HF0 := H
  rw [← hn1] at P1 HVV ⊢
  change Calls Tryz.prog 95 #[.agg #[.bool true, .slice (some ⟨b1, o1, none⟩) n1 c1, sk, sx]] w R
  have I := (((Io.refl w).alloc (.cells #[.bool true, .slice (some ⟨b1, o1, none⟩) n1 c1, sk, sx] 140)).alloc (.cells #[.bool false, .slice none 0 0, .slice none 0 0, .slice none 0 0] 140)).alloc (.cells #[.bool false, .slice none 0 0, .slice none 0 0, .slice none 0 0] 140)
  have H := (((H.new (.cells #[.bool true, .slice (some ⟨b1, o1, none⟩) n1 c1, sk, sx] 140)).new (.cells #[.bool false, .slice none 0 0, .slice none 0 0, .slice none 0 0] 140)).new (.cells #[.bool false, .slice none 0 0, .slice none 0 0, .slice none 0 0] 140)).in_emp
  simp only [heap_alloc, Nat.add_assoc, Nat.reduceAdd] at H
  clear h h1 s1 hr hl hn1 h2 hc1 hc2
  go_enter Tryz.func95, Tryz.ntmps95
  go_upto_region 1 with fail
  generalize (((w.alloc (.cells #[.bool true, .slice (some ⟨b1, o1, none⟩) n1 c1, sk, sx] 140)).alloc (.cells #[.bool false, .slice none 0 0, .slice none 0 0, .slice none 0 0] 140)).alloc (.cells #[.bool false, .slice none 0 0, .slice none 0 0, .slice none 0 0] 140)) = w1 at *
  have hbb : b1 < w.heap.size := by
    obtain ⟨b', off', k0, v0, e, _, hc⟩ := HG.out 0 (by have := h2'.out; omega)
    cases e
    exact World.block_lt_of_cell? w _ (hc w HF0).1
  generalize hb : w.heap.size = b at *
  simp only [Nat.add_assoc, Nat.reduceAdd]
  obtain ⟨q0, q1, q2, q3⟩ := nd4 H.right.right.right
  go_upto_region 5 with (first
    | (go_at_call 118; refine nright_any (.leaf HR.out) (HVV.out.imp (fun _ hw => hw.right.right.right.right)) ⟨L1.out, Nat.zero_le _⟩ H ?_; intro w2 H2 I2; obtain ⟨q0, q1, q2, q3⟩ := nd4 H2.right.right.right)
    | (go_at_call 120; refine half_any HR.out (P1.out.imp (fun _ hw => hw.right.right.right.right)) L1.out h2'.out H2 ?_; intro k w3 hk H3 I3; have HK := Lib.hid hk))
  have hk := HK.out
  obtain ⟨⟨key, val⟩, hkv⟩ : ∃ x, es[k]'hk.high = x := ⟨_, rfl⟩
  obtain ⟨b', off', k0, v0, e, hx, hc⟩ := HG.out k hk.high
  cases e
  rw [hkv] at hx
  cases hx
  have HX := Lib.hid (fun w hw => (hc w hw).1)
  have HE : Hid (es[k]? = some (key, val)) := Lib.hid (by rw [List.getElem?_eq_getElem hk.high, hkv])
  have hk1 := hk.low
  have hk2 := hk.high
  rw [← HN.out] at hk2
  have m0 : (0 : Int) ≤ (k : Int) := by omega
  have m1 : (k : Int) ≤ (n1 : Int) := by omega
  have m2 : (k : Int) ≤ (c1 : Int) := by omega
  have m3 : (k : Int) < (n1 : Int) := by omega
  have m4 : ¬ c1 = k := by omega
  have R1 : Hid (ReadsE F (.slice (some ⟨b1, o1, none⟩) k c1) (es.take k)) := Lib.hid (reads_take encE_ok P1.out k (by have := HN.out; omega))
  have R2 : Hid (ReadsE F (.slice (some ⟨b1, o1 + k * 2, none⟩) (n1 - k) (c1 - k)) (es.drop k)) := Lib.hid (by
    have h := reads_drop_if encE_ok P1.out k (by have := HN.out; omega) (by omega)
    rw [if_neg m4] at h
    exact h)
  have Q1 : Hid ((es.take k).length ≤ 10000) := Lib.hid (by have := L1.out; rw [List.length_take]; omega)
  have Q2 : Hid ((es.drop k).length ≤ 10000) := Lib.hid (by have := L1.out; rw [List.length_drop]; omega)
  have J := ((I.trans I2).trans I3).drew
  have Zu := five (nd4 H3.right.right.right) (HX.out _ H3.right.right.right.right)
  have G := H3.drew
  clear H I I2 I3 H2 H3 hk hk1 hk2 hc hkv q0 q1 q2 q3 HG
  have H := G
  have I := J
  clear G J
  have Z := five (nd4 H.right.right.right) (HX.out _ H.right.right.right.right)
  have Y2 := nd4 H.right
  have Yf2 := nd4f H.right
  have Y := nd4 H.right.right
  have Yf := nd4f H.right.right
  go_region_held3 (fun W => W.cell? ⟨b, 0, none⟩ = some (.bool true) ∧ W.cell? ⟨b, 1, none⟩ = some (.slice (some ⟨b1, o1, none⟩) n1 c1) ∧ W.cell? ⟨b, 2, none⟩ = some (sk) ∧ W.cell? ⟨b, 3, none⟩ = some (sx) ∧ W.cell? ⟨b1, o1 + k * 2, none⟩ = some (.string key)) ((with_reducible (first | exact Z | (refine five_d ?_; assumption) | (refine five_up ?_; assumption) | (refine five_s1 hbb ?_; assumption) | (refine five_s2 hbb ?_; assumption)))) ((first
    | (go_at_call 121; (with_reducible (first | refine with_si H I (fun HS IS => ?_) | refine with_si (H.n1 _) (I.alloc _) (fun HS IS => ?_) | refine with_si ((H.n1 _).n1 _) ((I.alloc _).alloc _) (fun HS IS => ?_) | refine with_si (((H.n1 _).n1 _).n1 _) (((I.alloc _).alloc _).alloc _) (fun HS IS => ?_) | refine with_si ((((H.n1 _).n1 _).n1 _).n1 _) ((((I.alloc _).alloc _).alloc _).alloc _) (fun HS IS => ?_))); (try simp only [heap_alloc, Nat.add_assoc, Nat.reduceAdd] at HS); (with_reducible (first | refine glueE1_any (R1.out.imp (fun _ hw => hw.right.right.right.right)) Q1.out HS.p1 ?_ | refine glueE1_any (R1.out.imp (fun _ hw => hw.right.right.right.right)) Q1.out HS.p2 ?_ | refine glueE1_any (R1.out.imp (fun _ hw => hw.right.right.right.right)) Q1.out HS.p3 ?_ | refine glueE1_any (R1.out.imp (fun _ hw => hw.right.right.right.right)) Q1.out HS.p4 ?_ | refine glueE1_any (R1.out.imp (fun _ hw => hw.right.right.right.right)) Q1.out HS.p5 ?_ | refine glueE1_any (R1.out.imp (fun _ hw => hw.right.right.right.right)) Q1.out HS.p6 ?_ | refine glueE1_any (R1.out.imp (fun _ hw => hw.right.right.right.right)) Q1.out HS.p7 ?_ | refine glueE1_any (R1.out.imp (fun _ hw => hw.right.right.right.right)) Q1.out HS.p8 ?_)); clear H I Z Y Yf Y2 Yf2; (try clear Zu); intro vA wA H5 I5; obtain ⟨aA, mA, cA, rfl⟩ := rowOf_form3 H5; have RA := Lib.hid (Reads.of_row (emp_r H5.left) (by have := Q1.out; omega)); have SA := Lib.hid (slOk_row H5); have H := H5.push; have I := IS.trans I5; clear H5 I5 HS IS; have Z := five (nd4 H.right.right.right) (HX.out _ H.right.right.right.right); have Y2 := nd4 H.right; have Yf2 := nd4f H.right; have Y := nd4 H.right.right; have Yf := nd4f H.right.right)
    | (go_at_call 121; (with_reducible (first | refine with_si H I (fun HS IS => ?_) | refine with_si (H.n1 _) (I.alloc _) (fun HS IS => ?_) | refine with_si ((H.n1 _).n1 _) ((I.alloc _).alloc _) (fun HS IS => ?_) | refine with_si (((H.n1 _).n1 _).n1 _) (((I.alloc _).alloc _).alloc _) (fun HS IS => ?_) | refine with_si ((((H.n1 _).n1 _).n1 _).n1 _) ((((I.alloc _).alloc _).alloc _).alloc _) (fun HS IS => ?_))); (try simp only [heap_alloc, Nat.add_assoc, Nat.reduceAdd] at HS); (with_reducible (first | refine glueE1_any (R2.out.imp (fun _ hw => hw.right.right.right.right)) Q2.out HS.p1 ?_ | refine glueE1_any (R2.out.imp (fun _ hw => hw.right.right.right.right)) Q2.out HS.p2 ?_ | refine glueE1_any (R2.out.imp (fun _ hw => hw.right.right.right.right)) Q2.out HS.p3 ?_ | refine glueE1_any (R2.out.imp (fun _ hw => hw.right.right.right.right)) Q2.out HS.p4 ?_ | refine glueE1_any (R2.out.imp (fun _ hw => hw.right.right.right.right)) Q2.out HS.p5 ?_ | refine glueE1_any (R2.out.imp (fun _ hw => hw.right.right.right.right)) Q2.out HS.p6 ?_ | refine glueE1_any (R2.out.imp (fun _ hw => hw.right.right.right.right)) Q2.out HS.p7 ?_ | refine glueE1_any (R2.out.imp (fun _ hw => hw.right.right.right.right)) Q2.out HS.p8 ?_)); clear H I Z Y Yf Y2 Yf2; (try clear Zu); intro vB wB H5 I5; obtain ⟨aB, mB, cB, rfl⟩ := rowOf_form3 H5; have RB := Lib.hid (Reads.of_row (emp_r H5.left) (by have := Q2.out; omega)); have SB := Lib.hid (slOk_row H5); have H := H5.push; have I := IS.trans I5; clear H5 I5 HS IS; have Z := five (nd4 H.right.right.right) (HX.out _ H.right.right.right.right); have Y2 := nd4 H.right; have Yf2 := nd4f H.right; have Y := nd4 H.right.right; have Yf := nd4f H.right.right)))
  all_goals (
    have K := (H.sw2).cells4 (x' := .bool true) (y' := .slice aA mA cA) (z' := .slice none 0 0) (u' := .slice none 0 0)
    have K := (K.sw3).cells4 (x' := .bool true) (y' := .slice aB mB cB) (z' := .slice none 0 0) (u' := .slice none 0 0)
    have J := (((((((I.setCell ⟨b + 1, 0, none⟩ (.bool true)).setCell ⟨b + 1, 1, none⟩ (.slice aA mA cA)).setCell ⟨b + 1, 2, none⟩ (.slice none 0 0)).setCell ⟨b + 1, 3, none⟩ (.slice none 0 0)).setCell ⟨b + 2, 0, none⟩ (.bool true)).setCell ⟨b + 2, 1, none⟩ (.slice aB mB cB)).setCell ⟨b + 2, 2, none⟩ (.slice none 0 0)).setCell ⟨b + 2, 3, none⟩ (.slice none 0 0)
    go_wp2_with fail
    generalize ((((((((wB.setCell ⟨b + 1, 0, none⟩ (.bool true)).setCell ⟨b + 1, 1, none⟩ (.slice aA mA cA)).setCell ⟨b + 1, 2, none⟩ (.slice none 0 0)).setCell ⟨b + 1, 3, none⟩ (.slice none 0 0)).setCell ⟨b + 2, 0, none⟩ (.bool true)).setCell ⟨b + 2, 1, none⟩ (.slice aB mB cB)).setCell ⟨b + 2, 2, none⟩ (.slice none 0 0)).setCell ⟨b + 2, 3, none⟩ (.slice none 0 0)) = W at *
    clear Z Y Yf Y2 Yf2
    obtain ⟨y0, y1, y2, y3⟩ := nd4 K
    obtain ⟨z0, z1, z2, z3⟩ := nd4 K.right
    exact bodyPost_ret (v := .tuple #[.agg #[.bool true, .slice aA mA cA, .slice none 0 0, .slice none 0 0], .string key, .agg #[.bool true, .slice aB mB cB, .slice none 0 0, .slice none 0 0]]) (by simp [results, Tryz.results95, go_sem, y0, y1, y2, y3, z0, z1, z2, z3]) rfl (HH.out k key val _ _ _ _ HK.out HE.out ⟨_, _, _, rfl, ⟨RA.out.imp (fun _ hw => emp_r hw.right.left), SA.out⟩, ⟨reads_none _ none 0, nil_ok⟩, reads_none _ none 0, nil_ok⟩ ⟨_, _, _, rfl, ⟨RB.out.imp (fun _ hw => emp_r hw.left), SB.out⟩, ⟨reads_none _ none 0, nil_ok⟩, reads_none _ none 0, nil_ok⟩ K.right.right.drop1 J))
end
end Go.Proofs.YtojiffhknddleaaGreatDoor

/-
  node.Swap, by a walk: regions whose order is drawn. It proves no statement by itself.
-/
namespace Go.Proofs.YtojiffhknddleaaGreatDoor
open Go.RowKit Go.Lib
set_option linter.unusedSimpArgs false
set_option linter.unusedVariables false
set_option linter.unusedSectionVars false
section
variable {F : Asn} {w : World} {R : Ending → World → Prop}
set_option maxRecDepth 100000 in
set_option maxHeartbeats 40000000 in
theorem swap_v1 {K k' : List Int} {B y' : List Ky.Nm} {f t : Nat} {v kv yv : Value} (hlen : K.length = B.length + 1) (hl : K.length ≤ 4000) (hft : f < t) (htl : t ≤ K.length) (hk : ReadsNu F kv k') (hy : ReadsTx F yv y') (hky : 0 < k'.length ∧ y'.length = k'.length - 1) (hkl : k'.length ≤ 1000) (hyl : y'.length ≤ 1000) (hv : NdV F v (Ky.inn K B)) (H : Sat F w)
    (h : ∀ G v' w', NdV G v' (Ky.inn (K.take f ++ k' ++ K.drop t) (B.take (f) ++ y' ++ B.drop (t - 1))) → Sat (G * F) w' → Io w w' → R (.returned v') w') :
    Calls Tryz.prog 98 #[v, .int .i64 (f : Int), .int .i64 (t : Int), kv, yv] w R := by
  obtain ⟨se, sk, sx, rfl, hh⟩ := hv
  dsimp only [Ky.inn] at hh
  obtain ⟨⟨h1, s1⟩, ⟨h3, s3⟩, h5, s5⟩ := hh
  obtain ⟨a1, c1, rfl, -⟩ := reads_shape h1
  obtain ⟨b3, o3, c3, rfl, hc3, hc4⟩ : ∃ b off c, sk = .slice (some ⟨b, off, none⟩) K.length c ∧ K.length ≤ c ∧ c ≤ maxLen := by
    rcases s3 with ⟨_, h0⟩ | h
    · omega
    · exact h
  rcases s5 with ⟨rfl, h0⟩ | ⟨b5, o5, c5, rfl, hc5, hc6⟩
  · skip
    obtain ⟨ka, kc, rfl, -⟩ := reads_shape hk
    obtain ⟨ya, yc, rfl, -⟩ := reads_shape hy
    unfold maxLen at hc4
    have HH := Lib.hid h
    obtain ⟨n3, hn3⟩ : ∃ n, n = K.length := ⟨_, rfl⟩
    obtain ⟨n5, hn5⟩ : ∃ n, n = B.length := ⟨_, rfl⟩
    obtain ⟨nk, hnk⟩ : ∃ n, n = k'.length := ⟨_, rfl⟩
    obtain ⟨ny, hny⟩ : ∃ n, n = y'.length := ⟨_, rfl⟩
    obtain ⟨lo, hlo⟩ : ∃ n, n = f := ⟨_, rfl⟩
    obtain ⟨hi, hhi⟩ : ∃ n, n = t - 1 := ⟨_, rfl⟩
    rw [← hlo, ← hhi] at HH
    have P3 := Lib.hid h3
    have P5 := Lib.hid h5
    have R2 := Lib.hid hk
    have R5 := Lib.hid hy
    have R1 : Hid (ReadsNu F (.slice (some ⟨b3, o3, none⟩) f c3) (K.take f)) := Lib.hid (reads_take encNu_ok P3.out f (by omega))
    have R3 : Hid (ReadsNu F (.slice (if c3 = t then some ⟨b3, o3, none⟩ else some ⟨b3, o3 + t, none⟩) (n3 - t) (c3 - t)) (K.drop t)) := Lib.hid (by
      have h := reads_drop_if encNu_ok P3.out t (by omega) (by omega)
      rw [Nat.mul_one, ← hn3] at h
      exact h)
    obtain ⟨ad, had⟩ : ∃ ad : Option Addr, (if c3 = t then some ⟨b3, o3, none⟩ else some ⟨b3, o3 + t, none⟩) = ad := ⟨_, rfl⟩
    rw [had] at R3
    have hB : B = [] := List.eq_nil_of_length_eq_zero h0
    have R4 : Hid (ReadsTx F (.slice none 0 0) (B.take lo)) := Lib.hid (by rw [hB, List.take_nil]; exact reads_none _ _ _)
    have R6 : Hid (ReadsTx F (.slice none 0 0) (B.drop hi)) := Lib.hid (by rw [hB, List.drop_nil]; exact reads_none _ _ _)
    have l4 : True := trivial
    have Q1 : Hid ((K.take f).length ≤ 10000) := Lib.hid (by rw [List.length_take]; omega)
    have Q2 : Hid (k'.length ≤ 10000) := Lib.hid (by omega)
    have Q3 : Hid ((K.drop t).length ≤ 10000) := Lib.hid (by rw [List.length_drop]; omega)
    have Q4 : Hid ((B.take lo).length ≤ 10000) := Lib.hid (by rw [List.length_take]; omega)
    have Q5 : Hid (y'.length ≤ 10000) := Lib.hid (by omega)
    have Q6 : Hid ((B.drop hi).length ≤ 10000) := Lib.hid (by rw [List.length_drop]; omega)
    have B3 : Hid ((K.take f ++ k' ++ K.drop t).length ≤ 1000000) := Lib.hid (by simp only [List.length_append, List.length_take, List.length_drop]; omega)
    have B5 : Hid ((B.take lo ++ y' ++ B.drop hi).length ≤ 1000000) := Lib.hid (by simp only [List.length_append, List.length_take, List.length_drop]; omega)
    rw [← hnk] at R2
    rw [← hny] at R5
    have i0 : (0 : Int) ≤ (f : Int) := by omega
    have i1 : ¬ (f : Int) < 0 := by omega
    have i2 : (f : Int) < (t : Int) := by omega
    have i3 : ¬ (t : Int) ≤ (f : Int) := by omega
    have i4 : (t : Int) ≤ (n3 : Int) := by omega
    have i5 : ¬ (n3 : Int) < (t : Int) := by omega
    have i6 : (f : Int) ≤ (n3 : Int) := by omega
    have i7 : (f : Int) ≤ (c3 : Int) := by omega
    have i8 : (0 : Int) ≤ (t : Int) := by omega
    have i9 : (n3 : Int) ≤ (c3 : Int) := by omega
    have i10 : (t : Int) ≤ (c3 : Int) := by omega
    have l0 : (0 : Int) ≤ (lo : Int) := by omega
    have l1 : (lo : Int) ≤ (n5 : Int) := by omega
    have l2 : (0 : Int) ≤ (hi : Int) := by omega
    have l3 : (hi : Int) ≤ (n5 : Int) := by omega
    have u1 : (f : Int) ≤ 4000 := by omega
    have u2 : (t : Int) ≤ 4000 := by omega
    have u3 : (n3 : Int) ≤ 4000 := by omega
    have u4 : (nk : Int) ≤ 1000 := by omega
    have u5 : (ny : Int) ≤ 1000 := by omega
    have u6 : (lo : Int) ≤ 4000 := by omega
    have u7 : (hi : Int) ≤ 4000 := by omega
    have u8 : (n5 : Int) ≤ 4000 := by omega
    have f1 : (0 : Int) < (nk : Int) := by omega
    have f2 : ¬ (nk : Int) = 0 := by omega
    have f4 : (0 : Int) ≤ (ny : Int) := by omega
    have f5 : (nk : Int) - 1 = (ny : Int) := by omega
    have f6 : max (ny : Int) 0 = (ny : Int) := by omega
    have f7 : (t : Int) - 1 = (hi : Int) := by omega
    have z1 : f = 0 := by omega
    have z2 : t = 1 := by omega
    have z3 : lo = 0 := by omega
    have z4 : hi = 0 := by omega
    clear hlo
    rw [← hnk, ← hny]
    change Calls Tryz.prog 98 #[.agg #[.bool false, .slice a1 0 c1, .slice (some ⟨b3, o3, none⟩) K.length c3, .slice none 0 0], .int .i64 (f : Int), .int .i64 (t : Int), .slice ka nk kc, .slice ya ny yc] w R
    rw [← hn3]
    have I := (((Io.refl w).alloc (.cells #[.bool false, .slice a1 0 c1, .slice (some ⟨b3, o3, none⟩) n3 c3, .slice none 0 0] 140)).alloc (.cells #[.bool false, .slice none 0 0, .slice none 0 0, .slice none 0 0] 140))
    have H := ((H.new (.cells #[.bool false, .slice a1 0 c1, .slice (some ⟨b3, o3, none⟩) n3 c3, .slice none 0 0] 140)).new (.cells #[.bool false, .slice none 0 0, .slice none 0 0, .slice none 0 0] 140)).in_emp
    simp only [heap_alloc, Nat.add_assoc, Nat.reduceAdd] at H
    clear h h1 s1 h3 s3 h5 hk hy hky hkl hyl hl hlen hc3 hc4 hft htl hn3 hn5 hnk hny hhi P3 P5
    subst z1 z2 z3 z4
    go_enter Tryz.func98, Tryz.ntmps98
    go_upto_region 1 with fail
    generalize ((w.alloc (.cells #[.bool false, .slice a1 0 c1, .slice (some ⟨b3, o3, none⟩) n3 c3, .slice none 0 0] 140)).alloc (.cells #[.bool false, .slice none 0 0, .slice none 0 0, .slice none 0 0] 140)) = w1 at *
    generalize hb : w.heap.size = b at *
    obtain ⟨q0, q1, q2, q3⟩ := nd4 H.right.right
    go_upto_region 8 with fail
    have Zu := nd4 H.right.right
    replace I := I.drew
    replace H := H.drew
    clear q0 q1 q2 q3
    have Z := nd4 H.right.right
    have Y := nd4 H.right
    have Yf := nd4f H.right
    go_region_held3 (fun W => W.cell? ⟨b, 0, none⟩ = some (.bool false) ∧ W.cell? ⟨b, 1, none⟩ = some (.slice a1 0 c1) ∧ W.cell? ⟨b, 2, none⟩ = some (.slice (some ⟨b3, o3, none⟩) n3 c3) ∧ W.cell? ⟨b, 3, none⟩ = some (.slice none 0 0)) ((with_reducible (first | exact Z | (refine held_d ?_; assumption) | (refine held_a ?_; assumption) | (refine held_s1 ?_; assumption)))) ((first
      | (go_at_call 122; (with_reducible (first | refine with_si H I (fun HS IS => ?_) | refine with_si (H.n1 _) (I.alloc _) (fun HS IS => ?_) | refine with_si ((H.n1 _).n1 _) ((I.alloc _).alloc _) (fun HS IS => ?_) | refine with_si (((H.n1 _).n1 _).n1 _) (((I.alloc _).alloc _).alloc _) (fun HS IS => ?_) | refine with_si ((((H.n1 _).n1 _).n1 _).n1 _) ((((I.alloc _).alloc _).alloc _).alloc _) (fun HS IS => ?_))); (try simp only [heap_alloc, Nat.add_assoc, Nat.reduceAdd] at HS); (with_reducible (first | refine glueNu3_any (R1.out.imp (fun _ hw => hw.right.right.right)) Q1.out (R2.out.imp (fun _ hw => hw.right.right.right)) Q2.out (R3.out.imp (fun _ hw => hw.right.right.right)) Q3.out HS.p1 ?_ | refine glueNu3_any (R1.out.imp (fun _ hw => hw.right.right.right)) Q1.out (R2.out.imp (fun _ hw => hw.right.right.right)) Q2.out (R3.out.imp (fun _ hw => hw.right.right.right)) Q3.out HS.p2 ?_ | refine glueNu3_any (R1.out.imp (fun _ hw => hw.right.right.right)) Q1.out (R2.out.imp (fun _ hw => hw.right.right.right)) Q2.out (R3.out.imp (fun _ hw => hw.right.right.right)) Q3.out HS.p3 ?_ | refine glueNu3_any (R1.out.imp (fun _ hw => hw.right.right.right)) Q1.out (R2.out.imp (fun _ hw => hw.right.right.right)) Q2.out (R3.out.imp (fun _ hw => hw.right.right.right)) Q3.out HS.p4 ?_ | refine glueNu3_any (R1.out.imp (fun _ hw => hw.right.right.right)) Q1.out (R2.out.imp (fun _ hw => hw.right.right.right)) Q2.out (R3.out.imp (fun _ hw => hw.right.right.right)) Q3.out HS.p5 ?_ | refine glueNu3_any (R1.out.imp (fun _ hw => hw.right.right.right)) Q1.out (R2.out.imp (fun _ hw => hw.right.right.right)) Q2.out (R3.out.imp (fun _ hw => hw.right.right.right)) Q3.out HS.p6 ?_ | refine glueNu3_any (R1.out.imp (fun _ hw => hw.right.right.right)) Q1.out (R2.out.imp (fun _ hw => hw.right.right.right)) Q2.out (R3.out.imp (fun _ hw => hw.right.right.right)) Q3.out HS.p7 ?_ | refine glueNu3_any (R1.out.imp (fun _ hw => hw.right.right.right)) Q1.out (R2.out.imp (fun _ hw => hw.right.right.right)) Q2.out (R3.out.imp (fun _ hw => hw.right.right.right)) Q3.out HS.p8 ?_)); clear H I Z Y Yf; (try clear Zu); intro vA wA H5 I5; obtain ⟨aA, mA, cA, rfl⟩ := rowOf_form3 H5; have RA := Lib.hid (Reads.of_row (emp_r H5.left) B3.out); have SA := Lib.hid (slOk_row H5); have H := H5.push; have I := IS.trans I5; clear H5 I5 HS IS; have Z := nd4 H.right.right; have Y := nd4 H.right; have Yf := nd4f H.right)
      | (go_at_call 123; (with_reducible (first | refine with_si H I (fun HS IS => ?_) | refine with_si (H.n1 _) (I.alloc _) (fun HS IS => ?_) | refine with_si ((H.n1 _).n1 _) ((I.alloc _).alloc _) (fun HS IS => ?_) | refine with_si (((H.n1 _).n1 _).n1 _) (((I.alloc _).alloc _).alloc _) (fun HS IS => ?_) | refine with_si ((((H.n1 _).n1 _).n1 _).n1 _) ((((I.alloc _).alloc _).alloc _).alloc _) (fun HS IS => ?_))); (try simp only [heap_alloc, Nat.add_assoc, Nat.reduceAdd] at HS); (with_reducible (first | refine glueTx3_any (R4.out.imp (fun _ hw => hw.right.right.right)) Q4.out (R5.out.imp (fun _ hw => hw.right.right.right)) Q5.out (R6.out.imp (fun _ hw => hw.right.right.right)) Q6.out HS.p1 ?_ | refine glueTx3_any (R4.out.imp (fun _ hw => hw.right.right.right)) Q4.out (R5.out.imp (fun _ hw => hw.right.right.right)) Q5.out (R6.out.imp (fun _ hw => hw.right.right.right)) Q6.out HS.p2 ?_ | refine glueTx3_any (R4.out.imp (fun _ hw => hw.right.right.right)) Q4.out (R5.out.imp (fun _ hw => hw.right.right.right)) Q5.out (R6.out.imp (fun _ hw => hw.right.right.right)) Q6.out HS.p3 ?_ | refine glueTx3_any (R4.out.imp (fun _ hw => hw.right.right.right)) Q4.out (R5.out.imp (fun _ hw => hw.right.right.right)) Q5.out (R6.out.imp (fun _ hw => hw.right.right.right)) Q6.out HS.p4 ?_ | refine glueTx3_any (R4.out.imp (fun _ hw => hw.right.right.right)) Q4.out (R5.out.imp (fun _ hw => hw.right.right.right)) Q5.out (R6.out.imp (fun _ hw => hw.right.right.right)) Q6.out HS.p5 ?_ | refine glueTx3_any (R4.out.imp (fun _ hw => hw.right.right.right)) Q4.out (R5.out.imp (fun _ hw => hw.right.right.right)) Q5.out (R6.out.imp (fun _ hw => hw.right.right.right)) Q6.out HS.p6 ?_ | refine glueTx3_any (R4.out.imp (fun _ hw => hw.right.right.right)) Q4.out (R5.out.imp (fun _ hw => hw.right.right.right)) Q5.out (R6.out.imp (fun _ hw => hw.right.right.right)) Q6.out HS.p7 ?_ | refine glueTx3_any (R4.out.imp (fun _ hw => hw.right.right.right)) Q4.out (R5.out.imp (fun _ hw => hw.right.right.right)) Q5.out (R6.out.imp (fun _ hw => hw.right.right.right)) Q6.out HS.p8 ?_)); clear H I Z Y Yf; (try clear Zu); intro vB wB H5 I5; obtain ⟨aB, mB, cB, rfl⟩ := rowOf_form3 H5; have RB := Lib.hid (Reads.of_row (emp_r H5.left) B5.out); have SB := Lib.hid (slOk_row H5); have H := H5.push; have I := IS.trans I5; clear H5 I5 HS IS; have Z := nd4 H.right.right; have Y := nd4 H.right; have Yf := nd4f H.right)))
    all_goals (
      have K := (H.sw).cells4 (x' := .bool false) (y' := .slice none 0 0) (z' := .slice aA mA cA) (u' := .slice aB mB cB)
      have J := (((I.setCell ⟨b + 1, 0, none⟩ (.bool false)).setCell ⟨b + 1, 1, none⟩ (.slice none 0 0)).setCell ⟨b + 1, 2, none⟩ (.slice aA mA cA)).setCell ⟨b + 1, 3, none⟩ (.slice aB mB cB)
      go_wp2_with fail
      generalize ((((wB.setCell ⟨b + 1, 0, none⟩ (.bool false)).setCell ⟨b + 1, 1, none⟩ (.slice none 0 0)).setCell ⟨b + 1, 2, none⟩ (.slice aA mA cA)).setCell ⟨b + 1, 3, none⟩ (.slice aB mB cB)) = W at *
      clear Z Y Yf
      obtain ⟨y0, y1, y2, y3⟩ := nd4 K
      exact bodyPost_ret (v := .agg #[.bool false, .slice none 0 0, .slice aA mA cA, .slice aB mB cB]) (by simp [results, Tryz.results98, go_sem, y0, y1, y2, y3]) rfl (HH.out _ _ _ ⟨_, _, _, rfl, ⟨reads_none _ none 0, nil_ok⟩, ⟨(RA.out.imp (fun _ hw => emp_r hw.right.left)), SA.out⟩, (RB.out.imp (fun _ hw => emp_r hw.left)), SB.out⟩ K.right.drop1 J))
  · skip
    obtain ⟨ka, kc, rfl, -⟩ := reads_shape hk
    obtain ⟨ya, yc, rfl, -⟩ := reads_shape hy
    unfold maxLen at hc4
    have HH := Lib.hid h
    obtain ⟨n3, hn3⟩ : ∃ n, n = K.length := ⟨_, rfl⟩
    obtain ⟨n5, hn5⟩ : ∃ n, n = B.length := ⟨_, rfl⟩
    obtain ⟨nk, hnk⟩ : ∃ n, n = k'.length := ⟨_, rfl⟩
    obtain ⟨ny, hny⟩ : ∃ n, n = y'.length := ⟨_, rfl⟩
    obtain ⟨lo, hlo⟩ : ∃ n, n = f := ⟨_, rfl⟩
    obtain ⟨hi, hhi⟩ : ∃ n, n = t - 1 := ⟨_, rfl⟩
    rw [← hlo, ← hhi] at HH
    have P3 := Lib.hid h3
    have P5 := Lib.hid h5
    have R2 := Lib.hid hk
    have R5 := Lib.hid hy
    have R1 : Hid (ReadsNu F (.slice (some ⟨b3, o3, none⟩) f c3) (K.take f)) := Lib.hid (reads_take encNu_ok P3.out f (by omega))
    have R3 : Hid (ReadsNu F (.slice (if c3 = t then some ⟨b3, o3, none⟩ else some ⟨b3, o3 + t, none⟩) (n3 - t) (c3 - t)) (K.drop t)) := Lib.hid (by
      have h := reads_drop_if encNu_ok P3.out t (by omega) (by omega)
      rw [Nat.mul_one, ← hn3] at h
      exact h)
    obtain ⟨ad, had⟩ : ∃ ad : Option Addr, (if c3 = t then some ⟨b3, o3, none⟩ else some ⟨b3, o3 + t, none⟩) = ad := ⟨_, rfl⟩
    rw [had] at R3
    unfold maxLen at hc6
    have R4 : Hid (ReadsTx F (.slice (some ⟨b5, o5, none⟩) lo c5) (B.take lo)) := Lib.hid (reads_take encTx_ok P5.out lo (by omega))
    have R6 : Hid (ReadsTx F (.slice (if c5 = hi then some ⟨b5, o5, none⟩ else some ⟨b5, o5 + hi, none⟩) (n5 - hi) (c5 - hi)) (B.drop hi)) := Lib.hid (by
      have h := reads_drop_if encTx_ok P5.out hi (by omega) (by omega)
      rw [Nat.mul_one, ← hn5] at h
      exact h)
    obtain ⟨ae, hae⟩ : ∃ ae : Option Addr, (if c5 = hi then some ⟨b5, o5, none⟩ else some ⟨b5, o5 + hi, none⟩) = ae := ⟨_, rfl⟩
    rw [hae] at R6
    have l4 : (lo : Int) ≤ (c5 : Int) := by omega
    have l5 : (hi : Int) ≤ (c5 : Int) := by omega
    have l6 : (n5 : Int) ≤ (c5 : Int) := by omega
    clear hc5 hc6
    have Q1 : Hid ((K.take f).length ≤ 10000) := Lib.hid (by rw [List.length_take]; omega)
    have Q2 : Hid (k'.length ≤ 10000) := Lib.hid (by omega)
    have Q3 : Hid ((K.drop t).length ≤ 10000) := Lib.hid (by rw [List.length_drop]; omega)
    have Q4 : Hid ((B.take lo).length ≤ 10000) := Lib.hid (by rw [List.length_take]; omega)
    have Q5 : Hid (y'.length ≤ 10000) := Lib.hid (by omega)
    have Q6 : Hid ((B.drop hi).length ≤ 10000) := Lib.hid (by rw [List.length_drop]; omega)
    have B3 : Hid ((K.take f ++ k' ++ K.drop t).length ≤ 1000000) := Lib.hid (by simp only [List.length_append, List.length_take, List.length_drop]; omega)
    have B5 : Hid ((B.take lo ++ y' ++ B.drop hi).length ≤ 1000000) := Lib.hid (by simp only [List.length_append, List.length_take, List.length_drop]; omega)
    rw [← hnk] at R2
    rw [← hny] at R5
    have i0 : (0 : Int) ≤ (f : Int) := by omega
    have i1 : ¬ (f : Int) < 0 := by omega
    have i2 : (f : Int) < (t : Int) := by omega
    have i3 : ¬ (t : Int) ≤ (f : Int) := by omega
    have i4 : (t : Int) ≤ (n3 : Int) := by omega
    have i5 : ¬ (n3 : Int) < (t : Int) := by omega
    have i6 : (f : Int) ≤ (n3 : Int) := by omega
    have i7 : (f : Int) ≤ (c3 : Int) := by omega
    have i8 : (0 : Int) ≤ (t : Int) := by omega
    have i9 : (n3 : Int) ≤ (c3 : Int) := by omega
    have i10 : (t : Int) ≤ (c3 : Int) := by omega
    have l0 : (0 : Int) ≤ (lo : Int) := by omega
    have l1 : (lo : Int) ≤ (n5 : Int) := by omega
    have l2 : (0 : Int) ≤ (hi : Int) := by omega
    have l3 : (hi : Int) ≤ (n5 : Int) := by omega
    have u1 : (f : Int) ≤ 4000 := by omega
    have u2 : (t : Int) ≤ 4000 := by omega
    have u3 : (n3 : Int) ≤ 4000 := by omega
    have u4 : (nk : Int) ≤ 1000 := by omega
    have u5 : (ny : Int) ≤ 1000 := by omega
    have u6 : (lo : Int) ≤ 4000 := by omega
    have u7 : (hi : Int) ≤ 4000 := by omega
    have u8 : (n5 : Int) ≤ 4000 := by omega
    have f1 : (0 : Int) < (nk : Int) := by omega
    have f2 : ¬ (nk : Int) = 0 := by omega
    have f4 : (0 : Int) ≤ (ny : Int) := by omega
    have f5 : (nk : Int) - 1 = (ny : Int) := by omega
    have f6 : max (ny : Int) 0 = (ny : Int) := by omega
    have f7 : (t : Int) - 1 = (hi : Int) := by omega
    have hlf : f = lo := hlo.symm
    clear hlo
    subst hlf
    rw [← hnk, ← hny]
    change Calls Tryz.prog 98 #[.agg #[.bool false, .slice a1 0 c1, .slice (some ⟨b3, o3, none⟩) K.length c3, .slice (some ⟨b5, o5, none⟩) B.length c5], .int .i64 (f : Int), .int .i64 (t : Int), .slice ka nk kc, .slice ya ny yc] w R
    rw [← hn3, ← hn5]
    have I := (((Io.refl w).alloc (.cells #[.bool false, .slice a1 0 c1, .slice (some ⟨b3, o3, none⟩) n3 c3, .slice (some ⟨b5, o5, none⟩) n5 c5] 140)).alloc (.cells #[.bool false, .slice none 0 0, .slice none 0 0, .slice none 0 0] 140))
    have H := ((H.new (.cells #[.bool false, .slice a1 0 c1, .slice (some ⟨b3, o3, none⟩) n3 c3, .slice (some ⟨b5, o5, none⟩) n5 c5] 140)).new (.cells #[.bool false, .slice none 0 0, .slice none 0 0, .slice none 0 0] 140)).in_emp
    simp only [heap_alloc, Nat.add_assoc, Nat.reduceAdd] at H
    clear h h1 s1 h3 s3 h5 hk hy hky hkl hyl hl hlen hc3 hc4 hft htl hn3 hn5 hnk hny hhi P3 P5
    go_enter Tryz.func98, Tryz.ntmps98
    go_upto_region 1 with fail
    generalize ((w.alloc (.cells #[.bool false, .slice a1 0 c1, .slice (some ⟨b3, o3, none⟩) n3 c3, .slice (some ⟨b5, o5, none⟩) n5 c5] 140)).alloc (.cells #[.bool false, .slice none 0 0, .slice none 0 0, .slice none 0 0] 140)) = w1 at *
    generalize hb : w.heap.size = b at *
    obtain ⟨q0, q1, q2, q3⟩ := nd4 H.right.right
    go_upto_region 8 with fail
    have Zu := nd4 H.right.right
    replace I := I.drew
    replace H := H.drew
    clear q0 q1 q2 q3
    have Z := nd4 H.right.right
    have Y := nd4 H.right
    have Yf := nd4f H.right
    go_region_held3 (fun W => W.cell? ⟨b, 0, none⟩ = some (.bool false) ∧ W.cell? ⟨b, 1, none⟩ = some (.slice a1 0 c1) ∧ W.cell? ⟨b, 2, none⟩ = some (.slice (some ⟨b3, o3, none⟩) n3 c3) ∧ W.cell? ⟨b, 3, none⟩ = some (.slice (some ⟨b5, o5, none⟩) n5 c5)) ((with_reducible (first | exact Z | (refine held_d ?_; assumption) | (refine held_a ?_; assumption) | (refine held_s1 ?_; assumption)))) ((first
      | (go_at_call 122; (with_reducible (first | refine with_si H I (fun HS IS => ?_) | refine with_si (H.n1 _) (I.alloc _) (fun HS IS => ?_) | refine with_si ((H.n1 _).n1 _) ((I.alloc _).alloc _) (fun HS IS => ?_) | refine with_si (((H.n1 _).n1 _).n1 _) (((I.alloc _).alloc _).alloc _) (fun HS IS => ?_) | refine with_si ((((H.n1 _).n1 _).n1 _).n1 _) ((((I.alloc _).alloc _).alloc _).alloc _) (fun HS IS => ?_))); (try simp only [heap_alloc, Nat.add_assoc, Nat.reduceAdd] at HS); (with_reducible (first | refine glueNu3_any (R1.out.imp (fun _ hw => hw.right.right.right)) Q1.out (R2.out.imp (fun _ hw => hw.right.right.right)) Q2.out (R3.out.imp (fun _ hw => hw.right.right.right)) Q3.out HS.p1 ?_ | refine glueNu3_any (R1.out.imp (fun _ hw => hw.right.right.right)) Q1.out (R2.out.imp (fun _ hw => hw.right.right.right)) Q2.out (R3.out.imp (fun _ hw => hw.right.right.right)) Q3.out HS.p2 ?_ | refine glueNu3_any (R1.out.imp (fun _ hw => hw.right.right.right)) Q1.out (R2.out.imp (fun _ hw => hw.right.right.right)) Q2.out (R3.out.imp (fun _ hw => hw.right.right.right)) Q3.out HS.p3 ?_ | refine glueNu3_any (R1.out.imp (fun _ hw => hw.right.right.right)) Q1.out (R2.out.imp (fun _ hw => hw.right.right.right)) Q2.out (R3.out.imp (fun _ hw => hw.right.right.right)) Q3.out HS.p4 ?_ | refine glueNu3_any (R1.out.imp (fun _ hw => hw.right.right.right)) Q1.out (R2.out.imp (fun _ hw => hw.right.right.right)) Q2.out (R3.out.imp (fun _ hw => hw.right.right.right)) Q3.out HS.p5 ?_ | refine glueNu3_any (R1.out.imp (fun _ hw => hw.right.right.right)) Q1.out (R2.out.imp (fun _ hw => hw.right.right.right)) Q2.out (R3.out.imp (fun _ hw => hw.right.right.right)) Q3.out HS.p6 ?_ | refine glueNu3_any (R1.out.imp (fun _ hw => hw.right.right.right)) Q1.out (R2.out.imp (fun _ hw => hw.right.right.right)) Q2.out (R3.out.imp (fun _ hw => hw.right.right.right)) Q3.out HS.p7 ?_ | refine glueNu3_any (R1.out.imp (fun _ hw => hw.right.right.right)) Q1.out (R2.out.imp (fun _ hw => hw.right.right.right)) Q2.out (R3.out.imp (fun _ hw => hw.right.right.right)) Q3.out HS.p8 ?_)); clear H I Z Y Yf; (try clear Zu); intro vA wA H5 I5; obtain ⟨aA, mA, cA, rfl⟩ := rowOf_form3 H5; have RA := Lib.hid (Reads.of_row (emp_r H5.left) B3.out); have SA := Lib.hid (slOk_row H5); have H := H5.push; have I := IS.trans I5; clear H5 I5 HS IS; have Z := nd4 H.right.right; have Y := nd4 H.right; have Yf := nd4f H.right)
      | (go_at_call 123; (with_reducible (first | refine with_si H I (fun HS IS => ?_) | refine with_si (H.n1 _) (I.alloc _) (fun HS IS => ?_) | refine with_si ((H.n1 _).n1 _) ((I.alloc _).alloc _) (fun HS IS => ?_) | refine with_si (((H.n1 _).n1 _).n1 _) (((I.alloc _).alloc _).alloc _) (fun HS IS => ?_) | refine with_si ((((H.n1 _).n1 _).n1 _).n1 _) ((((I.alloc _).alloc _).alloc _).alloc _) (fun HS IS => ?_))); (try simp only [heap_alloc, Nat.add_assoc, Nat.reduceAdd] at HS); (with_reducible (first | refine glueTx3_any (R4.out.imp (fun _ hw => hw.right.right.right)) Q4.out (R5.out.imp (fun _ hw => hw.right.right.right)) Q5.out (R6.out.imp (fun _ hw => hw.right.right.right)) Q6.out HS.p1 ?_ | refine glueTx3_any (R4.out.imp (fun _ hw => hw.right.right.right)) Q4.out (R5.out.imp (fun _ hw => hw.right.right.right)) Q5.out (R6.out.imp (fun _ hw => hw.right.right.right)) Q6.out HS.p2 ?_ | refine glueTx3_any (R4.out.imp (fun _ hw => hw.right.right.right)) Q4.out (R5.out.imp (fun _ hw => hw.right.right.right)) Q5.out (R6.out.imp (fun _ hw => hw.right.right.right)) Q6.out HS.p3 ?_ | refine glueTx3_any (R4.out.imp (fun _ hw => hw.right.right.right)) Q4.out (R5.out.imp (fun _ hw => hw.right.right.right)) Q5.out (R6.out.imp (fun _ hw => hw.right.right.right)) Q6.out HS.p4 ?_ | refine glueTx3_any (R4.out.imp (fun _ hw => hw.right.right.right)) Q4.out (R5.out.imp (fun _ hw => hw.right.right.right)) Q5.out (R6.out.imp (fun _ hw => hw.right.right.right)) Q6.out HS.p5 ?_ | refine glueTx3_any (R4.out.imp (fun _ hw => hw.right.right.right)) Q4.out (R5.out.imp (fun _ hw => hw.right.right.right)) Q5.out (R6.out.imp (fun _ hw => hw.right.right.right)) Q6.out HS.p6 ?_ | refine glueTx3_any (R4.out.imp (fun _ hw => hw.right.right.right)) Q4.out (R5.out.imp (fun _ hw => hw.right.right.right)) Q5.out (R6.out.imp (fun _ hw => hw.right.right.right)) Q6.out HS.p7 ?_ | refine glueTx3_any (R4.out.imp (fun _ hw => hw.right.right.right)) Q4.out (R5.out.imp (fun _ hw => hw.right.right.right)) Q5.out (R6.out.imp (fun _ hw => hw.right.right.right)) Q6.out HS.p8 ?_)); clear H I Z Y Yf; (try clear Zu); intro vB wB H5 I5; obtain ⟨aB, mB, cB, rfl⟩ := rowOf_form3 H5; have RB := Lib.hid (Reads.of_row (emp_r H5.left) B5.out); have SB := Lib.hid (slOk_row H5); have H := H5.push; have I := IS.trans I5; clear H5 I5 HS IS; have Z := nd4 H.right.right; have Y := nd4 H.right; have Yf := nd4f H.right)))
    all_goals (
      have K := (H.sw).cells4 (x' := .bool false) (y' := .slice none 0 0) (z' := .slice aA mA cA) (u' := .slice aB mB cB)
      have J := (((I.setCell ⟨b + 1, 0, none⟩ (.bool false)).setCell ⟨b + 1, 1, none⟩ (.slice none 0 0)).setCell ⟨b + 1, 2, none⟩ (.slice aA mA cA)).setCell ⟨b + 1, 3, none⟩ (.slice aB mB cB)
      go_wp2_with fail
      generalize ((((wB.setCell ⟨b + 1, 0, none⟩ (.bool false)).setCell ⟨b + 1, 1, none⟩ (.slice none 0 0)).setCell ⟨b + 1, 2, none⟩ (.slice aA mA cA)).setCell ⟨b + 1, 3, none⟩ (.slice aB mB cB)) = W at *
      clear Z Y Yf
      obtain ⟨y0, y1, y2, y3⟩ := nd4 K
      exact bodyPost_ret (v := .agg #[.bool false, .slice none 0 0, .slice aA mA cA, .slice aB mB cB]) (by simp [results, Tryz.results98, go_sem, y0, y1, y2, y3]) rfl (HH.out _ _ _ ⟨_, _, _, rfl, ⟨reads_none _ none 0, nil_ok⟩, ⟨(RA.out.imp (fun _ hw => emp_r hw.right.left)), SA.out⟩, (RB.out.imp (fun _ hw => emp_r hw.left)), SB.out⟩ K.right.drop1 J))
end
end Go.Proofs.YtojiffhknddleaaGreatDoor
