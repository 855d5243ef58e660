/-
  A part of a proof. It proves no statement by itself.
-/
import Derived.Test.YtfknjmoekbabcaaGreatDoorA13
import Derived.Test.YtfknjmoekbabcaaGreatDoorA07
import Derived.Test.YtfknjmoekbabcaaGreatDoorA02
set_option linter.unusedSimpArgs false
set_option linter.unusedVariables false
set_option linter.unusedSectionVars false
set_option maxRecDepth 100000
set_option maxHeartbeats 64000000
namespace Go.Proofs.YtfknjmoekbabcaaGreatDoor
namespace Tb
open Ky
def chd (key : Nm) (B : List Nm) : Nat := B.findIdx fun y => Md.nlt key y
theorem z2q (key : Nm) (B : List Nm) : chd key B ≤ B.length := List.findIdx_le_length
theorem zss {key : Nm} {B : List Nm} {j : Nat} (hj : j < B.length) (h : j < chd key B) : Md.nlt key B[j] = false := by
 have := List.not_of_lt_findIdx h
 simpa using this
theorem zoh {key : Nm} {B : List Nm} (hu : B.Pairwise fun x y => Md.nlt x y = true) {j : Nat} (hj : j < B.length) (h : chd key B ≤ j) : Md.nlt key B[j] = true := by
 have hc : chd key B < B.length := by omega
 have h0 : Md.nlt key (B[chd key B]) = true := List.findIdx_getElem (p := fun y => Md.nlt key y) (w := hc)
 rcases Nat.lt_or_ge (chd key B) j with c | c
 ·rw [List.pairwise_iff_getElem] at hu
  exact zcr h0 (hu _ _ hc hj c)
 ·obtain rfl : j = chd key B := by omega
  exact h0
theorem zym {key : Nm} {B : List Nm} (hu : B.Pairwise fun x y => Md.nlt x y = true) {c : Nat} (hc : c ≤ B.length) (h1 : ∀ j (hj : j < B.length), j < c → Md.nlt key B[j] = false) (h2 : ∀ j (hj : j < B.length), c ≤ j → Md.nlt key B[j] = true) : c = chd key B := by
 rcases Nat.lt_trichotomy c (chd key B) with h | h | h
 ·have h3 := z2q key B
  have := zss (key := key) (B := B) (j := c) (by omega) h
  rw [h2 c (by omega) (Nat.le_refl _)] at this
  cases this
 ·exact h
 ·have := zoh hu (key := key) (j := chd key B) (by omega) (Nat.le_refl _)
  rw [h1 _ (by omega) h] at this
  cases this
theorem z8n {key : Nm} {B : List Nm} : ∀ y ∈ B.take (chd key B), Md.nlt key y = false := fun y hy => by
 obtain ⟨i, hi, rfl⟩ := List.mem_iff_getElem.1 hy
 rw [List.length_take] at hi
 rw [List.getElem_take]
 exact zss (by omega) (by omega)
theorem z8o {key : Nm} {B : List Nm} (hu : B.Pairwise fun x y => Md.nlt x y = true) : ∀ y ∈ B.drop (chd key B), Md.nlt key y = true := fun y hy => by
 obtain ⟨i, hi, rfl⟩ := List.mem_iff_getElem.1 hy
 rw [List.length_drop] at hi
 rw [List.getElem_drop]
 exact zoh hu (by omega) (by omega)
theorem zw4 {h : Nat} {lo hi : Bd} {K : List Int} {B : List Nm} {es : List En} {L : Pg} {key : Nm} (n : Node (Sb h) lo hi K B es L) (hlo : ge lo key) (hhi : lt hi key) (hi' : chd key B < K.length) :
  ∃ a b e1 ec e2 L1 Lc L2, zkh (Sb h) lo a (K.take (chd key B)) (B.take (chd key B)) e1 L1 ∧ Sb h a b K[chd key B] ec Lc ∧ zi8 (Sb h) b hi (K.drop (chd key B + 1)) (B.drop (chd key B)) e2 L2 ∧ es = e1 ++ (ec ++ e2) ∧ L = L1 ++ (Lc ++ L2) ∧
   ge a key ∧ lt b key ∧ (∀ x ∈ e1, Md.nlt x.1 key = true) ∧ ∀ x ∈ e2, Md.nlt key x.1 = true := by
 have hu := n.up fun ⟨_, s⟩ => s.bounds.1
 obtain ⟨a, b, e1, ec, e2, L1, Lc, L2, g1, g2, g3, q1, q2⟩ := n.at (chd key B) hi'
 have ha := g1.low hlo z8n
 have hb := g3.high hhi (z8o hu)
 exact ⟨a, b, e1, ec, e2, L1, Lc, L2, g1, g2, g3, q1, q2, ha, hb, g1.ahead (fun s => s.inn) ha, g3.behind (fun s => s.inn) hb⟩
end Tb
end Go.Proofs.YtfknjmoekbabcaaGreatDoor
namespace Go.Proofs.YtfknjmoekbabcaaGreatDoor
open Go.RowKit Go.Lib
theorem Sat.p1 {A1 X T : Asn} {w : World} (h : Sat ((A1 * X) * T) w) : Sat (A1 * ((X) * T)) w := h.of_eq (by ac_rfl)
theorem Sat.p2 {A1 A2 X T : Asn} {w : World} (h : Sat ((A1 * (A2 * X)) * T) w) : Sat (A2 * ((A1 * X) * T)) w := h.of_eq (by ac_rfl)
theorem Sat.p3 {A1 A2 A3 X T : Asn} {w : World} (h : Sat ((A1 * (A2 * (A3 * X))) * T) w) : Sat (A3 * ((A1 * (A2 * X)) * T)) w := h.of_eq (by ac_rfl)
theorem Sat.p4 {A1 A2 A3 A4 X T : Asn} {w : World} (h : Sat ((A1 * (A2 * (A3 * (A4 * X)))) * T) w) : Sat (A4 * ((A1 * (A2 * (A3 * X))) * T)) w := h.of_eq (by ac_rfl)
theorem Sat.p5 {A1 A2 A3 A4 A5 X T : Asn} {w : World} (h : Sat ((A1 * (A2 * (A3 * (A4 * (A5 * X))))) * T) w) : Sat (A5 * ((A1 * (A2 * (A3 * (A4 * X)))) * T)) w := h.of_eq (by ac_rfl)
theorem Sat.push {A X T : Asn} {w : World} (h : Sat (A * (X * T)) w) : Sat ((A * X) * T) w := h.of_eq (zfb _ _ _).symm
theorem Sat.n1 {X T : Asn} {w : World} (h : Sat (X * T) w) (o : Obj) : Sat ((pts w.heap.size o * X) * T) (w.alloc o) := (h.new o).push
theorem Sat.zek {A : Asn} {w : World} (h : Sat A w) : Sat (emp * A) w := h.of_eq (zcj A).symm
theorem za2 {A : Asn} {w : World} (h : Sat A w) : Sat (A * emp) w := h.of_eq (zkv A).symm
theorem Sat.drop2 {X P Q F : Asn} {w : World} (h : Sat (X * (P * (Q * F))) w) : Sat (X * F) w := (h.of_eq (show X * (P * (Q * F)) = P * (Q * (X * F)) from by ac_rfl)).right.right
theorem Sat.sw {X P Q : Asn} {w : World} (h : Sat (X * (P * Q)) w) : Sat (P * (X * Q)) w := h.of_eq (by ac_rfl)
theorem Sat.sw2 {X P Q S : Asn} {w : World} (h : Sat (X * (P * (Q * S))) w) : Sat (Q * (X * (P * S))) w := h.of_eq (by ac_rfl)
theorem zai {A : Asn} {W w0 : World} {p : Program} {f : FuncId} {args : Array Value} {R : Ending → World → Prop} (h : Sat A W) (i : Io w0 W) (k : Sat A W → Io w0 W → Calls p f args W R) : Calls p f args W R := k h i
theorem heap_alloc (w : World) (o : Obj) : (w.alloc o).heap.size = w.heap.size + 1 := World.size_alloc w o
theorem zah {α : Type} {enc : α → List Value} {sz : Nat} {e : TypeId} {v : Value} {l : List α} {F : Asn} {w : World} (H : Sat (RowOf e sz enc v l * F) w) : ∃ a n c, v = .slice a n c := by
 obtain ⟨a, c, h⟩ := zjd H
 exact ⟨a, _, c, h⟩
theorem zlq {W : World} {b : Nat} {x y z u : Value} {o : Obj} (h : W.cell? ⟨b, 0, none⟩ = some x ∧ W.cell? ⟨b, 1, none⟩ = some y ∧ W.cell? ⟨b, 2, none⟩ = some z ∧ W.cell? ⟨b, 3, none⟩ = some u) :
  (W.alloc o).cell? ⟨b, 0, none⟩ = some x ∧ (W.alloc o).cell? ⟨b, 1, none⟩ = some y ∧ (W.alloc o).cell? ⟨b, 2, none⟩ = some z ∧ (W.alloc o).cell? ⟨b, 3, none⟩ = some u := by
 obtain ⟨h0, h1, h2, h3⟩ := h
 simp [h0, h1, h2, h3, World.cell?_alloc_some]
theorem zn8 {W : World} {b : Nat} {x y z u : Value} {o : Obj} (h : W.drew.cell? ⟨b, 0, none⟩ = some x ∧ W.drew.cell? ⟨b, 1, none⟩ = some y ∧ W.drew.cell? ⟨b, 2, none⟩ = some z ∧ W.drew.cell? ⟨b, 3, none⟩ = some u) :
  (W.alloc o).drew.cell? ⟨b, 0, none⟩ = some x ∧ (W.alloc o).drew.cell? ⟨b, 1, none⟩ = some y ∧ (W.alloc o).drew.cell? ⟨b, 2, none⟩ = some z ∧ (W.alloc o).drew.cell? ⟨b, 3, none⟩ = some u := zlq (W := W.drew) h
theorem zji {W : World} {b : Nat} {x y z u p q r s : Value} (h : W.cell? ⟨b, 0, none⟩ = some x ∧ W.cell? ⟨b, 1, none⟩ = some y ∧ W.cell? ⟨b, 2, none⟩ = some z ∧ W.cell? ⟨b, 3, none⟩ = some u) :
  ((((W.setCell ⟨b + 1, 0, none⟩ p).setCell ⟨b + 1, 1, none⟩ q).setCell ⟨b + 1, 2, none⟩ r).setCell ⟨b + 1, 3, none⟩ s).cell? ⟨b, 0, none⟩ = some x ∧
  ((((W.setCell ⟨b + 1, 0, none⟩ p).setCell ⟨b + 1, 1, none⟩ q).setCell ⟨b + 1, 2, none⟩ r).setCell ⟨b + 1, 3, none⟩ s).cell? ⟨b, 1, none⟩ = some y ∧
  ((((W.setCell ⟨b + 1, 0, none⟩ p).setCell ⟨b + 1, 1, none⟩ q).setCell ⟨b + 1, 2, none⟩ r).setCell ⟨b + 1, 3, none⟩ s).cell? ⟨b, 2, none⟩ = some z ∧
  ((((W.setCell ⟨b + 1, 0, none⟩ p).setCell ⟨b + 1, 1, none⟩ q).setCell ⟨b + 1, 2, none⟩ r).setCell ⟨b + 1, 3, none⟩ s).cell? ⟨b, 3, none⟩ = some u := by
 obtain ⟨h0, h1, h2, h3⟩ := h
 simp [h0, h1, h2, h3, World.cell?_setCell_far]
theorem Sat.drop1 {X Q F : Asn} {w : World} (h : Sat (X * (Q * F)) w) : Sat (X * F) w := (h.of_eq (show X * (Q * F) = Q * (X * F) from by ac_rfl)).right
theorem zdr {b : Nat} {x y z u : Value} {t : TypeId} {G : Asn} {w : World} (H : Sat (pts b (.cells #[x, y, z, u] t (0, 0)) * G) w) : w.frozen? ⟨b, 0, none⟩ = false ∧ w.frozen? ⟨b, 1, none⟩ = false ∧ w.frozen? ⟨b, 2, none⟩ = false ∧ w.frozen? ⟨b, 3, none⟩ = false :=
 ⟨Sat.free H.left.at 0, Sat.free H.left.at 1, Sat.free H.left.at 2, Sat.free H.left.at 3⟩
theorem Sat.cells4 {b : Nat} {x y z u x' y' z' u' : Value} {t : TypeId} {G : Asn} {w : World} (H : Sat (pts b (.cells #[x, y, z, u] t (0, 0)) * G) w) :
  Sat (pts b (.cells #[x', y', z', u'] t (0, 0)) * G) ((((w.setCell ⟨b, 0, none⟩ x').setCell ⟨b, 1, none⟩ y').setCell ⟨b, 2, none⟩ z').setCell ⟨b, 3, none⟩ u') :=
 ((((H.cell 0 x').cell 1 y').cell 2 z').cell 3 u')
section
variable {F : Asn} {w : World} {R : Ending → World → Prop}
theorem zyi {n : Ky.Nd} {v : Value} (hv : NdV F v n) (hl : n.es.length ≤ 5000 ∧ n.kids.length ≤ 5000 ∧ n.keys.length ≤ 5000) (H : Sat F w) (h : ∀ G v' w', NdV G v' n → Sat (G * F) w' → Io w w' → R (.returned v') w') :
  Calls Tryz.prog 145 #[v] w R := by
 obtain ⟨leaf, es, kids, keys⟩ := n
 obtain ⟨se, sk, sx, rfl, ⟨h1, h2⟩, ⟨h3, h4⟩, h5, h6⟩ := hv
 dsimp only at h1 h2 h3 h4 h5 h6 hl ⊢
 obtain ⟨a1, c1, rfl, m1⟩ := zab h1
 obtain ⟨a3, c3, rfl, m3⟩ := zab h3
 obtain ⟨a5, c5, rfl, m5⟩ := zab h5
 have HH := L_ h
 obtain ⟨n1, hn1⟩ : ∃ n, n = es.length := ⟨_, rfl⟩
 obtain ⟨n3, hn3⟩ : ∃ n, n = kids.length := ⟨_, rfl⟩
 obtain ⟨n5, hn5⟩ : ∃ n, n = keys.length := ⟨_, rfl⟩
 rw [← hn1] at h1
 rw [← hn3] at h3
 rw [← hn5] at h5
 simp only [← hn1, ← hn3, ← hn5]
 have L1 : Hid (es.length ≤ 10000) := L_ (by omega)
 have L3 : Hid (kids.length ≤ 10000) := L_ (by omega)
 have L5 : Hid (keys.length ≤ 10000) := L_ (by omega)
 have P1 := L_ h1
 have P3 := L_ h3
 have P5 := L_ h5
 clear h h1 h2 h3 h4 h5 h6 hl m1 m3 m5 hn1 hn3 hn5
 have I := ((Io.refl w).alloc (.cells #[.bool leaf, .slice a1 n1 c1, .slice a3 n3 c3, .slice a5 n5 c5] 151)).alloc (.cells #[.bool false, .slice none 0 0, .slice none 0 0, .slice none 0 0] 151)
 have H3 := ((H.new (.cells #[.bool leaf, .slice a1 n1 c1, .slice a3 n3 c3, .slice a5 n5 c5] 151)).new (.cells #[.bool false, .slice none 0 0, .slice none 0 0, .slice none 0 0] 151)).zek
 rw [heap_alloc] at H3
 go_enter Tryz.func145, Tryz.ntmps145
 go_wp2_with fail
 generalize ((w.alloc _).alloc _) = w2 at *
 generalize hb1 : w.heap.size = b1 at *
 have Zu := nd4 H3.right.right
 replace I := I.drew
 replace H3 := H3.drew
 have Z := nd4 H3.right.right
 have Y := nd4 H3.right
 have Yf := zdr H3.right
 have H' := H3
 clear H H3
 have H := H'
 clear H'
 go_region_held3 (fun W => W.cell? ⟨b1, 0, none⟩ = some (.bool leaf) ∧ W.cell? ⟨b1, 1, none⟩ = some (.slice a1 n1 c1) ∧ W.cell? ⟨b1, 2, none⟩ = some (.slice a3 n3 c3) ∧ W.cell? ⟨b1, 3, none⟩ = some (.slice a5 n5 c5)) ((with_reducible (first | exact Z | (refine zn8 ?_; assumption) | (refine zlq ?_; assumption) | (refine zji ?_; assumption)))) ((first
  | (go_at_call 147; (with_reducible (first | refine zai H I (fun HS IS => ?_) | refine zai (H.n1 _) (I.alloc _) (fun HS IS => ?_) | refine zai ((H.n1 _).n1 _) ((I.alloc _).alloc _) (fun HS IS => ?_) | refine zai (((H.n1 _).n1 _).n1 _) (((I.alloc _).alloc _).alloc _) (fun HS IS => ?_) | refine zai ((((H.n1 _).n1 _).n1 _).n1 _) ((((I.alloc _).alloc _).alloc _).alloc _) (fun HS IS => ?_))); (try simp only [heap_alloc, Nat.add_assoc, Nat.reduceAdd] at HS); (with_reducible (first | refine zaz (P1.out.imp (fun _ hw => hw.right.right.right)) L1.out HS.p1 ?_ | refine zaz (P1.out.imp (fun _ hw => hw.right.right.right)) L1.out HS.p2 ?_ | refine zaz (P1.out.imp (fun _ hw => hw.right.right.right)) L1.out HS.p3 ?_ | refine zaz (P1.out.imp (fun _ hw => hw.right.right.right)) L1.out HS.p4 ?_ | refine zaz (P1.out.imp (fun _ hw => hw.right.right.right)) L1.out HS.p5 ?_ | refine zaz (P1.out.imp (fun _ hw => hw.right.right.right)) L1.out HS.p6 ?_ | refine zaz (P1.out.imp (fun _ hw => hw.right.right.right)) L1.out HS.p7 ?_ | refine zaz (P1.out.imp (fun _ hw => hw.right.right.right)) L1.out HS.p8 ?_)); clear H I Z Y Yf; (try clear Zu); intro vE wE H5 I5; obtain ⟨aE, mE, cE, rfl⟩ := zah H5; have RE := L_ (Reads.zau (za2 H5.left) (by have := L1.out; omega)); have SE := L_ (za1 H5); have H := H5.push; have I := IS.trans I5; clear H5 I5 HS IS; have Z := nd4 H.right.right; have Y := nd4 H.right; have Yf := zdr H.right)
  | (go_at_call 148; (with_reducible (first | refine zai H I (fun HS IS => ?_) | refine zai (H.n1 _) (I.alloc _) (fun HS IS => ?_) | refine zai ((H.n1 _).n1 _) ((I.alloc _).alloc _) (fun HS IS => ?_) | refine zai (((H.n1 _).n1 _).n1 _) (((I.alloc _).alloc _).alloc _) (fun HS IS => ?_) | refine zai ((((H.n1 _).n1 _).n1 _).n1 _) ((((I.alloc _).alloc _).alloc _).alloc _) (fun HS IS => ?_))); (try simp only [heap_alloc, Nat.add_assoc, Nat.reduceAdd] at HS); (with_reducible (first | refine zb2 (P3.out.imp (fun _ hw => hw.right.right.right)) L3.out HS.p1 ?_ | refine zb2 (P3.out.imp (fun _ hw => hw.right.right.right)) L3.out HS.p2 ?_ | refine zb2 (P3.out.imp (fun _ hw => hw.right.right.right)) L3.out HS.p3 ?_ | refine zb2 (P3.out.imp (fun _ hw => hw.right.right.right)) L3.out HS.p4 ?_ | refine zb2 (P3.out.imp (fun _ hw => hw.right.right.right)) L3.out HS.p5 ?_ | refine zb2 (P3.out.imp (fun _ hw => hw.right.right.right)) L3.out HS.p6 ?_ | refine zb2 (P3.out.imp (fun _ hw => hw.right.right.right)) L3.out HS.p7 ?_ | refine zb2 (P3.out.imp (fun _ hw => hw.right.right.right)) L3.out HS.p8 ?_)); clear H I Z Y Yf; (try clear Zu); intro vN wN H5 I5; obtain ⟨aN, mN, cN, rfl⟩ := zah H5; have RN := L_ (Reads.zau (za2 H5.left) (by have := L3.out; omega)); have SN := L_ (za1 H5); have H := H5.push; have I := IS.trans I5; clear H5 I5 HS IS; have Z := nd4 H.right.right; have Y := nd4 H.right; have Yf := zdr H.right)
  | (go_at_call 149; (with_reducible (first | refine zai H I (fun HS IS => ?_) | refine zai (H.n1 _) (I.alloc _) (fun HS IS => ?_) | refine zai ((H.n1 _).n1 _) ((I.alloc _).alloc _) (fun HS IS => ?_) | refine zai (((H.n1 _).n1 _).n1 _) (((I.alloc _).alloc _).alloc _) (fun HS IS => ?_) | refine zai ((((H.n1 _).n1 _).n1 _).n1 _) ((((I.alloc _).alloc _).alloc _).alloc _) (fun HS IS => ?_))); (try simp only [heap_alloc, Nat.add_assoc, Nat.reduceAdd] at HS); (with_reducible (first | refine zb1 (P5.out.imp (fun _ hw => hw.right.right.right)) L5.out HS.p1 ?_ | refine zb1 (P5.out.imp (fun _ hw => hw.right.right.right)) L5.out HS.p2 ?_ | refine zb1 (P5.out.imp (fun _ hw => hw.right.right.right)) L5.out HS.p3 ?_ | refine zb1 (P5.out.imp (fun _ hw => hw.right.right.right)) L5.out HS.p4 ?_ | refine zb1 (P5.out.imp (fun _ hw => hw.right.right.right)) L5.out HS.p5 ?_ | refine zb1 (P5.out.imp (fun _ hw => hw.right.right.right)) L5.out HS.p6 ?_ | refine zb1 (P5.out.imp (fun _ hw => hw.right.right.right)) L5.out HS.p7 ?_ | refine zb1 (P5.out.imp (fun _ hw => hw.right.right.right)) L5.out HS.p8 ?_)); clear H I Z Y Yf; (try clear Zu); intro vT wT H5 I5; obtain ⟨aT, mT, cT, rfl⟩ := zah H5; have RT := L_ (Reads.zau (za2 H5.left) (by have := L5.out; omega)); have ST := L_ (za1 H5); have H := H5.push; have I := IS.trans I5; clear H5 I5 HS IS; have Z := nd4 H.right.right; have Y := nd4 H.right; have Yf := zdr H.right)))
 all_goals (
  obtain ⟨y0, y1, y2, y3⟩ := Y
  obtain ⟨f0, f1, f2, f3⟩ := Yf
  go_wp2_with fail
  have K := (H.sw).cells4 (x' := .bool leaf) (y' := .slice aE mE cE) (z' := .slice aN mN cN) (u' := .slice aT mT cT)
  have J := (((I.setCell ⟨b1 + 1, 0, none⟩ (.bool leaf)).setCell ⟨b1 + 1, 1, none⟩ (.slice aE mE cE)).setCell ⟨b1 + 1, 2, none⟩ (.slice aN mN cN)).setCell ⟨b1 + 1, 3, none⟩ (.slice aT mT cT)
  clear H I Z y0 y1 y2 y3 f0 f1 f2 f3
  generalize ((((wT.setCell ⟨b1 + 1, 0, none⟩ (.bool leaf)).setCell ⟨b1 + 1, 1, none⟩ (.slice aE mE cE)).setCell ⟨b1 + 1, 2, none⟩ (.slice aN mN cN)).setCell ⟨b1 + 1, 3, none⟩ (.slice aT mT cT)) = W at *
  obtain ⟨y0, y1, y2, y3⟩ := nd4 K
  exact bodyPost_ret (v := .agg #[.bool leaf, .slice aE mE cE, .slice aN mN cN, .slice aT mT cT]) (by simp [results, Tryz.results145, go_sem, y0, y1, y2, y3]) rfl (HH.out _ _ _ ⟨_, _, _, rfl, ⟨RE.out.imp (fun _ hw => za2 hw.right.right.left), SE.out⟩, ⟨RN.out.imp (fun _ hw => za2 hw.right.left), SN.out⟩, RT.out.imp (fun _ hw => za2 hw.left), ST.out⟩ K.right.drop1 J))
end
namespace Ky
def p4 (n : Int) : Nm := tx (be 4 n.toNat)
theorem zb0 (n : Int) : (p4 n).size = 4 := by unfold p4; rw [zkx, z2x]; rfl
def zh7 : List Nm → List Int → Nm
 | k :: l, c :: m => txt k ++ (p4 c ++ zh7 l m)
 | _, _ => ⟨#[]⟩
def zhl (n : Nd) : Nm := if n.leaf then zfj n.es else match n.kids with
 | c :: m => p4 c ++ zh7 n.keys m
 | [] => ⟨#[]⟩
theorem z2a (es : List En) : zhl (lf es) = zfj es := rfl
theorem zyc (c : Int) (m : List Int) (keys : List Nm) : zhl (inn (c :: m) keys) = p4 c ++ zh7 keys m := rfl
theorem z19 {l : List Nm} {m : List Int} {k : Nat} (hl : k < l.length) (hm : k < m.length) : zh7 (l.drop k) (m.drop k) = txt l[k] ++ (p4 m[k] ++ zh7 (l.drop (k + 1)) (m.drop (k + 1))) := by
 rw [List.drop_eq_getElem_cons hl, List.drop_eq_getElem_cons hm]
 rfl
theorem zsk : ∀ {l : List Nm} {m : List Int} {k : Nat} (hl : k < l.length) (hm : k < m.length), zh7 (l.take (k + 1)) (m.take (k + 1)) = zh7 (l.take k) (m.take k) ++ (txt l[k] ++ p4 m[k])
 | x :: l, y :: m, 0, _, _ => by simp [zh7, nil_add, add_nil]
 | x :: l, y :: m, k + 1, hl, hm => by
  have ih := zsk (l := l) (m := m) (k := k) (by simpa using hl) (by simpa using hm)
  rw [List.take_succ_cons, List.take_succ_cons, List.take_succ_cons, List.take_succ_cons]
  simp only [zh7, ih, List.getElem_cons_succ]
  rw [zhq, zhq]
theorem zi0 : ∀ {l : List Nm} {m : List Int}, l.length = m.length → (zh7 l m).size = zaf l
 | [], [], _ => rfl
 | x :: l, y :: m, h => by
  have ih := zi0 (l := l) (m := m) (by simpa using h)
  simp only [zh7, ByteArray.size_append, zdx, zb0, ih, zaf]
  omega
theorem zeb {n : Nd} (h : NdR n) : (zhl n).size = zbg n := by
 cases h with
 | leaf h => rw [z2a, zly]; rfl
 | @inner kids keys h =>
  obtain ⟨c, m, rfl⟩ : ∃ c m, kids = c :: m := by
   cases kids with
   | nil => have := h.len; simp at this
   | cons c m => exact ⟨c, m, rfl⟩
  rw [zyc, ByteArray.size_append, zb0, zi0 (by have := h.len; simpa using this.symm)]
  rfl
def kind (n : Nd) : Int := if n.leaf then 1 else 2
end Ky
section
variable {F : Asn} {w : World} {R : Ending → World → Prop}
theorem zro {es : List Ky.En} {v : Value} (hr : Ky.Right es) (hz : Ky.size es ≤ 240) (hv : NdV F v (Ky.lf es)) (hl : es.length ≤ 5000) (H : Sat F w) (h : ∀ w', Sat F w' → Io w w' → R (.returned (.tuple #[.int .u8 1, .string (Ky.zfj es), .int .i64 0])) w') :
  Calls Tryz.prog 151 #[v] w R := by
 obtain ⟨se, sk, sx, rfl, hh⟩ := id hv
 dsimp only [Ky.lf] at hh
 obtain ⟨⟨h1, h2⟩, h34, h56⟩ := hh
 have HV := L_ hv
 have HR := L_ hr
 have P1 := L_ h1
 have HH := L_ h
 have HD : Hid (true = decide (Ky.zbg (Ky.lf es) ≤ 240)) := L_ (decide_eq_true hz).symm
 clear h hv h1 h2 h34 h56 hr
 have H1 := H.new (.cells #[.bool true, se, sk, sx] 151)
 have I1 := io1 H1 (Io.refl w)
 obtain ⟨q0, q1, q2, q3⟩ := nd4 H1
 go_enter Tryz.func151, Tryz.ntmps151
 go_wp2_with (first
  | (go_at_call 144; refine zdd (.leaf HR.out) HV.out.with ⟨hl, Nat.zero_le _⟩ H1 ?_; intro w2 H2 I2; obtain ⟨q0, q1, q2, q3⟩ := nd4 H2)
  | (go_at_call 155; refine zff (.leaf HR.out) HV.out.with ⟨hl, Nat.zero_le _⟩ H2 HD ?_; intro w3 H3 I3; obtain ⟨q0, q1, q2, q3⟩ := nd4 H3)
  | (go_at_call 170; refine zoa HR.out P1.out.with hl H3 (L_ rfl) ?_; intro w4 H4 I4))
 exact bodyPost_ret (v := .tuple #[.int .u8 1, .string (Ky.zfj es), .int .i64 0]) (by simp [results, Tryz.results151, go_sem]) rfl (HH.out _ H4.right (((I1.trans I2).trans I3).trans I4))
theorem zrk (m : Nat) : Ky.p4 (m : Int) = tx (be 4 m) := by unfold Ky.p4; rw [Int.toNat_natCast]
theorem zpf {c0 : Int} {kt : List Int} {keys : List Ky.Nm} {v : Value} (hr : Ky.InR (c0 :: kt) keys) (hz : 4 + Ky.zaf keys ≤ 240) (hv : NdV F v (Ky.inn (c0 :: kt) keys)) (hl : kt.length ≤ 4000) (H : Sat F w) (h : ∀ w', Sat F w' → Io w w' → R (.returned (.tuple #[.int .u8 2, .string (Ky.p4 c0 ++ Ky.zh7 keys kt), .int .i64 0])) w') :
  Calls Tryz.prog 151 #[v] w R := by
 have HV := L_ hv
 obtain ⟨se, sk, sx, rfl, hh⟩ := hv
 dsimp only [Ky.inn] at hh
 obtain ⟨h12, ⟨h3, h4⟩, h5, h6⟩ := hh
 obtain ⟨a3, c3, rfl, m3⟩ := zab h3
 obtain ⟨a5, c5, rfl, m5⟩ := zab h5
 have HR := L_ hr
 have P3 := L_ (fun k hk => zhz h3 k hk)
 have P5 := L_ (fun k hk => zdb h5 k hk)
 have HH := L_ h
 have HD : Hid (true = decide (Ky.zbg (Ky.inn (c0 :: kt) keys) ≤ 240)) := L_ (decide_eq_true hz).symm
 have HLK : Hid (kt.length = keys.length) := L_ (by have := hr.len; simpa using this)
 have HC := L_ hr.chk
 have HI := L_ hr.ids
 have hle : Hid (((c0 :: kt).length ≤ 5000)) := L_ (by rw [List.length_cons]; omega)
 have HB : Hid (∀ k, k ≤ keys.length → (Ky.zh7 (keys.take k) (kt.take k)).size ≤ 300) := L_ (fun k hk => by
  have e := hr.len
  rw [List.length_cons] at e
  rw [Ky.zi0 (by rw [List.length_take, List.length_take]; omega)]
  have h1 : Ky.zaf (keys.take k) + Ky.zaf (keys.drop k) = Ky.zaf keys := by rw [← Ky.zbv, List.take_append_drop]
  omega)
 obtain ⟨nk, hnk⟩ : ∃ nk, nk = (c0 :: kt).length := ⟨_, rfl⟩
 have HNK : Hid (nk = keys.length + 1) := L_ (by rw [hnk]; exact hr.len)
 have n1 : (0 : Int) < (nk : Int) := by rw [hnk, List.length_cons]; omega
 have hi0 := hr.ids c0 (List.mem_cons_self ..)
 obtain ⟨b3, o3, x3, hsh, hx3, g3⟩ := P3.out 0 (by rw [List.length_cons]; omega)
 subst hsh
 rw [List.getElem_cons_zero] at hx3
 subst hx3
 obtain ⟨m0, rfl⟩ : ∃ m0 : Nat, c0 = (m0 : Int) := ⟨c0.toNat, by omega⟩
 have hm0 : m0 < 4294967296 := by omega
 rw [zrk] at HH
 have G3 := L_ g3
 rw [← hnk] at HV ⊢
 have P3' : Hid (∀ k (hk : k < kt.length), ∃ x, kt[k] = x ∧ (2 ≤ x ∧ x ≤ 4294967295) ∧ ∀ w, Sat F w → w.cell? ⟨b3, o3 + (k + 1), none⟩ = some (.int .i64 x)) := L_ (fun k hk => by
  obtain ⟨b', o', x, e, hx, g⟩ := P3.out (k + 1) (by rw [List.length_cons]; omega)
  cases e
  rw [List.getElem_cons_succ] at hx
  exact ⟨x, hx, hx ▸ HI.out _ (List.mem_cons_of_mem _ (List.getElem_mem hk)), g⟩)
 have hkl : keys.length ≤ 4000 := by have := HLK.out; omega
 clear h h12 h3 h4 h5 h6 hr hl P3 hi0 g3 hz
 change Calls Tryz.prog 151 #[.agg #[.bool false, se, .slice (some ⟨b3, o3, none⟩) nk c3, .slice a5 keys.length c5]] w R
 have H1 := H.new (.cells #[.bool false, se, .slice (some ⟨b3, o3, none⟩) nk c3, .slice a5 keys.length c5] 151)
 have I1 := io1 H1 (Io.refl w)
 obtain ⟨q0, q1, q2, q3⟩ := nd4 H1
 have HNK2 := L_ hnk
 clear hnk
 go_enter Tryz.func151, Tryz.ntmps151
 go_wp2_with (first
  | (go_at_call 144; refine zdd (.inner HR.out) (HV.out.with) ⟨Nat.zero_le _, hle.out⟩ H1 ?_; intro w2 H2 I2; obtain ⟨q0, q1, q2, q3⟩ := nd4 H2)
  | (go_at_call 155; refine zff (.inner HR.out) (HV.out.with) ⟨Nat.zero_le _, hle.out⟩ H2 HD ?_; intro w3 H3 I3; obtain ⟨q0, q1, q2, q3⟩ := nd4 H3; have g0 := G3.out w3 H3.right; simp only [Nat.add_zero] at g0)
  | (go_at_call 141; refine zo9 m0 hm0 H3 ?_; intro w4 H4 I4; obtain ⟨q0, q1, q2, q3⟩ := nd4 H4))
 have J4 := ((I1.trans I2).trans I3).trans I4
 have T0 : (tx (be 4 m0)).size = 4 := by rw [← zrk, Ky.zb0]
 generalize tx (be 4 m0) = s4 at *
 clear q0 q1 q2 q3 I1 I2 I3 I4 H1 H2 H3 g0
 go_loopw [7, 45] (fun t x wr => ∃ (k : Nat), k ≤ keys.length ∧ x = .int .i64 (k : Int) ∧ t = .string (s4 ++ Ky.zh7 (keys.take k) (kt.take k)) ∧ Sat (pts w.heap.size (.cells #[.bool false, se, .slice (some ⟨b3, o3, none⟩) nk c3, .slice a5 keys.length c5] 151 (0, 0)) * F) wr ∧ Io w wr) (fun _ x _ => keys.length - (RowKit.intOf x).toNat)
 case atStart => exact ⟨0, by omega, rfl, by simp [Ky.zh7, Ky.add_nil], H4, J4⟩
 case round =>
  obtain ⟨k, hk, rfl, rfl, Hk, Ik⟩ := hrel
  have hb := HB.out k hk
  obtain ⟨r0, r1, r2, r3⟩ := nd4 Hk
  by_cases hlt : k < keys.length
  ·have zt7 : (k : Int) < (keys.length : Int) := by omega
   have hk0 : (0 : Int) ≤ (k : Int) := by omega
   have hk1 : (k : Int) ≤ 4000 := by omega
   obtain ⟨b', off, key, rfl, hx, hc⟩ := P5.out k hlt
   have g1 := hc wr Hk.right
   obtain ⟨xk, hxk, hxr, hg⟩ := P3'.out k (by have := HLK.out; omega)
   obtain ⟨mk, rfl⟩ : ∃ mk : Nat, xk = (mk : Int) := ⟨xk.toNat, by omega⟩
   have hmk : mk < 4294967296 := by omega
   have hck := HC.out _ (List.getElem_mem hlt)
   rw [hx] at hck
   obtain ⟨ck1, ck2⟩ := hck
   have HT : Hid (Ky.zh7 (keys.take (k + 1)) (kt.take (k + 1)) = Ky.zh7 (keys.take k) (kt.take k) ++ (Ky.txt key ++ tx (be 4 mk))) := L_ (by rw [Ky.zsk hlt (by have := HLK.out; omega), hx, hxk, zrk])
   obtain ⟨jj, hjj⟩ : ∃ jj, jj = k + 1 := ⟨_, rfl⟩
   rw [← hjj] at hg HT
   have hj1 : (k : Int) + 1 = (jj : Int) := by omega
   have hj2 : (jj : Int) < (nk : Int) := by have := HNK.out; omega
   have hj3 : (0 : Int) ≤ (jj : Int) := by omega
   have hj4 : (jj : Int) ≤ 4001 := by omega
   have HG := L_ hg
   have HJ := L_ hjj
   have z1 : (Ky.txt key).size = 1 + key.size := Ky.zdx _
   have z2 : (tx (be 4 mk)).size = 4 := by rw [← zrk, Ky.zb0]
   clear hc hx hg hxk hxr hjj
   generalize Ky.zh7 (keys.take k) (kt.take k) = s0 at *
   go_wp2_with (go_at_call 175; refine zov _ (by omega) Hk (L_ rfl) ?_; intro w2 H2 I2; obtain ⟨q0, q1, q2, q3⟩ := nd4 H2; have g2 := HG.out w2 H2.right)
   go_wp2_with (go_at_call 141; refine zo9 mk hmk H2 ?_; intro w3 H3 I3)
   generalize Ky.txt key = t1 at *
   generalize tx (be 4 mk) = t2 at *
   go_roundw
   case rel => exact ⟨jj, by have := HJ.out; omega, by go_num, by rw [HT.out, zhq], H3, (Ik.trans I2).trans I3⟩
   case measure => have := HJ.out; simp [RowKit.intOf]; omega
  ·obtain rfl : k = keys.length := by omega
   have hge : ¬ (keys.length : Int) < (keys.length : Int) := by omega
   have e1 : keys.take keys.length = keys := List.take_length
   have e2 : kt.take keys.length = kt := by rw [← HLK.out, List.take_length]
   rw [e1, e2]
   clear P3' e1 e2
   generalize Ky.zh7 keys kt = s0 at *
   go_wp2_with fail
   exact bodyPost_ret (v := .tuple #[.int .u8 2, .string (s4 ++ s0), .int .i64 0]) (by simp [results, Tryz.results151, go_sem]) rfl (HH.out _ Hk.right Ik)
theorem zlg {n : Ky.Nd} {v : Value} (hr : Ky.NdR n) (hz : Ky.zbg n ≤ 240) (hv : NdV F v n) (H : Sat F w) (h : ∀ w', Sat F w' → Io w w' → R (.returned (.tuple #[.int .u8 (Ky.kind n), .string (Ky.zhl n), .int .i64 0])) w') :
  Calls Tryz.prog 151 #[v] w R := by
 cases hr with
 | @leaf es hr =>
  have hl := (Tb.zck hr.1).1
  have hz' : Ky.size es ≤ 240 := hz
  exact zro hr hz' hv (by omega) H h
 | @inner kids keys hr =>
  have hz' : 4 + Ky.zaf keys ≤ 240 := hz
  have hl := (Tb.zbi hr.chk).1
  have hlen := hr.len
  cases kids with
  | nil => simp at hlen
  | cons c m => exact zpf hr hz' hv (by rw [List.length_cons] at hlen; omega) H h
end
namespace Sq
open Ky
def zcb (n : Int) : Prop := 0 ≤ n ∧ n ≤ 4294967295
def InT (k : Tk) : Prop := zcb k.1 ∧ zcb k.2
theorem OkT.inT {k : Tk} (h : OkT k) : InT k := by unfold OkT at h; unfold InT zcb; omega
theorem zu1 : InT nob := by unfold InT zcb nob; omega
def p1 (n : Int) : Nm := tx (be 1 n.toNat)
theorem zpa (n : Int) : (p1 n).size = 1 := by unfold p1; rw [zkx, zi5]
def pN : Nm := ⟨#[78]⟩
def tok (k : Tk) : Nm := p4 k.1 ++ p4 k.2
theorem zib (k : Tk) : (tok k).size = 8 := by unfold tok; rw [ByteArray.size_append, zb0, zb0]
def kk (k : Tk) : Nm := pN ++ tok k
theorem z1b (k : Tk) : (kk k).size = 9 := by
 unfold kk
 rw [ByteArray.size_append, zib]
 rfl
structure OkN (n : Nd) : Prop where
 up : InT n.up
 left : InT n.left
 right : InT n.right
 count : zcb n.count
 height : 0 ≤ n.height ∧ n.height ≤ 255
def xbe : Nm := ⟨#[]⟩
def zhl (n : Nd) : Nm := p4 n.up.1 ++ (p4 n.up.2 ++ (p4 n.left.1 ++ (p4 n.left.2 ++ (p4 n.right.1 ++ (p4 n.right.2 ++ (p4 n.count ++ (p1 n.height ++ xbe)))))))
theorem zeb (n : Nd) : (zhl n).size = 29 := by
 unfold zhl
 simp only [ByteArray.size_append, zb0, zpa]
 rfl
theorem zr3 (k : Tk) (n : Nd) : chk (kk k) (zhl n) = 0 := by unfold chk; rw [z1b, zeb]; decide
theorem kk_one (k : Tk) (n : Nd) : Ky.one (kk k, zhl n) = 40 := by unfold Ky.one; rw [z1b, zeb]
theorem z3i {a b c d : Nm} (h : a ++ b = c ++ d) (hs : a.size = c.size) : a = c ∧ b = d := by
 have h1 := congrArg (fun s : Nm => s.data.toList) h
 rw [ByteArray.data_append, ByteArray.data_append, Array.toList_append, Array.toList_append] at h1
 obtain ⟨h2, h3⟩ := List.append_inj h1 (by rw [zdn, zdn]; exact hs)
 exact ⟨ByteArray.ext (Array.toList_inj.1 h2), ByteArray.ext (Array.toList_inj.1 h3)⟩
theorem z9z {a b : Int} (ha : zcb a) (hb : zcb b) (h : p4 a = p4 b) : a = b := by
 unfold zcb at ha hb
 have h1 := congrArg un (tx_inj h)
 rw [zy0, zy0, Nat.mod_eq_of_lt (by omega), Nat.mod_eq_of_lt (by omega)] at h1
 omega
theorem z1c {a b : Tk} (ha : InT a) (hb : InT b) (h : kk a = kk b) : a = b := by
 unfold kk tok at h
 have h1 := (z3i h rfl).2
 obtain ⟨h2, h3⟩ := z3i h1 (by rw [zb0, zb0])
 exact Prod.ext (z9z ha.1 hb.1 h2) (z9z ha.2 hb.2 h3)
end Sq
end Go.Proofs.YtfknjmoekbabcaaGreatDoor
