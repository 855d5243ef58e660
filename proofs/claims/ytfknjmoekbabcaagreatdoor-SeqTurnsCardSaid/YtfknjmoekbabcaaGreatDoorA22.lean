/-
  A part of a proof. It proves no statement by itself.
-/
import Derived.Test.YtfknjmoekbabcaaGreatDoorA14
import Derived.Test.YtfknjmoekbabcaaGreatDoorA21
set_option linter.unusedSimpArgs false
set_option linter.unusedVariables false
set_option linter.unusedSectionVars false
set_option maxRecDepth 100000
set_option maxHeartbeats 64000000
namespace Go.Proofs.YtfknjmoekbabcaaGreatDoor
open Go.RowKit Go.Lib
section
variable {F : Asn} {w : World} {R : Ending → World → Prop}
theorem swap_any {K k' : List Int} {B y' : List Ky.Nm} {f t : Nat} {v kv yv : Value} (hlen : K.length = B.length + 1) (hl : K.length ≤ 4000) (hft : f < t) (htl : t ≤ K.length) (hk : zbb F kv k') (hy : zbc F yv y') (hky : y'.length = k'.length - 1) (hkl : k'.length ≤ 1000) (hyl : y'.length ≤ 1000) (hv : NdV F v (Ky.inn K B)) (H : Sat F w)
  (h : ∀ G v' w', NdV G v' (Ky.inn (Tb.swK K f t k') (Tb.swB B f t k' y')) → Sat (G * F) w' → Io w w' → R (.returned v') w') :
  Calls Tryz.prog 119 #[v, .int .i64 (f : Int), .int .i64 (t : Int), kv, yv] w R := by
 unfold Tb.swK Tb.swB Tb.zkg Tb.zf7 at h
 by_cases h0 : k'.length = 0
 ·have e : k' = [] := List.eq_nil_of_length_eq_zero h0
  by_cases hf : 0 < f
  ·rw [if_pos ⟨e, hf⟩, if_neg (by omega)] at h
   exact xao hlen hl hft htl hk hy ⟨h0, hf, by omega⟩ hkl hyl hv H h
  ·obtain rfl : f = 0 := by omega
   rw [if_neg (by omega), if_pos ⟨e, rfl⟩] at h
   exact xan hlen hl hft htl hk hy ⟨h0, rfl, by omega⟩ hkl hyl hv H h
 ·have e : ¬ k' = [] := fun e => h0 (by rw [e]; rfl)
  rw [if_neg (fun q => e q.1), if_neg (fun q => e q.1)] at h
  exact xap hlen hl hft htl hk hy ⟨by omega, hky⟩ hkl hyl hv H h
end
theorem eight {A B C D A' B' C' D' : Prop} (h : A ∧ B ∧ C ∧ D) (k : A' ∧ B' ∧ C' ∧ D') : A ∧ B ∧ C ∧ D ∧ A' ∧ B' ∧ C' ∧ D' := ⟨h.1, h.2.1, h.2.2.1, h.2.2.2, k⟩
theorem zhm {W : World} {b b' : Nat} {x y z u x' y' z' u' : Value} {ob : Obj} (h : W.cell? ⟨b, 0, none⟩ = some x ∧ W.cell? ⟨b, 1, none⟩ = some y ∧ W.cell? ⟨b, 2, none⟩ = some z ∧ W.cell? ⟨b, 3, none⟩ = some u ∧ W.cell? ⟨b', 0, none⟩ = some x' ∧ W.cell? ⟨b', 1, none⟩ = some y' ∧ W.cell? ⟨b', 2, none⟩ = some z' ∧ W.cell? ⟨b', 3, none⟩ = some u') :
  (W.alloc ob).cell? ⟨b, 0, none⟩ = some x ∧ (W.alloc ob).cell? ⟨b, 1, none⟩ = some y ∧ (W.alloc ob).cell? ⟨b, 2, none⟩ = some z ∧ (W.alloc ob).cell? ⟨b, 3, none⟩ = some u ∧ (W.alloc ob).cell? ⟨b', 0, none⟩ = some x' ∧ (W.alloc ob).cell? ⟨b', 1, none⟩ = some y' ∧ (W.alloc ob).cell? ⟨b', 2, none⟩ = some z' ∧ (W.alloc ob).cell? ⟨b', 3, none⟩ = some u' := by
 obtain ⟨h0, h1, h2, h3, h4, h5, h6, h7⟩ := h
 simp [h0, h1, h2, h3, h4, h5, h6, h7, World.cell?_alloc_some]
theorem xb4 {W : World} {b b' : Nat} {x y z u x' y' z' u' : Value} {ob : Obj} (h : W.drew.cell? ⟨b, 0, none⟩ = some x ∧ W.drew.cell? ⟨b, 1, none⟩ = some y ∧ W.drew.cell? ⟨b, 2, none⟩ = some z ∧ W.drew.cell? ⟨b, 3, none⟩ = some u ∧ W.drew.cell? ⟨b', 0, none⟩ = some x' ∧ W.drew.cell? ⟨b', 1, none⟩ = some y' ∧ W.drew.cell? ⟨b', 2, none⟩ = some z' ∧ W.drew.cell? ⟨b', 3, none⟩ = some u') :
  (W.alloc ob).drew.cell? ⟨b, 0, none⟩ = some x ∧ (W.alloc ob).drew.cell? ⟨b, 1, none⟩ = some y ∧ (W.alloc ob).drew.cell? ⟨b, 2, none⟩ = some z ∧ (W.alloc ob).drew.cell? ⟨b, 3, none⟩ = some u ∧ (W.alloc ob).drew.cell? ⟨b', 0, none⟩ = some x' ∧ (W.alloc ob).drew.cell? ⟨b', 1, none⟩ = some y' ∧ (W.alloc ob).drew.cell? ⟨b', 2, none⟩ = some z' ∧ (W.alloc ob).drew.cell? ⟨b', 3, none⟩ = some u' := zhm (W := W.drew) (ob := ob) h
theorem z2f {W : World} {b b' b'' : Nat} {x y z u x' y' z' u' p q r s : Value} (hb : b'' ≠ b) (hb' : b'' ≠ b') (h : W.cell? ⟨b, 0, none⟩ = some x ∧ W.cell? ⟨b, 1, none⟩ = some y ∧ W.cell? ⟨b, 2, none⟩ = some z ∧ W.cell? ⟨b, 3, none⟩ = some u ∧ W.cell? ⟨b', 0, none⟩ = some x' ∧ W.cell? ⟨b', 1, none⟩ = some y' ∧ W.cell? ⟨b', 2, none⟩ = some z' ∧ W.cell? ⟨b', 3, none⟩ = some u') :
  ((((W.setCell ⟨b'', 0, none⟩ p).setCell ⟨b'', 1, none⟩ q).setCell ⟨b'', 2, none⟩ r).setCell ⟨b'', 3, none⟩ s).cell? ⟨b, 0, none⟩ = some x ∧ ((((W.setCell ⟨b'', 0, none⟩ p).setCell ⟨b'', 1, none⟩ q).setCell ⟨b'', 2, none⟩ r).setCell ⟨b'', 3, none⟩ s).cell? ⟨b, 1, none⟩ = some y ∧ ((((W.setCell ⟨b'', 0, none⟩ p).setCell ⟨b'', 1, none⟩ q).setCell ⟨b'', 2, none⟩ r).setCell ⟨b'', 3, none⟩ s).cell? ⟨b, 2, none⟩ = some z ∧ ((((W.setCell ⟨b'', 0, none⟩ p).setCell ⟨b'', 1, none⟩ q).setCell ⟨b'', 2, none⟩ r).setCell ⟨b'', 3, none⟩ s).cell? ⟨b, 3, none⟩ = some u ∧ ((((W.setCell ⟨b'', 0, none⟩ p).setCell ⟨b'', 1, none⟩ q).setCell ⟨b'', 2, none⟩ r).setCell ⟨b'', 3, none⟩ s).cell? ⟨b', 0, none⟩ = some x' ∧ ((((W.setCell ⟨b'', 0, none⟩ p).setCell ⟨b'', 1, none⟩ q).setCell ⟨b'', 2, none⟩ r).setCell ⟨b'', 3, none⟩ s).cell? ⟨b', 1, none⟩ = some y' ∧ ((((W.setCell ⟨b'', 0, none⟩ p).setCell ⟨b'', 1, none⟩ q).setCell ⟨b'', 2, none⟩ r).setCell ⟨b'', 3, none⟩ s).cell? ⟨b', 2, none⟩ = some z' ∧ ((((W.setCell ⟨b'', 0, none⟩ p).setCell ⟨b'', 1, none⟩ q).setCell ⟨b'', 2, none⟩ r).setCell ⟨b'', 3, none⟩ s).cell? ⟨b', 3, none⟩ = some u' := by
 obtain ⟨h0, h1, h2, h3, h4, h5, h6, h7⟩ := h
 simp [h0, h1, h2, h3, h4, h5, h6, h7, hb, hb', World.cell?_setCell_far]
section
variable {F : Asn} {w : World} {R : Ending → World → Prop}
theorem z1h {es es' : List Ky.En} {v u : Value} (y : ByteArray) (hl : es.length ≤ 5000 ∧ es'.length ≤ 5000) (hv : NdV F v (Ky.lf es)) (hu : NdV F u (Ky.lf es')) (H : Sat F w)
  (h : ∀ G v' w', NdV G v' (Ky.lf (es ++ es')) → Sat (G * F) w' → Io w w' → R (.returned v') w') :
  Calls Tryz.prog 154 #[v, .string y, u] w R := by
 obtain ⟨se, sk, sx, rfl, hh⟩ := hv
 dsimp only [Ky.inn, Ky.lf] at hh
 obtain ⟨⟨h1, s1⟩, ⟨h3, s3⟩, h5, s5⟩ := hh
 obtain ⟨te, tk, tx, rfl, hh⟩ := hu
 dsimp only [Ky.inn, Ky.lf] at hh
 obtain ⟨⟨g1, t1⟩, ⟨g3, t3⟩, g5, t5⟩ := hh
 obtain ⟨a1, c1, rfl, -⟩ := zab h1
 obtain ⟨a3, c3, rfl, -⟩ := zab h3
 obtain ⟨a5, c5, rfl, -⟩ := zab h5
 obtain ⟨e1, d1, rfl, -⟩ := zab g1
 obtain ⟨e3, d3, rfl, -⟩ := zab g3
 obtain ⟨e5, d5, rfl, -⟩ := zab g5
 have HH := L_ h
 have R1 := L_ h1
 have R3 := L_ h3
 have R5 := L_ h5
 have T1 := L_ g1
 have T3 := L_ g3
 have T5 := L_ g5
 obtain ⟨n1, hn1⟩ : ∃ n, n = es.length := ⟨_, rfl⟩
 obtain ⟨l1, hl1⟩ : ∃ n, n = es'.length := ⟨_, rfl⟩
 rw [← hn1] at R1
 rw [← hl1] at T1
 simp only [Ky.lf, ← hn1, ← hl1]
 have Q1 : Hid (es.length ≤ 10000) := L_ (by omega)
 have V1 : Hid (es'.length ≤ 10000) := L_ (by omega)
 have Q3 : Hid (([] : List Int).length ≤ 10000) := L_ (by simp)
 have Q5 : Hid (([] : List Ky.Nm).length ≤ 10000) := L_ (by simp)
 have B1 : Hid ((es ++ es').length ≤ 1000000) := L_ (by rw [List.length_append]; omega)
 have B3 : Hid ((([] : List Int) ++ []).length ≤ 1000000) := L_ (by simp)
 have B5 : Hid ((([] : List Ky.Nm) ++ []).length ≤ 1000000) := L_ (by simp)
 clear hn1 hl1
 have I := (((Io.refl w).alloc (.cells #[.bool true, .slice a1 n1 c1, .slice a3 0 c3, .slice a5 0 c5] 151)).alloc (.cells #[.bool true, .slice e1 l1 d1, .slice e3 0 d3, .slice e5 0 d5] 151)).alloc (.cells #[.bool false, .slice none 0 0, .slice none 0 0, .slice none 0 0] 151)
 have H := (((H.new (.cells #[.bool true, .slice a1 n1 c1, .slice a3 0 c3, .slice a5 0 c5] 151)).new (.cells #[.bool true, .slice e1 l1 d1, .slice e3 0 d3, .slice e5 0 d5] 151)).new (.cells #[.bool false, .slice none 0 0, .slice none 0 0, .slice none 0 0] 151)).zek
 simp only [heap_alloc, Nat.add_assoc, Nat.reduceAdd] at H
 change Calls Tryz.prog 154 #[.agg #[.bool true, .slice a1 n1 c1, .slice a3 0 c3, .slice a5 0 c5], .string y, .agg #[.bool true, .slice e1 l1 d1, .slice e3 0 d3, .slice e5 0 d5]] w R
 clear h h1 s1 h3 s3 h5 s5 g1 t1 g3 t3 g5 t5 hl
 go_enter Tryz.func154, Tryz.ntmps154
 go_upto_region 1 with fail
 generalize (((w.alloc _).alloc _).alloc _) = w1 at *
 generalize hb : w.heap.size = b at *
 simp only [Nat.add_assoc, Nat.reduceAdd]
 have hb1 : b + 2 ≠ b := by omega
 have hb2 : b + 2 ≠ b + 1 := by omega
 obtain ⟨q0, q1, q2, q3⟩ := nd4 H.right.right.right
 obtain ⟨p0, p1, p2, p3⟩ := nd4 H.right.right
 go_upto_region 4 with fail
 have Zu := eight (nd4 H.right.right.right) (nd4 H.right.right)
 replace I := I.drew
 replace H := H.drew
 clear q0 q1 q2 q3 p0 p1 p2 p3
 have Z := eight (nd4 H.right.right.right) (nd4 H.right.right)
 have Y := nd4 H.right
 have Yf := zdr H.right
 go_region_held3 (fun W => W.cell? ⟨b, 0, none⟩ = some (.bool true) ∧ W.cell? ⟨b, 1, none⟩ = some (.slice a1 n1 c1) ∧ W.cell? ⟨b, 2, none⟩ = some (.slice a3 0 c3) ∧ W.cell? ⟨b, 3, none⟩ = some (.slice a5 0 c5) ∧ W.cell? ⟨b + 1, 0, none⟩ = some (.bool true) ∧ W.cell? ⟨b + 1, 1, none⟩ = some (.slice e1 l1 d1) ∧ W.cell? ⟨b + 1, 2, none⟩ = some (.slice e3 0 d3) ∧ W.cell? ⟨b + 1, 3, none⟩ = some (.slice e5 0 d5)) ((with_reducible (first | exact Z | (refine xb4 ?_; assumption) | (refine zhm ?_; assumption) | (refine z2f hb1 hb2 ?_; assumption)))) ((first
  | (go_at_call 147; (with_reducible (first | refine zai H I (fun HS IS => ?_) | refine zai (H.n1 _) (I.alloc _) (fun HS IS => ?_) | refine zai ((H.n1 _).n1 _) ((I.alloc _).alloc _) (fun HS IS => ?_) | refine zai (((H.n1 _).n1 _).n1 _) (((I.alloc _).alloc _).alloc _) (fun HS IS => ?_) | refine zai ((((H.n1 _).n1 _).n1 _).n1 _) ((((I.alloc _).alloc _).alloc _).alloc _) (fun HS IS => ?_))); (try simp only [heap_alloc, Nat.add_assoc, Nat.reduceAdd] at HS); (with_reducible (first | refine zcl (R1.out.imp (fun _ hw => hw.right.right.right.right)) Q1.out (T1.out.imp (fun _ hw => hw.right.right.right.right)) V1.out HS.p1 ?_ | refine zcl (R1.out.imp (fun _ hw => hw.right.right.right.right)) Q1.out (T1.out.imp (fun _ hw => hw.right.right.right.right)) V1.out HS.p2 ?_ | refine zcl (R1.out.imp (fun _ hw => hw.right.right.right.right)) Q1.out (T1.out.imp (fun _ hw => hw.right.right.right.right)) V1.out HS.p3 ?_ | refine zcl (R1.out.imp (fun _ hw => hw.right.right.right.right)) Q1.out (T1.out.imp (fun _ hw => hw.right.right.right.right)) V1.out HS.p4 ?_ | refine zcl (R1.out.imp (fun _ hw => hw.right.right.right.right)) Q1.out (T1.out.imp (fun _ hw => hw.right.right.right.right)) V1.out HS.p5 ?_ | refine zcl (R1.out.imp (fun _ hw => hw.right.right.right.right)) Q1.out (T1.out.imp (fun _ hw => hw.right.right.right.right)) V1.out HS.p6 ?_ | refine zcl (R1.out.imp (fun _ hw => hw.right.right.right.right)) Q1.out (T1.out.imp (fun _ hw => hw.right.right.right.right)) V1.out HS.p7 ?_ | refine zcl (R1.out.imp (fun _ hw => hw.right.right.right.right)) Q1.out (T1.out.imp (fun _ hw => hw.right.right.right.right)) V1.out HS.p8 ?_)); clear H I Z Y Yf; (try clear Zu); intro vA wA H5 I5; obtain ⟨aA, mA, cA, rfl⟩ := zah H5; have RA := L_ (Reads.zau (za2 H5.left) B1.out); have SA := L_ (za1 H5); have H := H5.push; have I := IS.trans I5; clear H5 I5 HS IS; have Z := eight (nd4 H.right.right.right) (nd4 H.right.right); have Y := nd4 H.right; have Yf := zdr H.right)
  | (go_at_call 148; (with_reducible (first | refine zai H I (fun HS IS => ?_) | refine zai (H.n1 _) (I.alloc _) (fun HS IS => ?_) | refine zai ((H.n1 _).n1 _) ((I.alloc _).alloc _) (fun HS IS => ?_) | refine zai (((H.n1 _).n1 _).n1 _) (((I.alloc _).alloc _).alloc _) (fun HS IS => ?_) | refine zai ((((H.n1 _).n1 _).n1 _).n1 _) ((((I.alloc _).alloc _).alloc _).alloc _) (fun HS IS => ?_))); (try simp only [heap_alloc, Nat.add_assoc, Nat.reduceAdd] at HS); (with_reducible (first | refine zb9 (R3.out.imp (fun _ hw => hw.right.right.right.right)) Q3.out (T3.out.imp (fun _ hw => hw.right.right.right.right)) Q3.out HS.p1 ?_ | refine zb9 (R3.out.imp (fun _ hw => hw.right.right.right.right)) Q3.out (T3.out.imp (fun _ hw => hw.right.right.right.right)) Q3.out HS.p2 ?_ | refine zb9 (R3.out.imp (fun _ hw => hw.right.right.right.right)) Q3.out (T3.out.imp (fun _ hw => hw.right.right.right.right)) Q3.out HS.p3 ?_ | refine zb9 (R3.out.imp (fun _ hw => hw.right.right.right.right)) Q3.out (T3.out.imp (fun _ hw => hw.right.right.right.right)) Q3.out HS.p4 ?_ | refine zb9 (R3.out.imp (fun _ hw => hw.right.right.right.right)) Q3.out (T3.out.imp (fun _ hw => hw.right.right.right.right)) Q3.out HS.p5 ?_ | refine zb9 (R3.out.imp (fun _ hw => hw.right.right.right.right)) Q3.out (T3.out.imp (fun _ hw => hw.right.right.right.right)) Q3.out HS.p6 ?_ | refine zb9 (R3.out.imp (fun _ hw => hw.right.right.right.right)) Q3.out (T3.out.imp (fun _ hw => hw.right.right.right.right)) Q3.out HS.p7 ?_ | refine zb9 (R3.out.imp (fun _ hw => hw.right.right.right.right)) Q3.out (T3.out.imp (fun _ hw => hw.right.right.right.right)) Q3.out HS.p8 ?_)); clear H I Z Y Yf; (try clear Zu); intro vB wB H5 I5; obtain ⟨aB, mB, cB, rfl⟩ := zah H5; have RB := L_ (Reads.zau (za2 H5.left) B3.out); have SB := L_ (za1 H5); have H := H5.push; have I := IS.trans I5; clear H5 I5 HS IS; have Z := eight (nd4 H.right.right.right) (nd4 H.right.right); have Y := nd4 H.right; have Yf := zdr H.right)
  | (go_at_call 149; (with_reducible (first | refine zai H I (fun HS IS => ?_) | refine zai (H.n1 _) (I.alloc _) (fun HS IS => ?_) | refine zai ((H.n1 _).n1 _) ((I.alloc _).alloc _) (fun HS IS => ?_) | refine zai (((H.n1 _).n1 _).n1 _) (((I.alloc _).alloc _).alloc _) (fun HS IS => ?_) | refine zai ((((H.n1 _).n1 _).n1 _).n1 _) ((((I.alloc _).alloc _).alloc _).alloc _) (fun HS IS => ?_))); (try simp only [heap_alloc, Nat.add_assoc, Nat.reduceAdd] at HS); (with_reducible (first | refine zch (R5.out.imp (fun _ hw => hw.right.right.right.right)) Q5.out (T5.out.imp (fun _ hw => hw.right.right.right.right)) Q5.out HS.p1 ?_ | refine zch (R5.out.imp (fun _ hw => hw.right.right.right.right)) Q5.out (T5.out.imp (fun _ hw => hw.right.right.right.right)) Q5.out HS.p2 ?_ | refine zch (R5.out.imp (fun _ hw => hw.right.right.right.right)) Q5.out (T5.out.imp (fun _ hw => hw.right.right.right.right)) Q5.out HS.p3 ?_ | refine zch (R5.out.imp (fun _ hw => hw.right.right.right.right)) Q5.out (T5.out.imp (fun _ hw => hw.right.right.right.right)) Q5.out HS.p4 ?_ | refine zch (R5.out.imp (fun _ hw => hw.right.right.right.right)) Q5.out (T5.out.imp (fun _ hw => hw.right.right.right.right)) Q5.out HS.p5 ?_ | refine zch (R5.out.imp (fun _ hw => hw.right.right.right.right)) Q5.out (T5.out.imp (fun _ hw => hw.right.right.right.right)) Q5.out HS.p6 ?_ | refine zch (R5.out.imp (fun _ hw => hw.right.right.right.right)) Q5.out (T5.out.imp (fun _ hw => hw.right.right.right.right)) Q5.out HS.p7 ?_ | refine zch (R5.out.imp (fun _ hw => hw.right.right.right.right)) Q5.out (T5.out.imp (fun _ hw => hw.right.right.right.right)) Q5.out HS.p8 ?_)); clear H I Z Y Yf; (try clear Zu); intro vC wC H5 I5; obtain ⟨aC, mC, cC, rfl⟩ := zah H5; have RC := L_ (Reads.zau (za2 H5.left) B5.out); have SC := L_ (za1 H5); have H := H5.push; have I := IS.trans I5; clear H5 I5 HS IS; have Z := eight (nd4 H.right.right.right) (nd4 H.right.right); have Y := nd4 H.right; have Yf := zdr H.right)))
 all_goals (
  have K := (H.sw).cells4 (x' := .bool true) (y' := .slice aA mA cA) (z' := .slice aB mB cB) (u' := .slice aC mC cC)
  have J := (((I.setCell ⟨b + 2, 0, none⟩ (.bool true)).setCell ⟨b + 2, 1, none⟩ (.slice aA mA cA)).setCell ⟨b + 2, 2, none⟩ (.slice aB mB cB)).setCell ⟨b + 2, 3, none⟩ (.slice aC mC cC)
  go_wp2_with fail
  generalize ((((wC.setCell ⟨b + 2, 0, none⟩ (.bool true)).setCell ⟨b + 2, 1, none⟩ (.slice aA mA cA)).setCell ⟨b + 2, 2, none⟩ (.slice aB mB cB)).setCell ⟨b + 2, 3, none⟩ (.slice aC mC cC)) = W at *
  clear Z Y Yf
  obtain ⟨y0, y1, y2, y3⟩ := nd4 K
  exact bodyPost_ret (v := .agg #[.bool true, .slice aA mA cA, .slice aB mB cB, .slice aC mC cC]) (by simp [results, Tryz.results154, go_sem, y0, y1, y2, y3]) rfl (HH.out _ _ _ ⟨_, _, _, rfl, ⟨(RA.out.imp (fun _ hw => (by with_reducible first | exact za2 hw.right.right.left | exact za2 hw.right.right.right.left))), SA.out⟩, ⟨(RB.out.imp (fun _ hw => (by with_reducible first | exact za2 hw.right.left | exact za2 hw.right.right.left))), SB.out⟩, (RC.out.imp (fun _ hw => za2 hw.left)), SC.out⟩ K.right.drop2 J))
end
end Go.Proofs.YtfknjmoekbabcaaGreatDoor
