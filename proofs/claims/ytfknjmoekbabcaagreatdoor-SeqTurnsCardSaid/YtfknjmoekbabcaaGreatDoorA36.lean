/-
  A part of a proof. It proves no statement by itself.
-/
import Derived.Test.YtfknjmoekbabcaaGreatDoorA34
import Derived.Test.YtfknjmoekbabcaaGreatDoorA35
import Derived.Deep.CutRange
set_option linter.unusedSimpArgs false
set_option linter.unusedVariables false
set_option linter.unusedSectionVars false
set_option maxRecDepth 100000
set_option maxHeartbeats 64000000
namespace Go.Proofs.YtfknjmoekbabcaaGreatDoor
open Go.RowKit Go.Lib
open Sq (Tk Nd Mp zcb InT)
section
variable {x : Sx} {M : Mp} {F : Asn} {w : World} {R : Ending → World → Prop}
theorem zsc {m : Option Mp} {A : Asn} (H : Sat (A * (zas (x.grow 0) m * F)) w) : Sat (A * (zas x m * F)) w := by
 have e : x.grow 0 = x := by cases x; simp [Sx.grow]
 rw [e] at H
 exact H
theorem xbu {A B C D : Asn} (H : Sat (A * (B * (C * (D * F)))) w) : Sat (D * (A * (B * (C * F)))) w := H.of_eq (by ac_rfl)
theorem zsb {N A B C D : Asn} (H : Sat (A * (N * (D * (B * (C * F))))) w) : Sat (D * F) w := (H.of_eq (show _ = (A * (N * (B * C))) * (D * F) from by ac_rfl)).right
theorem zsa {N A B C D : Asn} (H : Sat (N * (D * (A * (B * (C * F))))) w) : Sat (A * (N * (D * (B * (C * F))))) w := H.of_eq (by ac_rfl)
theorem z1q {N : Asn} {b : Nat} {t : TypeId} {y0 y1 y2 y3 y4 y5 y6 y7 : Value} (x0 x1 : Value) (H : Sat (pts b (.cells #[y0, y1, y2, y3, y4, y5, y6, y7] t (0, 0)) * F) w) :
  Sat (pts b (.cells #[x0, x1, y2, y3, y4, y5, y6, y7] t (0, 0)) * F) ((w.setCell ⟨b, 0, none⟩ x0).setCell ⟨b, 1, none⟩ x1) := (H.cell 0 x0).cell 1 x1
theorem zzp {m : Option Mp} (v1 v2 : Int) (H : Sat (zas x m * F) w) (h : ∀ w', Sat (zas x m * F) w' → Io w w' → R (.returned (ndA 0 0 0 0 0 0 0 0)) w') :
  Calls Tryz.prog 78 #[.pointer (some ⟨x.s, 0, none⟩), tkA 4294967295 4294967295, tkA v1 v2] w R := by
 have HH := L_ h
 have H1 := xbu (((H.new (.cells #[.int .i64 4294967295, .int .i64 4294967295] 29)).new (.cells #[.int .i64 v1, .int .i64 v2] 29)).new (.cells #[.int .i64 0, .int .i64 0, .int .i64 0, .int .i64 0, .int .i64 0, .int .i64 0, .int .i64 0, .int .i64 0] 85))
 have I1 := io3 H1 (Io.refl w)
 simp only [World.size_alloc, Nat.add_assoc, Nat.reduceAdd] at H1
 clear h H
 go_enter Tryz.func78, Tryz.ntmps78
 go_upto_region 1 with fail
 generalize ((w.alloc _).alloc _).alloc _ = w1 at *
 generalize w.heap.size = bx at *
 obtain ⟨y0, y1⟩ := tk2 H1.right.right.right
 go_upto_region 2 with (go_at_call 58; (with_reducible refine zoy H1 ?_); intro w2 H2 I2; have K2 := H2.new (.cells #[.int .i64 0, .int .i64 0, .int .i64 0, .int .i64 0, .int .i64 0, .int .i64 0, .int .i64 0, .int .i64 0] 85); have J2 := (I1.trans I2).alloc (.cells #[.int .i64 0, .int .i64 0, .int .i64 0, .int .i64 0, .int .i64 0, .int .i64 0, .int .i64 0, .int .i64 0] 85))
 clear y0 y1 H1 I1 H2 I2
 generalize w2.alloc _ = w3 at *
 generalize w2.heap.size = bn at *
 have Kd := K2.drew
 have Jd := J2.drew
 clear K2 J2
 have EQ := fun W => zde 4294967295 4294967295 4294967295 4294967295 W
 simp only [decide_true, Bool.not_true] at EQ
 have S0 := And.intro (tk2 Kd.right.right.right.right) (And.intro (tk2 Kd.right.right.right) (And.intro (nd8 Kd).1 (nd8 Kd).2.1))
 refine rh Kd (fun W Kd => And.intro (tk2 Kd.right.right.right.right) (And.intro (tk2 Kd.right.right.right) (And.intro (nd8 Kd).1 (nd8 Kd).2.1))) fun hHeld => ?_
 refine tk ?_ ?_ [0] ?_ hHeld ?_; rotate_left 2; exact tt
 refine rd [1] (rc fun K hK => ?_)
 go_simp
 go_at_call 46; (with_reducible refine zan Kd ?_); intro w4 H4 I4; have S1 := And.intro (tk2 H4.right.right.right.right) (And.intro (tk2 H4.right.right.right) (And.intro (nd8 H4).1 (nd8 H4).2.1))
 refine hK.out _ _ (by exact S1) fun hHeld => ?_
 clear hK K
 try simp only [sp]
 refine tk ?_ ?_ [2, 3, 4, 5, 6, 7, 8] ?_ hHeld ?_; rotate_left 2; exact tt
 refine wpAnyH_done (by kernel_rfl) ?_ _
 have KR := zsa H4
 have FF := zby KR
 obtain ⟨f0, f1, f2, f3, f4, f5, f6, f7⟩ := FF
 have QQ := nd8 KR
 obtain ⟨q0, q1, q2, q3, q4, q5, q6, q7⟩ := QQ
 have NN := nd8 KR.right
 obtain ⟨n0, n1, n2, n3, n4, n5, n6, n7⟩ := NN
 have KE := zay (.int .i64 0) (.int .i64 0) (.int .i64 0) (.int .i64 0) (.int .i64 0) (.int .i64 0) (.int .i64 0) (.int .i64 0) KR
 have JE := zac (b := bx + 2) (.int .i64 0) (.int .i64 0) (.int .i64 0) (.int .i64 0) (.int .i64 0) (.int .i64 0) (.int .i64 0) (.int .i64 0) (Jd.trans I4)
 have ZZ := nd8 KE
 obtain ⟨z0, z1, z2, z3, z4, z5, z6, z7⟩ := ZZ
 have FIN := L_ (HH.out _ (zsb KE) JE)
 go_wp2_with fail
 have hag := Tryz.isAgg85
 have hsz := Tryz.sizeOf85
 exact bodyPost_ret (v := ndA (0) (0) (0) (0) (0) (0) (0) (0)) (by simp [results, Tryz.results78, go_sem, z0, z1, z2, z3, z4, z5, z6, z7]) rfl FIN.out
theorem zq0 (k1 k2 v1 v2 : Int) (hne : Hid ((k1, k2) ≠ Sq.nob)) (hx : Hid x.Ok) (H : Sat (zas x none * F) w) (h : ∀ u1 u2 w', Sat (zas x none * F) w' → Io w w' → R (.returned (ndA u1 u2 0 0 0 0 0 0)) w') :
  Calls Tryz.prog 78 #[.pointer (some ⟨x.s, 0, none⟩), tkA k1 k2, tkA v1 v2] w R := by
 have HH := L_ h
 have H1 := xbu (((H.new (.cells #[.int .i64 k1, .int .i64 k2] 29)).new (.cells #[.int .i64 v1, .int .i64 v2] 29)).new (.cells #[.int .i64 0, .int .i64 0, .int .i64 0, .int .i64 0, .int .i64 0, .int .i64 0, .int .i64 0, .int .i64 0] 85))
 have I1 := io3 H1 (Io.refl w)
 simp only [World.size_alloc, Nat.add_assoc, Nat.reduceAdd] at H1
 clear h H
 go_enter Tryz.func78, Tryz.ntmps78
 go_upto_region 1 with fail
 generalize ((w.alloc _).alloc _).alloc _ = w1 at *
 generalize w.heap.size = bx at *
 obtain ⟨y0, y1⟩ := tk2 H1.right.right.right
 go_upto_region 2 with (go_at_call 58; (with_reducible refine zwh k1 k2 hne H1 ?_); intro w2 H2 I2; have K2 := H2.new (.cells #[.int .i64 0, .int .i64 0, .int .i64 0, .int .i64 0, .int .i64 0, .int .i64 0, .int .i64 0, .int .i64 0] 85); have J2 := (I1.trans I2).alloc (.cells #[.int .i64 0, .int .i64 0, .int .i64 0, .int .i64 0, .int .i64 0, .int .i64 0, .int .i64 0, .int .i64 0] 85))
 clear y0 y1 H1 I1 H2 I2
 generalize w2.alloc _ = w3 at *
 generalize w2.heap.size = bn at *
 have Kd := K2.drew
 have Jd := J2.drew
 clear K2 J2
 have EQ := fun W => zde k1 k2 4294967295 4294967295 W
 rw [show decide ((k1, k2) = ((4294967295 : Int), (4294967295 : Int))) = false from decide_eq_false hne.out] at EQ
 simp only [Bool.not_false] at EQ
 have EQ2 := fun W => zde 0 0 v1 v2 W
 by_cases hu : ((0 : Int), (0 : Int)) = (v1, v2)
 ·rw [decide_eq_true hu] at EQ2
  simp only [Bool.not_true] at EQ2
  have S0 := And.intro (tk2 Kd.right.right.right.right) (And.intro (tk2 Kd.right.right.right) (And.intro (nd8 Kd).1 (nd8 Kd).2.1))
  refine rh Kd (fun W Kd => And.intro (tk2 Kd.right.right.right.right) (And.intro (tk2 Kd.right.right.right) (And.intro (nd8 Kd).1 (nd8 Kd).2.1))) fun hHeld => ?_
  refine tk ?_ ?_ [0] ?_ hHeld ?_; rotate_left 2; exact tt
  refine rd [1] (rc fun K hK => ?_)
  go_simp
  go_at_call 46; (with_reducible refine zan Kd ?_); intro w4 H4 I4; have S1 := And.intro (tk2 H4.right.right.right.right) (And.intro (tk2 H4.right.right.right) (And.intro (nd8 H4).1 (nd8 H4).2.1))
  refine hK.out _ _ (by exact S1) fun hHeld => ?_
  clear hK K
  try simp only [sp]
  refine tk ?_ ?_ [2, 3, 4, 5, 6, 7, 8] ?_ hHeld ?_; rotate_left 2; exact tt
  refine wpAnyH_done (by kernel_rfl) ?_ _
  have KR := zsa H4
  have FF := zby KR
  obtain ⟨f0, f1, f2, f3, f4, f5, f6, f7⟩ := FF
  have QQ := nd8 KR
  obtain ⟨q0, q1, q2, q3, q4, q5, q6, q7⟩ := QQ
  have NN := nd8 KR.right
  obtain ⟨n0, n1, n2, n3, n4, n5, n6, n7⟩ := NN
  have KE := zay (.int .i64 0) (.int .i64 0) (.int .i64 0) (.int .i64 0) (.int .i64 0) (.int .i64 0) (.int .i64 0) (.int .i64 0) KR
  have JE := zac (b := bx + 2) (.int .i64 0) (.int .i64 0) (.int .i64 0) (.int .i64 0) (.int .i64 0) (.int .i64 0) (.int .i64 0) (.int .i64 0) (Jd.trans I4)
  have ZZ := nd8 KE
  obtain ⟨z0, z1, z2, z3, z4, z5, z6, z7⟩ := ZZ
  have FIN := L_ (HH.out 0 0 _ (zsb KE) JE)
  go_wp2_with fail
  have hag := Tryz.isAgg85
  have hsz := Tryz.sizeOf85
  exact bodyPost_ret (v := ndA (0) (0) (0) (0) (0) (0) (0) (0)) (by simp [results, Tryz.results78, go_sem, z0, z1, z2, z3, z4, z5, z6, z7]) rfl FIN.out
 ·rw [decide_eq_false hu] at EQ2
  simp only [Bool.not_false] at EQ2
  have HNO : Hid (∀ M0, (none : Option Mp) = some M0 → Sq.OkT (k1, k2) ∧ Sq.OkN ⟨(v1, v2), (0, 0), (0, 0), 0, 0⟩ ∧ ((M0 (k1, k2) ≠ none ∧ (0 : Nat) = 0) ∨ (0 : Nat) = 40)) := L_ fun M0 h => nomatch h
  have S0 := And.intro (tk2 Kd.right.right.right.right) (And.intro (tk2 Kd.right.right.right) (And.intro (nd8 Kd).1 (nd8 Kd).2.1))
  refine rh Kd (fun W Kd => And.intro (tk2 Kd.right.right.right.right) (And.intro (tk2 Kd.right.right.right) (And.intro (nd8 Kd).1 (nd8 Kd).2.1))) fun hHeld => ?_
  refine tk ?_ ?_ [0] ?_ hHeld ?_; rotate_left 2; exact tt
  refine rd [1] (rc fun K hK => ?_)
  go_simp
  go_at_call 46; (with_reducible refine zan Kd ?_); intro w4 H4 I4; have S1 := And.intro (tk2 H4.right.right.right.right) (And.intro (tk2 H4.right.right.right) (And.intro (nd8 H4).1 (nd8 H4).2.1))
  refine hK.out _ _ (by exact S1) fun hHeld => ?_
  clear hK K
  try simp only [sp]
  refine tk ?_ ?_ [2, 3, 4, 5, 6, 7, 8] ?_ hHeld ?_; rotate_left 2; exact tt
  refine wpAnyH_done (by kernel_rfl) ?_ _
  obtain ⟨p0, p1⟩ := tk2 H4.right.right.right
  obtain ⟨g0, g1, -⟩ := zby H4
  obtain ⟨n0, n1, n2, n3, n4, n5, n6, n7⟩ := nd8 H4
  have K5 := z1q (N := emp) (.int .i64 v1) (.int .i64 v2) H4
  have J5 := zax (b := bn) (.int .i64 v1) (.int .i64 v2) (Jd.trans I4)
  go_upto_region 4 with fail
  clear p0 p1 g0 g1 n0 n1 n2 n3 n4 n5 n6 n7 H4 I4 Kd Jd
  generalize (w4.setCell ⟨bn, 0, none⟩ (.int .i64 v1)).setCell ⟨bn, 1, none⟩ (.int .i64 v2) = w5 at *
  obtain ⟨p0, p1⟩ := tk2 K5.right.right.right.right
  obtain ⟨n0, n1, n2, n3, n4, n5, n6, n7⟩ := nd8 K5
  go_upto_region 5 with (go_at_call 79; (with_reducible refine zkl k1 k2 (v1) (v2) (0) (0) (0) (0) (0) (0) 0 HNO hx (zaj K5) ?_); intro m6 w6 hm6 H6 I6; have K6 := zaj H6)
  clear p0 p1 n0 n1 n2 n3 n4 n5 n6 n7
  obtain rfl : m6 = none := by
   cases m6 with
   | none => rfl
   | some M' => obtain ⟨M, h, _⟩ := hm6.out M' rfl; cases h
  have K7 := zsc K6
  have KR := zsa K7
  have FF := zby KR
  obtain ⟨f0, f1, f2, f3, f4, f5, f6, f7⟩ := FF
  have QQ := nd8 KR
  obtain ⟨q0, q1, q2, q3, q4, q5, q6, q7⟩ := QQ
  have NN := nd8 KR.right
  obtain ⟨n0, n1, n2, n3, n4, n5, n6, n7⟩ := NN
  have KE := zay (.int .i64 v1) (.int .i64 v2) (.int .i64 0) (.int .i64 0) (.int .i64 0) (.int .i64 0) (.int .i64 0) (.int .i64 0) KR
  have JE := zac (b := bx + 2) (.int .i64 v1) (.int .i64 v2) (.int .i64 0) (.int .i64 0) (.int .i64 0) (.int .i64 0) (.int .i64 0) (.int .i64 0) (J5.trans I6)
  have ZZ := nd8 KE
  obtain ⟨z0, z1, z2, z3, z4, z5, z6, z7⟩ := ZZ
  have FIN := L_ (HH.out v1 v2 _ (zsb KE) JE)
  go_wp2_with fail
  have hag := Tryz.isAgg85
  have hsz := Tryz.sizeOf85
  exact bodyPost_ret (v := ndA (v1) (v2) (0) (0) (0) (0) (0) (0)) (by simp [results, Tryz.results78, go_sem, z0, z1, z2, z3, z4, z5, z6, z7]) rfl FIN.out
theorem zxi {M : Mp} (k1 k2 v1 v2 : Int) {u1 u2 l1 l2 r1 r2 ct ht : Int} (hk : Hid (M (k1, k2) = some ⟨(u1, u2), (l1, l2), (r1, r2), ct, ht⟩)) (ok : Hid (Sq.OkT (k1, k2) ∧ Sq.OkN ⟨(v1, v2), (l1, l2), (r1, r2), ct, ht⟩)) (hx : Hid x.Ok) (H : Sat (zas x (some M) * F) w)
  (h : ∀ m' w', Hid (∀ M', m' = some M' → M' = M ∧ (u1, u2) = (v1, v2) ∨ M' = Sq.upd M (k1, k2) ⟨(v1, v2), (l1, l2), (r1, r2), ct, ht⟩) → Sat (zas x m' * F) w' → Io w w' → R (.returned (ndA v1 v2 l1 l2 r1 r2 ct ht)) w') :
  Calls Tryz.prog 78 #[.pointer (some ⟨x.s, 0, none⟩), tkA k1 k2, tkA v1 v2] w R := by
 have hne : (k1, k2) ≠ Sq.nob := ok.out.1.ne
 have HH := L_ h
 have H1 := xbu (((H.new (.cells #[.int .i64 k1, .int .i64 k2] 29)).new (.cells #[.int .i64 v1, .int .i64 v2] 29)).new (.cells #[.int .i64 0, .int .i64 0, .int .i64 0, .int .i64 0, .int .i64 0, .int .i64 0, .int .i64 0, .int .i64 0] 85))
 have I1 := io3 H1 (Io.refl w)
 simp only [World.size_alloc, Nat.add_assoc, Nat.reduceAdd] at H1
 clear h H
 go_enter Tryz.func78, Tryz.ntmps78
 go_upto_region 1 with fail
 generalize ((w.alloc _).alloc _).alloc _ = w1 at *
 generalize w.heap.size = bx at *
 obtain ⟨y0, y1⟩ := tk2 H1.right.right.right
 go_upto_region 2 with (go_at_call 58; (with_reducible refine zdo k1 k2 hk hx H1 ?_); intro w2 H2 I2; have K2 := H2.new (.cells #[.int .i64 u1, .int .i64 u2, .int .i64 l1, .int .i64 l2, .int .i64 r1, .int .i64 r2, .int .i64 ct, .int .i64 ht] 85); have J2 := (I1.trans I2).alloc (.cells #[.int .i64 u1, .int .i64 u2, .int .i64 l1, .int .i64 l2, .int .i64 r1, .int .i64 r2, .int .i64 ct, .int .i64 ht] 85))
 clear y0 y1 H1 I1 H2 I2
 generalize w2.alloc _ = w3 at *
 generalize w2.heap.size = bn at *
 have Kd := K2.drew
 have Jd := J2.drew
 clear K2 J2
 have EQ := fun W => zde k1 k2 4294967295 4294967295 W
 rw [show decide ((k1, k2) = ((4294967295 : Int), (4294967295 : Int))) = false from decide_eq_false hne] at EQ
 simp only [Bool.not_false] at EQ
 have EQ2 := fun W => zde u1 u2 v1 v2 W
 by_cases hu : ((u1 : Int), (u2 : Int)) = (v1, v2)
 ·rw [decide_eq_true hu] at EQ2
  simp only [Bool.not_true] at EQ2
  obtain ⟨rfl, rfl⟩ : u1 = v1 ∧ u2 = v2 := by rw [Prod.mk.injEq] at hu; exact hu
  have S0 := And.intro (tk2 Kd.right.right.right.right) (And.intro (tk2 Kd.right.right.right) (And.intro (nd8 Kd).1 (nd8 Kd).2.1))
  refine rh Kd (fun W Kd => And.intro (tk2 Kd.right.right.right.right) (And.intro (tk2 Kd.right.right.right) (And.intro (nd8 Kd).1 (nd8 Kd).2.1))) fun hHeld => ?_
  refine tk ?_ ?_ [0] ?_ hHeld ?_; rotate_left 2; exact tt
  refine rd [1] (rc fun K hK => ?_)
  go_simp
  go_at_call 46; (with_reducible refine zan Kd ?_); intro w4 H4 I4; have S1 := And.intro (tk2 H4.right.right.right.right) (And.intro (tk2 H4.right.right.right) (And.intro (nd8 H4).1 (nd8 H4).2.1))
  refine hK.out _ _ (by exact S1) fun hHeld => ?_
  clear hK K
  try simp only [sp]
  refine tk ?_ ?_ [2, 3, 4, 5, 6, 7, 8] ?_ hHeld ?_; rotate_left 2; exact tt
  refine wpAnyH_done (by kernel_rfl) ?_ _
  have KR := zsa H4
  have FF := zby KR
  obtain ⟨f0, f1, f2, f3, f4, f5, f6, f7⟩ := FF
  have QQ := nd8 KR
  obtain ⟨q0, q1, q2, q3, q4, q5, q6, q7⟩ := QQ
  have NN := nd8 KR.right
  obtain ⟨n0, n1, n2, n3, n4, n5, n6, n7⟩ := NN
  have KE := zay (.int .i64 u1) (.int .i64 u2) (.int .i64 l1) (.int .i64 l2) (.int .i64 r1) (.int .i64 r2) (.int .i64 ct) (.int .i64 ht) KR
  have JE := zac (b := bx + 2) (.int .i64 u1) (.int .i64 u2) (.int .i64 l1) (.int .i64 l2) (.int .i64 r1) (.int .i64 r2) (.int .i64 ct) (.int .i64 ht) (Jd.trans I4)
  have ZZ := nd8 KE
  obtain ⟨z0, z1, z2, z3, z4, z5, z6, z7⟩ := ZZ
  have FIN := L_ (HH.out (some M) _ (L_ fun M' h => .inl ⟨(Option.some.inj h).symm, rfl⟩) (zsb KE) JE)
  go_wp2_with fail
  have hag := Tryz.isAgg85
  have hsz := Tryz.sizeOf85
  exact bodyPost_ret (v := ndA (u1) (u2) (l1) (l2) (r1) (r2) (ct) (ht)) (by simp [results, Tryz.results78, go_sem, z0, z1, z2, z3, z4, z5, z6, z7]) rfl FIN.out
 ·rw [decide_eq_false hu] at EQ2
  simp only [Bool.not_false] at EQ2
  have HOK : Hid (∀ M0, some M = some M0 → Sq.OkT (k1, k2) ∧ Sq.OkN ⟨(v1, v2), (l1, l2), (r1, r2), ct, ht⟩ ∧ ((M0 (k1, k2) ≠ none ∧ (0 : Nat) = 0) ∨ (0 : Nat) = 40)) := L_ fun M0 h => by
   cases h
   exact ⟨ok.out.1, ok.out.2, .inl ⟨by rw [hk.out]; simp, rfl⟩⟩
  have S0 := And.intro (tk2 Kd.right.right.right.right) (And.intro (tk2 Kd.right.right.right) (And.intro (nd8 Kd).1 (nd8 Kd).2.1))
  refine rh Kd (fun W Kd => And.intro (tk2 Kd.right.right.right.right) (And.intro (tk2 Kd.right.right.right) (And.intro (nd8 Kd).1 (nd8 Kd).2.1))) fun hHeld => ?_
  refine tk ?_ ?_ [0] ?_ hHeld ?_; rotate_left 2; exact tt
  refine rd [1] (rc fun K hK => ?_)
  go_simp
  go_at_call 46; (with_reducible refine zan Kd ?_); intro w4 H4 I4; have S1 := And.intro (tk2 H4.right.right.right.right) (And.intro (tk2 H4.right.right.right) (And.intro (nd8 H4).1 (nd8 H4).2.1))
  refine hK.out _ _ (by exact S1) fun hHeld => ?_
  clear hK K
  try simp only [sp]
  refine tk ?_ ?_ [2, 3, 4, 5, 6, 7, 8] ?_ hHeld ?_; rotate_left 2; exact tt
  refine wpAnyH_done (by kernel_rfl) ?_ _
  obtain ⟨p0, p1⟩ := tk2 H4.right.right.right
  obtain ⟨g0, g1, -⟩ := zby H4
  obtain ⟨n0, n1, n2, n3, n4, n5, n6, n7⟩ := nd8 H4
  have K5 := z1q (N := emp) (.int .i64 v1) (.int .i64 v2) H4
  have J5 := zax (b := bn) (.int .i64 v1) (.int .i64 v2) (Jd.trans I4)
  go_upto_region 4 with fail
  clear p0 p1 g0 g1 n0 n1 n2 n3 n4 n5 n6 n7 H4 I4 Kd Jd
  generalize (w4.setCell ⟨bn, 0, none⟩ (.int .i64 v1)).setCell ⟨bn, 1, none⟩ (.int .i64 v2) = w5 at *
  obtain ⟨p0, p1⟩ := tk2 K5.right.right.right.right
  obtain ⟨n0, n1, n2, n3, n4, n5, n6, n7⟩ := nd8 K5
  go_upto_region 5 with (go_at_call 79; (with_reducible refine zkl k1 k2 (v1) (v2) (l1) (l2) (r1) (r2) (ct) (ht) 0 HOK hx (zaj K5) ?_); intro m6 w6 hm6 H6 I6; have K6 := zaj H6)
  clear p0 p1 n0 n1 n2 n3 n4 n5 n6 n7
  have K7 := zsc K6
  have KR := zsa K7
  have FF := zby KR
  obtain ⟨f0, f1, f2, f3, f4, f5, f6, f7⟩ := FF
  have QQ := nd8 KR
  obtain ⟨q0, q1, q2, q3, q4, q5, q6, q7⟩ := QQ
  have NN := nd8 KR.right
  obtain ⟨n0, n1, n2, n3, n4, n5, n6, n7⟩ := NN
  have KE := zay (.int .i64 v1) (.int .i64 v2) (.int .i64 l1) (.int .i64 l2) (.int .i64 r1) (.int .i64 r2) (.int .i64 ct) (.int .i64 ht) KR
  have JE := zac (b := bx + 2) (.int .i64 v1) (.int .i64 v2) (.int .i64 l1) (.int .i64 l2) (.int .i64 r1) (.int .i64 r2) (.int .i64 ct) (.int .i64 ht) (J5.trans I6)
  have ZZ := nd8 KE
  obtain ⟨z0, z1, z2, z3, z4, z5, z6, z7⟩ := ZZ
  have FIN := L_ (HH.out m6 _ (L_ fun M' h => .inr (by obtain ⟨M0, h0, h1⟩ := hm6.out M' h; cases h0; exact h1)) (zsb KE) JE)
  go_wp2_with fail
  have hag := Tryz.isAgg85
  have hsz := Tryz.sizeOf85
  exact bodyPost_ret (v := ndA (v1) (v2) (l1) (l2) (r1) (r2) (ct) (ht)) (by simp [results, Tryz.results78, go_sem, z0, z1, z2, z3, z4, z5, z6, z7]) rfl FIN.out
end
namespace Sq
theorem zos {t : T} (h : ∀ y ∈ t.toks, OkT y) : InT t.top := by
 by_cases e : t = .nil
 ·subst e; exact zu1
 ·exact (h _ (T.ze1 e)).inT
theorem nod_ok {l r : T} {u : Tk} (hl : ∀ y ∈ l.toks, OkT y) (hr : ∀ y ∈ r.toks, OkT y) (hu : InT u) (hc : l.cnt + r.cnt + 1 ≤ 255) : OkN (nod l r u) where
 up := hu
 left := zos hl
 right := zos hr
 count := by unfold nod zcb; simp only; omega
 height := by
  have := l.zdw
  have := r.zdw
  unfold nod
  simp only
  omega
end Sq
section
variable {x : Sx} {M : Mp} {F : Asn} {w : World} {R : Ending → World → Prop}
theorem zbm {m : Option Mp} (t : Sq.T) (k1 k2 v1 v2 : Int) (hk : Hid ((k1, k2) = t.top)) (hv : Hid (InT (v1, v2))) (hh : Hid (∀ M, m = some M → ∃ u, Sq.zc0 M t u)) (ok : Hid ((∀ y ∈ t.toks, Sq.OkT y) ∧ t.cnt ≤ 255)) (hx : Hid x.Ok) (H : Sat (zas x m * F) w)
  (h : ∀ m' u1 u2 l1 l2 r1 r2 ct ht w', Hid ((∀ M', m' = some M' → ∃ M, m = some M ∧ M' = Sq.zvj M t (v1, v2)) ∧ ((ct = (t.cnt : Int) ∧ ht = (t.ht : Int)) ∨ (m' = none ∧ ct = 0 ∧ ht = 0))) → Sat (zas x m' * F) w' → Io w w' → R (.returned (ndA u1 u2 l1 l2 r1 r2 ct ht)) w') :
  Calls Tryz.prog 78 #[.pointer (some ⟨x.s, 0, none⟩), tkA k1 k2, tkA v1 v2] w R := by
 cases t with
 | nil =>
  have e := hk.out
  unfold Sq.T.top Sq.nob at e
  rw [Prod.mk.injEq] at e
  obtain ⟨rfl, rfl⟩ := e
  exact zzp v1 v2 H fun w' H' I => h m 0 0 0 0 0 0 0 0 w' (L_ ⟨fun M' hM => ⟨M', hM, rfl⟩, .inl ⟨rfl, rfl⟩⟩) H' I
 | node l k r =>
  obtain ⟨okt, hc⟩ := ok.out
  have okl : ∀ y ∈ l.toks, Sq.OkT y := fun y hy => okt y (by simp [Sq.T.toks, hy])
  have okr : ∀ y ∈ r.toks, Sq.OkT y := fun y hy => okt y (by simp [Sq.T.toks, hy])
  have okk : Sq.OkT (k1, k2) := by rw [hk.out]; exact okt k (by simp [Sq.T.toks])
  cases m with
  | none => exact zq0 k1 k2 v1 v2 (L_ okk.ne) hx H fun u1 u2 w' H' I => h none u1 u2 0 0 0 0 0 0 w' (L_ ⟨(fun M' h => nomatch h), .inr ⟨rfl, rfl, rfl⟩⟩) H' I
  | some M =>
   obtain ⟨u, hu⟩ := hh.out M rfl
   have e1 : M (k1, k2) = some (Sq.nod l r u) := by rw [hk.out]; exact hu.1
   have okn : Sq.OkN (Sq.nod l r (v1, v2)) := Sq.nod_ok okl okr hv.out (by simpa [Sq.T.cnt] using hc)
   refine zxi (u1 := u.1) (u2 := u.2) (l1 := l.top.1) (l2 := l.top.2) (r1 := r.top.1) (r2 := r.top.2) (ct := ((l.cnt + r.cnt + 1 : Nat) : Int)) (ht := ((max l.ht r.ht + 1 : Nat) : Int)) k1 k2 v1 v2 (L_ e1) (L_ ⟨okk, okn⟩) hx H fun m' w' hm H' I => h m' _ _ _ _ _ _ _ _ w' (L_ ⟨fun M' h => ⟨M, rfl, ?_⟩, .inl ⟨rfl, rfl⟩⟩) H' I
   rcases hm.out M' h with ⟨rfl, e⟩ | rfl
   ·have e' : u = (v1, v2) := e
    subst e'
    exact (Sq.zx7 hu).symm
   ·rw [hk.out]
    rfl
theorem fr2 {A B C : Asn} (H : Sat (A * (B * (C * F))) w) : Sat (C * (A * (B * F))) w := H.of_eq (by ac_rfl)
theorem bk2 {A B C : Asn} (H : Sat (C * (A * (B * F))) w) : Sat (A * (B * (C * F))) w := H.of_eq (by ac_rfl)
theorem zzs {A B C D E : Asn} (H : Sat (A * (B * (C * (D * (E * F))))) w) : Sat (E * (A * (B * (C * (D * F))))) w := H.of_eq (by ac_rfl)
theorem zaa {A : Asn} {b0 b1 b2 b3 : Nat} {t0 t1 t2 t3 : TypeId} {x0 x1 x2 x3 x4 x5 x6 x7 : Value} (H : Sat (A * (pts b3 (.cells #[x6, x7] t3 (0, 0)) * (pts b2 (.cells #[x4, x5] t2 (0, 0)) * (pts b1 (.cells #[x2, x3] t1 (0, 0)) * (pts b0 (.cells #[x0, x1] t0 (0, 0)) * F))))) w) :
  (w.cell? ⟨b0, 0, none⟩ = some x0 ∧ w.cell? ⟨b0, 1, none⟩ = some x1) ∧ (w.cell? ⟨b1, 0, none⟩ = some x2 ∧ w.cell? ⟨b1, 1, none⟩ = some x3) ∧ (w.cell? ⟨b2, 0, none⟩ = some x4 ∧ w.cell? ⟨b2, 1, none⟩ = some x5) :=
 ⟨tk2 H.right.right.right.right, tk2 H.right.right.right, tk2 H.right.right⟩
def zjv (m : Option Mp) (l r : Sq.T) (k : Tk) (d : Nat) : Prop := ∀ M, m = some M → (∃ u, Sq.zc0 M l u) ∧ (∃ u, Sq.zc0 M r u) ∧ ((M k ≠ none ∧ d = 0) ∨ d = 40)
structure zjn (l r : Sq.T) (k : Tk) : Prop where
 nodup : (l.toks ++ k :: r.toks).Nodup
 ok : ∀ y ∈ l.toks ++ k :: r.toks, Sq.OkT y
 cnt : l.cnt + r.cnt + 1 ≤ 255
def Made (m m' : Option Mp) (l r : Sq.T) (k : Tk) (t : Sq.T) : Prop := ∀ M', m' = some M' → ∃ M, m = some M ∧ Sq.zc0 M' t Sq.nob ∧ ∀ y, y ∉ l.toks ++ k :: r.toks → M' y = M y
theorem xav {l r : Sq.T} {k : Tk} (h : zjn l r k) : (∀ y ∈ l.toks, Sq.OkT y) ∧ l.cnt ≤ 255 := ⟨fun y hy => h.ok y (by simp [hy]), by have := h.cnt; omega⟩
theorem xau {l r : Sq.T} {k : Tk} (h : zjn l r k) : (∀ y ∈ r.toks, Sq.OkT y) ∧ r.cnt ≤ 255 := ⟨fun y hy => h.ok y (by simp [hy]), by have := h.cnt; omega⟩
theorem zzr {l r : Sq.T} {k : Tk} (h : zjn l r k) : Sq.OkT k := h.ok k (by simp)
theorem zzt {m : Option Mp} {l r : Sq.T} {k : Tk} {d : Nat} (h : zjn l r k) (p : zjv m l r k d) : ∀ M, m = some M → ∃ u, Sq.zc0 M l u := fun M hM => (p M hM).1
theorem zwi {l r : Sq.T} {k : Tk} (h : zjn l r k) : (l.toks.Nodup ∧ r.toks.Nodup) ∧ (∀ y ∈ l.toks, y ∉ r.toks) ∧ k ∉ l.toks ∧ k ∉ r.toks := by
 obtain ⟨h1, h2, h3⟩ := List.nodup_append.1 h.nodup
 obtain ⟨h4, h5⟩ := List.nodup_cons.1 h2
 exact ⟨⟨h1, h5⟩, fun y hy hr => h3 y hy y (by simp [hr]) rfl, fun hl => h3 k hl k (by simp) rfl, h4⟩
abbrev Hung (m m' : Option Mp) (t : Sq.T) (v : Tk) : Prop := ∀ M', m' = some M' → ∃ M, m = some M ∧ M' = Sq.zvj M t v
theorem zgh {m m1 : Option Mp} {l r : Sq.T} {k : Tk} {d : Nat} (h : zjn l r k) (p : zjv m l r k d) (h1 : Hung m m1 l k) : ∀ M, m1 = some M → ∃ u, Sq.zc0 M r u := fun M1 hM => by
 obtain ⟨M, rfl, rfl⟩ := h1 M1 hM
 obtain ⟨u, hu⟩ := (p M rfl).2.1
 obtain ⟨_, n2, _, _⟩ := zwi h
 exact ⟨u, hu.congr fun y hy => Sq.zel fun hl => n2 y hl hy⟩
def zw6 (m m2 : Option Mp) (l r : Sq.T) (k : Tk) (c1 h1 c2 h2 : Int) : Prop :=
 (∀ M2, m2 = some M2 → ∃ M, m = some M ∧ Sq.zc0 M2 l k ∧ Sq.zc0 M2 r k ∧ (∀ y, y ∉ l.toks → y ∉ r.toks → M2 y = M y) ∧ c1 = (l.cnt : Int) ∧ h1 = (l.ht : Int) ∧ c2 = (r.cnt : Int) ∧ h2 = (r.ht : Int)) ∧ (0 ≤ c1 ∧ c1 ≤ 255 ∧ 0 ≤ c2 ∧ c2 ≤ 255 ∧ 0 ≤ h1 ∧ h1 ≤ 255 ∧ 0 ≤ h2 ∧ h2 ≤ 255)
theorem set_mid {m m1 m2 : Option Mp} {l r : Sq.T} {k : Tk} {d : Nat} {c1 h1 c2 h2 : Int} (h : zjn l r k) (p : zjv m l r k d) (a1 : Hung m m1 l k ∧ ((c1 = (l.cnt : Int) ∧ h1 = (l.ht : Int)) ∨ (m1 = none ∧ c1 = 0 ∧ h1 = 0))) (a2 : Hung m1 m2 r k ∧ ((c2 = (r.cnt : Int) ∧ h2 = (r.ht : Int)) ∨ (m2 = none ∧ c2 = 0 ∧ h2 = 0))) : zw6 m m2 l r k c1 h1 c2 h2 := by
 obtain ⟨b1, n1⟩ := a1
 obtain ⟨b2, n2⟩ := a2
 have q1 := l.zdw
 have q2 := r.zdw
 have q3 := h.cnt
 constructor
 ·intro M2 hM2
  obtain ⟨M1, e1, rfl⟩ := b2 M2 hM2
  obtain ⟨M, e0, rfl⟩ := b1 M1 e1
  obtain ⟨⟨u, hu⟩, ⟨v, hv⟩, _⟩ := p M e0
  obtain ⟨⟨d1, d2⟩, d3, d4, d5⟩ := zwi h
  refine ⟨M, e0, ?_, ?_, ?_, ?_⟩
  ·exact (Sq.zhj hu d1).congr fun y hy => Sq.zel fun hr => d3 y hy hr
  ·exact Sq.zhj (hv.congr fun y hy => Sq.zel fun hl => d3 y hl hy) d2
  ·intro y y1 y2
   rw [Sq.zel y2, Sq.zel y1]
  ·rcases n1 with ⟨rfl, rfl⟩ | ⟨e, _⟩
   ·rcases n2 with ⟨rfl, rfl⟩ | ⟨e, _⟩
    ·exact ⟨rfl, rfl, rfl, rfl⟩
    ·rw [e] at hM2; cases hM2
   ·rw [e] at e1; cases e1
 ·rcases n1 with ⟨rfl, rfl⟩ | ⟨_, rfl, rfl⟩ <;> rcases n2 with ⟨rfl, rfl⟩ | ⟨_, rfl, rfl⟩ <;> omega
theorem xat {m m2 : Option Mp} {l r : Sq.T} {k1 k2 l1 l2 r1 r2 : Int} {d : Nat} {c1 h1 c2 h2 : Int} (il : InT (l1, l2)) (ir : InT (r1, r2)) (h : zjn l r (k1, k2)) (p : zjv m l r (k1, k2) d) (q : zw6 m m2 l r (k1, k2) c1 h1 c2 h2) :
  ∀ M, m2 = some M → Sq.OkT (k1, k2) ∧ Sq.OkN ⟨(4294967295, 4294967295), (l1, l2), (r1, r2), c1 + c2 + 1, max h1 h2 + 1⟩ ∧ ((M (k1, k2) ≠ none ∧ d = 0) ∨ d = 40) := by
 intro M2 hM
 obtain ⟨M, e, _, _, fr, q1, q2, q3, q4⟩ := q.1 M2 hM
 obtain ⟨_, _, n1, n2⟩ := zwi h
 have a1 := l.zdw
 have a2 := r.zdw
 have a3 := h.cnt
 refine ⟨zzr h, ⟨Sq.zu1, il, ir, ?_, ?_⟩, ?_⟩
 ·unfold zcb; simp only; omega
 ·simp only; omega
 ·rw [fr _ n1 n2]
  exact (p M e).2.2
theorem zwj {m m2 m3 : Option Mp} {l r : Sq.T} {k1 k2 l1 l2 r1 r2 : Int} {d : Nat} {c1 h1 c2 h2 : Int} (h : zjn l r (k1, k2)) (p : zjv m l r (k1, k2) d) (q : zw6 m m2 l r (k1, k2) c1 h1 c2 h2)
  (e : ∀ M', m3 = some M' → ∃ M, m2 = some M ∧ M' = Sq.upd M (k1, k2) ⟨(4294967295, 4294967295), (l1, l2), (r1, r2), c1 + c2 + 1, max h1 h2 + 1⟩) (el : (l1, l2) = l.top) (er : (r1, r2) = r.top) : Made m m3 l r (k1, k2) (.node l (k1, k2) r) := by
 intro M3 hM3
 obtain ⟨M2, e2, rfl⟩ := e M3 hM3
 obtain ⟨M, e0, hl, hr, fr, rfl, rfl, rfl, rfl⟩ := q.1 M2 e2
 obtain ⟨_, _, n1, n2⟩ := zwi h
 refine ⟨M, e0, ⟨?_, hl.congr fun y hy => Sq.upd_ne (by rintro rfl; exact n1 hy), hr.congr fun y hy => Sq.upd_ne (by rintro rfl; exact n2 hy)⟩, fun y hy => ?_⟩
 ·rw [Sq.zkj, el, er]
  unfold Sq.nod Sq.nob
  congr 1
  congr 1
  omega
 ·have y1 : y ∉ l.toks := fun h => hy (by simp [h])
  have y2 : y ∉ r.toks := fun h => hy (by simp [h])
  have y3 : y ≠ (k1, k2) := fun h => hy (by simp [h])
  rw [Sq.upd_ne y3, fr y y1 y2]
theorem zdp {A : Asn} {b0 b1 b2 b3 b9 b10 : Nat} {t0 t1 t2 t3 t9 t10 : TypeId} {x0 x1 x2 x3 x4 x5 x6 x7 y0 y1 y2 y3 y4 y5 y6 y7 z0 z1 z2 z3 z4 z5 z6 z7 : Value} (H : Sat (pts b9 (.cells #[y0, y1, y2, y3, y4, y5, y6, y7] t9 (0, 0)) * (pts b10 (.cells #[z0, z1, z2, z3, z4, z5, z6, z7] t10 (0, 0)) * (A * (pts b3 (.cells #[x6, x7] t3 (0, 0)) * (pts b2 (.cells #[x4, x5] t2 (0, 0)) * (pts b1 (.cells #[x2, x3] t1 (0, 0)) * (pts b0 (.cells #[x0, x1] t0 (0, 0)) * F))))))) w) :
  ((w.cell? ⟨b0, 0, none⟩ = some x0 ∧ w.cell? ⟨b0, 1, none⟩ = some x1) ∧ (w.cell? ⟨b1, 0, none⟩ = some x2 ∧ w.cell? ⟨b1, 1, none⟩ = some x3) ∧ (w.cell? ⟨b2, 0, none⟩ = some x4 ∧ w.cell? ⟨b2, 1, none⟩ = some x5)) ∧ (w.cell? ⟨b9, 6, none⟩ = some y6 ∧ w.cell? ⟨b9, 7, none⟩ = some y7) ∧ (w.cell? ⟨b10, 6, none⟩ = some z6 ∧ w.cell? ⟨b10, 7, none⟩ = some z7) := by
 have a := nd8 H
 have b := nd8 H.right
 exact ⟨zaa H.right.right, ⟨a.2.2.2.2.2.2.1, a.2.2.2.2.2.2.2⟩, ⟨b.2.2.2.2.2.2.1, b.2.2.2.2.2.2.2⟩⟩
theorem ze3 {A B C D E G : Asn} (H : Sat (A * (B * (C * (D * (E * (G * F)))))) w) : Sat (D * (A * (B * (C * (E * (G * F)))))) w := H.of_eq (by ac_rfl)
theorem zoz {A B C D E G I : Asn} (H : Sat (D * (A * (B * (C * (E * (G * (I * F))))))) w) : Sat (C * F) w := (H.of_eq (show _ = (D * (A * (B * (E * (G * I))))) * (C * F) from by ac_rfl)).right
theorem wrap_in {n : Int} (h1 : -1000000 ≤ n) (h2 : n ≤ 1000000) : IntKind.i64.wrap n = n := by
 rw [IntKind.wrap_i64]
 omega
theorem zwb {m : Option Mp} (l r : Sq.T) (k1 k2 l1 l2 r1 r2 : Int) (d : Nat) (hl : Hid ((l1, l2) = l.top)) (hr : Hid ((r1, r2) = r.top)) (ok : Hid (zjn l r (k1, k2))) (pre : Hid (zjv m l r (k1, k2) d)) (hx : Hid x.Ok) (H : Sat (zas x m * F) w)
  (h : ∀ m' w', Hid (Made m m' l r (k1, k2) (.node l (k1, k2) r)) → Sat (zas (x.grow d) m' * F) w' → Io w w' → R (.returned (tkA k1 k2)) w') :
  Calls Tryz.prog 45 #[.pointer (some ⟨x.s, 0, none⟩), tkA k1 k2, tkA l1 l2, tkA r1 r2] w R := by
 have HH := L_ h
 have PL := L_ (zzt ok.out pre.out)
 have PLO := L_ (xav ok.out)
 have PRO := L_ (xau ok.out)
 have IK : Hid (InT (k1, k2)) := L_ (zzr ok.out).inT
 have IL : Hid (InT (l1, l2)) := L_ (by rw [hl.out]; exact Sq.zos PLO.out.1)
 have IR : Hid (InT (r1, r2)) := L_ (by rw [hr.out]; exact Sq.zos PRO.out.1)
 have H1 := zzs ((((H.new (.cells #[.int .i64 k1, .int .i64 k2] 29)).new (.cells #[.int .i64 l1, .int .i64 l2] 29)).new (.cells #[.int .i64 r1, .int .i64 r2] 29)).new (.cells #[.int .i64 0, .int .i64 0] 29))
 have I1 := io4 H1 (Io.refl w)
 simp only [World.size_alloc, Nat.add_assoc, Nat.reduceAdd] at H1
 clear h H
 go_enter Tryz.func45, Tryz.ntmps45
 go_upto_region 1 with fail
 generalize (((w.alloc _).alloc _).alloc _).alloc _ = w1 at *
 generalize w.heap.size = bx at *
 go_cut [9, 10] from 11 to 18 (fun p q wc => ∃ b9 b10 m2 i1 i2 i3 i4 i5 i6 ct1 ht1 j1 j2 j3 j4 j5 j6 ct2 ht2, p = .pointer (some ⟨b9, 0, none⟩) ∧ q = .pointer (some ⟨b10, 0, none⟩) ∧ Hid (zw6 m m2 l r (k1, k2) ct1 ht1 ct2 ht2) ∧ Sat (pts b9 (.cells #[.int .i64 i1, .int .i64 i2, .int .i64 i3, .int .i64 i4, .int .i64 i5, .int .i64 i6, .int .i64 ct1, .int .i64 ht1] 85 (0, 0)) * (pts b10 (.cells #[.int .i64 j1, .int .i64 j2, .int .i64 j3, .int .i64 j4, .int .i64 j5, .int .i64 j6, .int .i64 ct2, .int .i64 ht2] 85 (0, 0)) * (zas x m2 * (pts (bx + 3) (.cells #[.int .i64 0, .int .i64 0] 29 (0, 0)) * (pts (bx + 2) (.cells #[.int .i64 r1, .int .i64 r2] 29 (0, 0)) * (pts (bx + 1) (.cells #[.int .i64 l1, .int .i64 l2] 29 (0, 0)) * (pts bx (.cells #[.int .i64 k1, .int .i64 k2] 29 (0, 0)) * F))))))) wc ∧ Io w wc)
 case first =>
  have Kd := H1.drew
  have Jd := I1.drew
  clear H1 I1
  refine rh Kd (fun W Kd => zaa Kd) fun hHeld => ?_
  refine tk ?_ ?_ [0, 1, 2, 4, 5, 6] ?_ hHeld ?_; rotate_left 2; exact tt
  generalize w1.drew = wd at *
  refine rd [3, 8, 9] (rn (fun K hK => ?_) ?_)
  ·go_simp
   go_at_call 78; (with_reducible refine zbm l l1 l2 k1 k2 hl IK PL PLO hx Kd ?_); intro m1 i1 i2 i3 i4 i5 i6 ct1 ht1 wpc hm1 Xpc IXpc; have PR := L_ (zgh ok.out pre.out hm1.out.1)
   have Hpc := Xpc
   have Jpc := (Jd).trans IXpc
   refine hK.out _ _ (by exact zaa Hpc) fun hHeld => ?_
   clear hK K
   try simp only [sp]
   refine rd [7, 8, 9] (rn (fun K hK => ?_) ?_)
   ·go_simp
    go_at_call 78; (with_reducible refine zbm r r1 r2 k1 k2 hr IK PR PRO hx Hpc ?_); intro m2 j1 j2 j3 j4 j5 j6 ct2 ht2 zv6 hm2 Xpcc z4g
    have z4j := Xpcc
    have xab := (Jpc).trans z4g
    refine hK.out _ _ (by exact zaa z4j) fun hHeld => ?_
    clear hK K
    try simp only [sp]
    refine rd [8, 9] (rn (fun K hK => ?_) ?_)
    ·go_simp
     have zna := z4j.new (.cells #[.int .i64 0, .int .i64 0, .int .i64 0, .int .i64 0, .int .i64 0, .int .i64 0, .int .i64 0, .int .i64 0] 85)
     have z3u := io1 zna xab
     refine hK.out _ _ (by exact zaa (zna.right)) fun hHeld => ?_
     clear hK K
     try simp only [sp]
     generalize World.alloc zv6 (.cells #[.int .i64 0, .int .i64 0, .int .i64 0, .int .i64 0, .int .i64 0, .int .i64 0, .int .i64 0, .int .i64 0] 85) = zqi at *
     generalize zv6.heap.size = zs3 at *
     refine rd [9] (rc fun K hK => ?_)
     go_simp
     have zgv := zna.new (.cells #[.int .i64 0, .int .i64 0, .int .i64 0, .int .i64 0, .int .i64 0, .int .i64 0, .int .i64 0, .int .i64 0] 85)
     have zti := io1 zgv z3u
     refine hK.out _ _ (by exact zaa (zgv.right.right)) fun hHeld => ?_
     clear hK K
     try simp only [sp]
     generalize World.alloc zqi (.cells #[.int .i64 0, .int .i64 0, .int .i64 0, .int .i64 0, .int .i64 0, .int .i64 0, .int .i64 0, .int .i64 0] 85) = z9a at *
     generalize zqi.heap.size = zl7 at *
     have zg1 := (zaj zgv)
     have FA := zby zg1
     obtain ⟨f0, f1, f2, f3, f4, f5, f6, f7⟩ := FA
     have QA := nd8 zg1
     obtain ⟨q0, q1, q2, q3, q4, q5, q6, q7⟩ := QA
     have zeq := zay (.int .i64 i1) (.int .i64 i2) (.int .i64 i3) (.int .i64 i4) (.int .i64 i5) (.int .i64 i6) (.int .i64 ct1) (.int .i64 ht1) zg1
     have FB := zby zeq.right
     obtain ⟨g0, g1, g2, g3, g4, g5, g6, g7⟩ := FB
     have QB := nd8 zeq.right
     obtain ⟨r0, r1', r2', r3, r4, r5, r6, r7⟩ := QB
     have zj4 := zaj (zay (.int .i64 j1) (.int .i64 j2) (.int .i64 j3) (.int .i64 j4) (.int .i64 j5) (.int .i64 j6) (.int .i64 ct2) (.int .i64 ht2) (zaj zeq))
     have zms := zac (b := zs3) (.int .i64 i1) (.int .i64 i2) (.int .i64 i3) (.int .i64 i4) (.int .i64 i5) (.int .i64 i6) (.int .i64 ct1) (.int .i64 ht1) (zti)
     have zmg := zac (b := zl7) (.int .i64 j1) (.int .i64 j2) (.int .i64 j3) (.int .i64 j4) (.int .i64 j5) (.int .i64 j6) (.int .i64 ct2) (.int .i64 ht2) zms
     refine rd [10] (rc fun K hK => ?_)
     go_simp
     refine hK.out _ _ (by exact zaa (zeq.right.right)) fun hHeld => ?_
     clear hK K
     try simp only [sp]
     refine rd [11] (rc fun K hK => ?_)
     go_simp
     refine hK.out _ _ (by exact zaa (zj4.right.right)) fun hHeld => ?_
     clear hK K
     try simp only [sp]
     refine wpAnyH_done (by kernel_rfl) ?_ _
     go_wp2_with fail
     go_meet
     exact ⟨_, _, _, i1, i2, i3, i4, i5, i6, ct1, ht1, j1, j2, j3, j4, j5, j6, ct2, ht2, rfl, rfl, L_ (set_mid ok.out pre.out hm1.out hm2.out), zj4, zmg⟩
    refine rc fun K hK => ?_
    go_simp
    have zm9 := z4j.new (.cells #[.int .i64 0, .int .i64 0, .int .i64 0, .int .i64 0, .int .i64 0, .int .i64 0, .int .i64 0, .int .i64 0] 85)
    have z3t := io1 zm9 xab
    refine hK.out _ _ (by exact zaa (zm9.right)) fun hHeld => ?_
    clear hK K
    try simp only [sp]
    generalize World.alloc zv6 (.cells #[.int .i64 0, .int .i64 0, .int .i64 0, .int .i64 0, .int .i64 0, .int .i64 0, .int .i64 0, .int .i64 0] 85) = zqh at *
    generalize zv6.heap.size = zsw at *
    refine rd [8] (rc fun K hK => ?_)
    go_simp
    have zgu := zm9.new (.cells #[.int .i64 0, .int .i64 0, .int .i64 0, .int .i64 0, .int .i64 0, .int .i64 0, .int .i64 0, .int .i64 0] 85)
    have zth := io1 zgu z3t
    refine hK.out _ _ (by exact zaa (zgu.right.right)) fun hHeld => ?_
    clear hK K
    try simp only [sp]
    generalize World.alloc zqh (.cells #[.int .i64 0, .int .i64 0, .int .i64 0, .int .i64 0, .int .i64 0, .int .i64 0, .int .i64 0, .int .i64 0] 85) = z88 at *
    generalize zqh.heap.size = zma at *
    have zg0 := zgu
    have FA := zby zg0
    obtain ⟨f0, f1, f2, f3, f4, f5, f6, f7⟩ := FA
    have QA := nd8 zg0
    obtain ⟨q0, q1, q2, q3, q4, q5, q6, q7⟩ := QA
    have zep := zay (.int .i64 i1) (.int .i64 i2) (.int .i64 i3) (.int .i64 i4) (.int .i64 i5) (.int .i64 i6) (.int .i64 ct1) (.int .i64 ht1) zg0
    have FB := zby zep.right
    obtain ⟨g0, g1, g2, g3, g4, g5, g6, g7⟩ := FB
    have QB := nd8 zep.right
    obtain ⟨r0, r1', r2', r3, r4, r5, r6, r7⟩ := QB
    have zj3 := zaj (zay (.int .i64 j1) (.int .i64 j2) (.int .i64 j3) (.int .i64 j4) (.int .i64 j5) (.int .i64 j6) (.int .i64 ct2) (.int .i64 ht2) (zaj zep))
    have zmr := zac (b := zma) (.int .i64 i1) (.int .i64 i2) (.int .i64 i3) (.int .i64 i4) (.int .i64 i5) (.int .i64 i6) (.int .i64 ct1) (.int .i64 ht1) (zth)
    have zmf := zac (b := zsw) (.int .i64 j1) (.int .i64 j2) (.int .i64 j3) (.int .i64 j4) (.int .i64 j5) (.int .i64 j6) (.int .i64 ct2) (.int .i64 ht2) zmr
    refine rd [10] (rc fun K hK => ?_)
    go_simp
    refine hK.out _ _ (by exact zaa (zep.right.right)) fun hHeld => ?_
    clear hK K
    try simp only [sp]
    refine rd [11] (rc fun K hK => ?_)
    go_simp
    refine hK.out _ _ (by exact zaa (zj3.right.right)) fun hHeld => ?_
    clear hK K
    try simp only [sp]
    refine wpAnyH_done (by kernel_rfl) ?_ _
    go_wp2_with fail
    go_meet
    exact ⟨_, _, _, i1, i2, i3, i4, i5, i6, ct1, ht1, j1, j2, j3, j4, j5, j6, ct2, ht2, rfl, rfl, L_ (set_mid ok.out pre.out hm1.out hm2.out), zj3, zmf⟩
   refine rn (fun K hK => ?_) ?_
   ·go_simp
    have zw9 := Hpc.new (.cells #[.int .i64 0, .int .i64 0, .int .i64 0, .int .i64 0, .int .i64 0, .int .i64 0, .int .i64 0, .int .i64 0] 85)
    have xad := io1 zw9 Jpc
    refine hK.out _ _ (by exact zaa (zw9.right)) fun hHeld => ?_
    clear hK K
    try simp only [sp]
    generalize World.alloc wpc (.cells #[.int .i64 0, .int .i64 0, .int .i64 0, .int .i64 0, .int .i64 0, .int .i64 0, .int .i64 0, .int .i64 0] 85) = z9g at *
    generalize wpc.heap.size = zs5 at *
    refine rd [7, 9] (rn (fun K hK => ?_) ?_)
    ·go_simp
     go_at_call 78; (with_reducible refine zbm r r1 r2 k1 k2 hr IK PR PRO hx (zaj zw9) ?_); intro m2 j1 j2 j3 j4 j5 j6 ct2 ht2 zqk hm2 z3o ztu
     have zt0 := (zaj z3o)
     have z3x := (xad).trans ztu
     refine hK.out _ _ (by exact zaa (zt0.right)) fun hHeld => ?_
     clear hK K
     try simp only [sp]
     refine rd [9] (rc fun K hK => ?_)
     go_simp
     have zgx := zt0.new (.cells #[.int .i64 0, .int .i64 0, .int .i64 0, .int .i64 0, .int .i64 0, .int .i64 0, .int .i64 0, .int .i64 0] 85)
     have ztl := io1 zgx z3x
     refine hK.out _ _ (by exact zaa (zgx.right.right)) fun hHeld => ?_
     clear hK K
     try simp only [sp]
     generalize World.alloc zqk (.cells #[.int .i64 0, .int .i64 0, .int .i64 0, .int .i64 0, .int .i64 0, .int .i64 0, .int .i64 0, .int .i64 0] 85) = z9e at *
     generalize zqk.heap.size = zl8 at *
     have zg4 := (zaj zgx)
     have FA := zby zg4
     obtain ⟨f0, f1, f2, f3, f4, f5, f6, f7⟩ := FA
     have QA := nd8 zg4
     obtain ⟨q0, q1, q2, q3, q4, q5, q6, q7⟩ := QA
     have zet := zay (.int .i64 i1) (.int .i64 i2) (.int .i64 i3) (.int .i64 i4) (.int .i64 i5) (.int .i64 i6) (.int .i64 ct1) (.int .i64 ht1) zg4
     have FB := zby zet.right
     obtain ⟨g0, g1, g2, g3, g4, g5, g6, g7⟩ := FB
     have QB := nd8 zet.right
     obtain ⟨r0, r1', r2', r3, r4, r5, r6, r7⟩ := QB
     have zj7 := zaj (zay (.int .i64 j1) (.int .i64 j2) (.int .i64 j3) (.int .i64 j4) (.int .i64 j5) (.int .i64 j6) (.int .i64 ct2) (.int .i64 ht2) (zaj zet))
     have zmv := zac (b := zs5) (.int .i64 i1) (.int .i64 i2) (.int .i64 i3) (.int .i64 i4) (.int .i64 i5) (.int .i64 i6) (.int .i64 ct1) (.int .i64 ht1) (ztl)
     have zmj := zac (b := zl8) (.int .i64 j1) (.int .i64 j2) (.int .i64 j3) (.int .i64 j4) (.int .i64 j5) (.int .i64 j6) (.int .i64 ct2) (.int .i64 ht2) zmv
     refine rd [10] (rc fun K hK => ?_)
     go_simp
     refine hK.out _ _ (by exact zaa (zet.right.right)) fun hHeld => ?_
     clear hK K
     try simp only [sp]
     refine rd [11] (rc fun K hK => ?_)
     go_simp
     refine hK.out _ _ (by exact zaa (zj7.right.right)) fun hHeld => ?_
     clear hK K
     try simp only [sp]
     refine wpAnyH_done (by kernel_rfl) ?_ _
     go_wp2_with fail
     go_meet
     exact ⟨_, _, _, i1, i2, i3, i4, i5, i6, ct1, ht1, j1, j2, j3, j4, j5, j6, ct2, ht2, rfl, rfl, L_ (set_mid ok.out pre.out hm1.out hm2.out), zj7, zmj⟩
    refine rc fun K hK => ?_
    go_simp
    have znc := zw9.new (.cells #[.int .i64 0, .int .i64 0, .int .i64 0, .int .i64 0, .int .i64 0, .int .i64 0, .int .i64 0, .int .i64 0] 85)
    have z3y := io1 znc xad
    refine hK.out _ _ (by exact zaa (znc.right.right)) fun hHeld => ?_
    clear hK K
    try simp only [sp]
    generalize World.alloc z9g (.cells #[.int .i64 0, .int .i64 0, .int .i64 0, .int .i64 0, .int .i64 0, .int .i64 0, .int .i64 0, .int .i64 0] 85) = wpcab at *
    generalize z9g.heap.size = zsy at *
    refine rd [7] (rc fun K hK => ?_)
    go_simp
    go_at_call 78; (with_reducible refine zbm r r1 r2 k1 k2 hr IK PR PRO hx (fr2 znc) ?_); intro m2 j1 j2 j3 j4 j5 j6 ct2 ht2 z9f hm2 zs9 zm4
    have zjy := (bk2 zs9)
    have ztm := (z3y).trans zm4
    refine hK.out _ _ (by exact zaa (zjy.right.right)) fun hHeld => ?_
    clear hK K
    try simp only [sp]
    have zg5 := (zaj zjy)
    have FA := zby zg5
    obtain ⟨f0, f1, f2, f3, f4, f5, f6, f7⟩ := FA
    have QA := nd8 zg5
    obtain ⟨q0, q1, q2, q3, q4, q5, q6, q7⟩ := QA
    have zeu := zay (.int .i64 i1) (.int .i64 i2) (.int .i64 i3) (.int .i64 i4) (.int .i64 i5) (.int .i64 i6) (.int .i64 ct1) (.int .i64 ht1) zg5
    have FB := zby zeu.right
    obtain ⟨g0, g1, g2, g3, g4, g5, g6, g7⟩ := FB
    have QB := nd8 zeu.right
    obtain ⟨r0, r1', r2', r3, r4, r5, r6, r7⟩ := QB
    have zj8 := zaj (zay (.int .i64 j1) (.int .i64 j2) (.int .i64 j3) (.int .i64 j4) (.int .i64 j5) (.int .i64 j6) (.int .i64 ct2) (.int .i64 ht2) (zaj zeu))
    have zmw := zac (b := zs5) (.int .i64 i1) (.int .i64 i2) (.int .i64 i3) (.int .i64 i4) (.int .i64 i5) (.int .i64 i6) (.int .i64 ct1) (.int .i64 ht1) (ztm)
    have zmk := zac (b := zsy) (.int .i64 j1) (.int .i64 j2) (.int .i64 j3) (.int .i64 j4) (.int .i64 j5) (.int .i64 j6) (.int .i64 ct2) (.int .i64 ht2) zmw
    refine rd [10] (rc fun K hK => ?_)
    go_simp
    refine hK.out _ _ (by exact zaa (zeu.right.right)) fun hHeld => ?_
    clear hK K
    try simp only [sp]
    refine rd [11] (rc fun K hK => ?_)
    go_simp
    refine hK.out _ _ (by exact zaa (zj8.right.right)) fun hHeld => ?_
    clear hK K
    try simp only [sp]
    refine wpAnyH_done (by kernel_rfl) ?_ _
    go_wp2_with fail
    go_meet
    exact ⟨_, _, _, i1, i2, i3, i4, i5, i6, ct1, ht1, j1, j2, j3, j4, j5, j6, ct2, ht2, rfl, rfl, L_ (set_mid ok.out pre.out hm1.out hm2.out), zj8, zmk⟩
   refine rc fun K hK => ?_
   go_simp
   have zw8 := Hpc.new (.cells #[.int .i64 0, .int .i64 0, .int .i64 0, .int .i64 0, .int .i64 0, .int .i64 0, .int .i64 0, .int .i64 0] 85)
   have xac := io1 zw8 Jpc
   refine hK.out _ _ (by exact zaa (zw8.right)) fun hHeld => ?_
   clear hK K
   try simp only [sp]
   generalize World.alloc wpc (.cells #[.int .i64 0, .int .i64 0, .int .i64 0, .int .i64 0, .int .i64 0, .int .i64 0, .int .i64 0, .int .i64 0] 85) = z9d at *
   generalize wpc.heap.size = zsx at *
   refine rd [7, 8] (rn (fun K hK => ?_) ?_)
   ·go_simp
    go_at_call 78; (with_reducible refine zbm r r1 r2 k1 k2 hr IK PR PRO hx (zaj zw8) ?_); intro m2 j1 j2 j3 j4 j5 j6 ct2 ht2 zqj hm2 z3n ztt
    have ztz := (zaj z3n)
    have z3v := (xac).trans ztt
    refine hK.out _ _ (by exact zaa (ztz.right)) fun hHeld => ?_
    clear hK K
    try simp only [sp]
    refine rd [8] (rc fun K hK => ?_)
    go_simp
    have zgw := ztz.new (.cells #[.int .i64 0, .int .i64 0, .int .i64 0, .int .i64 0, .int .i64 0, .int .i64 0, .int .i64 0, .int .i64 0] 85)
    have ztj := io1 zgw z3v
    refine hK.out _ _ (by exact zaa (zgw.right.right)) fun hHeld => ?_
    clear hK K
    try simp only [sp]
    generalize World.alloc zqj (.cells #[.int .i64 0, .int .i64 0, .int .i64 0, .int .i64 0, .int .i64 0, .int .i64 0, .int .i64 0, .int .i64 0] 85) = z9b at *
    generalize zqj.heap.size = zmb at *
    have zg2 := zgw
    have FA := zby zg2
    obtain ⟨f0, f1, f2, f3, f4, f5, f6, f7⟩ := FA
    have QA := nd8 zg2
    obtain ⟨q0, q1, q2, q3, q4, q5, q6, q7⟩ := QA
    have zer := zay (.int .i64 i1) (.int .i64 i2) (.int .i64 i3) (.int .i64 i4) (.int .i64 i5) (.int .i64 i6) (.int .i64 ct1) (.int .i64 ht1) zg2
    have FB := zby zer.right
    obtain ⟨g0, g1, g2, g3, g4, g5, g6, g7⟩ := FB
    have QB := nd8 zer.right
    obtain ⟨r0, r1', r2', r3, r4, r5, r6, r7⟩ := QB
    have zj5 := zaj (zay (.int .i64 j1) (.int .i64 j2) (.int .i64 j3) (.int .i64 j4) (.int .i64 j5) (.int .i64 j6) (.int .i64 ct2) (.int .i64 ht2) (zaj zer))
    have zmt := zac (b := zmb) (.int .i64 i1) (.int .i64 i2) (.int .i64 i3) (.int .i64 i4) (.int .i64 i5) (.int .i64 i6) (.int .i64 ct1) (.int .i64 ht1) (ztj)
    have zmh := zac (b := zsx) (.int .i64 j1) (.int .i64 j2) (.int .i64 j3) (.int .i64 j4) (.int .i64 j5) (.int .i64 j6) (.int .i64 ct2) (.int .i64 ht2) zmt
    refine rd [10] (rc fun K hK => ?_)
    go_simp
    refine hK.out _ _ (by exact zaa (zer.right.right)) fun hHeld => ?_
    clear hK K
    try simp only [sp]
    refine rd [11] (rc fun K hK => ?_)
    go_simp
    refine hK.out _ _ (by exact zaa (zj5.right.right)) fun hHeld => ?_
    clear hK K
    try simp only [sp]
    refine wpAnyH_done (by kernel_rfl) ?_ _
    go_wp2_with fail
    go_meet
    exact ⟨_, _, _, i1, i2, i3, i4, i5, i6, ct1, ht1, j1, j2, j3, j4, j5, j6, ct2, ht2, rfl, rfl, L_ (set_mid ok.out pre.out hm1.out hm2.out), zj5, zmh⟩
   refine rc fun K hK => ?_
   go_simp
   have znb := zw8.new (.cells #[.int .i64 0, .int .i64 0, .int .i64 0, .int .i64 0, .int .i64 0, .int .i64 0, .int .i64 0, .int .i64 0] 85)
   have z3w := io1 znb xac
   refine hK.out _ _ (by exact zaa (znb.right.right)) fun hHeld => ?_
   clear hK K
   try simp only [sp]
   generalize World.alloc z9d (.cells #[.int .i64 0, .int .i64 0, .int .i64 0, .int .i64 0, .int .i64 0, .int .i64 0, .int .i64 0, .int .i64 0] 85) = wpcba at *
   generalize z9d.heap.size = zs4 at *
   refine rd [7] (rc fun K hK => ?_)
   go_simp
   go_at_call 78; (with_reducible refine zbm r r1 r2 k1 k2 hr IK PR PRO hx (fr2 znb) ?_); intro m2 j1 j2 j3 j4 j5 j6 ct2 ht2 z9c hm2 zs8 zm3
   have zjx := (bk2 zs8)
   have ztk := (z3w).trans zm3
   refine hK.out _ _ (by exact zaa (zjx.right.right)) fun hHeld => ?_
   clear hK K
   try simp only [sp]
   have zg3 := zjx
   have FA := zby zg3
   obtain ⟨f0, f1, f2, f3, f4, f5, f6, f7⟩ := FA
   have QA := nd8 zg3
   obtain ⟨q0, q1, q2, q3, q4, q5, q6, q7⟩ := QA
   have zes := zay (.int .i64 i1) (.int .i64 i2) (.int .i64 i3) (.int .i64 i4) (.int .i64 i5) (.int .i64 i6) (.int .i64 ct1) (.int .i64 ht1) zg3
   have FB := zby zes.right
   obtain ⟨g0, g1, g2, g3, g4, g5, g6, g7⟩ := FB
   have QB := nd8 zes.right
   obtain ⟨r0, r1', r2', r3, r4, r5, r6, r7⟩ := QB
   have zj6 := zaj (zay (.int .i64 j1) (.int .i64 j2) (.int .i64 j3) (.int .i64 j4) (.int .i64 j5) (.int .i64 j6) (.int .i64 ct2) (.int .i64 ht2) (zaj zes))
   have zmu := zac (b := zs4) (.int .i64 i1) (.int .i64 i2) (.int .i64 i3) (.int .i64 i4) (.int .i64 i5) (.int .i64 i6) (.int .i64 ct1) (.int .i64 ht1) (ztk)
   have zmi := zac (b := zsx) (.int .i64 j1) (.int .i64 j2) (.int .i64 j3) (.int .i64 j4) (.int .i64 j5) (.int .i64 j6) (.int .i64 ct2) (.int .i64 ht2) zmu
   refine rd [10] (rc fun K hK => ?_)
   go_simp
   refine hK.out _ _ (by exact zaa (zes.right.right)) fun hHeld => ?_
   clear hK K
   try simp only [sp]
   refine rd [11] (rc fun K hK => ?_)
   go_simp
   refine hK.out _ _ (by exact zaa (zj6.right.right)) fun hHeld => ?_
   clear hK K
   try simp only [sp]
   refine wpAnyH_done (by kernel_rfl) ?_ _
   go_wp2_with fail
   go_meet
   exact ⟨_, _, _, i1, i2, i3, i4, i5, i6, ct1, ht1, j1, j2, j3, j4, j5, j6, ct2, ht2, rfl, rfl, L_ (set_mid ok.out pre.out hm1.out hm2.out), zj6, zmi⟩
  refine rn (fun K hK => ?_) ?_
  ·go_simp
   have Hpa := Kd.new (.cells #[.int .i64 0, .int .i64 0, .int .i64 0, .int .i64 0, .int .i64 0, .int .i64 0, .int .i64 0, .int .i64 0] 85)
   have Jpa := io1 Hpa Jd
   refine hK.out _ _ (by exact zaa (Hpa.right)) fun hHeld => ?_
   clear hK K
   try simp only [sp]
   generalize World.alloc wd (.cells #[.int .i64 0, .int .i64 0, .int .i64 0, .int .i64 0, .int .i64 0, .int .i64 0, .int .i64 0, .int .i64 0] 85) = wpa at *
   generalize wd.heap.size = z3d at *
   refine rd [3, 9] (rn (fun K hK => ?_) ?_)
   ·go_simp
    go_at_call 78; (with_reducible refine zbm l l1 l2 k1 k2 hl IK PL PLO hx (zaj Hpa) ?_); intro m1 i1 i2 i3 i4 i5 i6 ct1 ht1 z9n hm1 Xpac z4i; have PR := L_ (zgh ok.out pre.out hm1.out.1)
    have z4m := (zaj Xpac)
    have xaf := (Jpa).trans z4i
    refine hK.out _ _ (by exact zaa (z4m.right)) fun hHeld => ?_
    clear hK K
    try simp only [sp]
    refine rd [7, 9] (rn (fun K hK => ?_) ?_)
    ·go_simp
     go_at_call 78; (with_reducible refine zbm r r1 r2 k1 k2 hr IK PR PRO hx (zaj z4m) ?_); intro m2 j1 j2 j3 j4 j5 j6 ct2 ht2 zqm hm2 z3r ztx
     have zt3 := (zaj z3r)
     have z4c := (xaf).trans ztx
     refine hK.out _ _ (by exact zaa (zt3.right)) fun hHeld => ?_
     clear hK K
     try simp only [sp]
     refine rd [9] (rc fun K hK => ?_)
     go_simp
     have zgz := zt3.new (.cells #[.int .i64 0, .int .i64 0, .int .i64 0, .int .i64 0, .int .i64 0, .int .i64 0, .int .i64 0, .int .i64 0] 85)
     have ztq := io1 zgz z4c
     refine hK.out _ _ (by exact zaa (zgz.right.right)) fun hHeld => ?_
     clear hK K
     try simp only [sp]
     generalize World.alloc zqm (.cells #[.int .i64 0, .int .i64 0, .int .i64 0, .int .i64 0, .int .i64 0, .int .i64 0, .int .i64 0, .int .i64 0] 85) = z9l at *
     generalize zqm.heap.size = zl9 at *
     have zg9 := (zaj zgz)
     have FA := zby zg9
     obtain ⟨f0, f1, f2, f3, f4, f5, f6, f7⟩ := FA
     have QA := nd8 zg9
     obtain ⟨q0, q1, q2, q3, q4, q5, q6, q7⟩ := QA
     have zey := zay (.int .i64 i1) (.int .i64 i2) (.int .i64 i3) (.int .i64 i4) (.int .i64 i5) (.int .i64 i6) (.int .i64 ct1) (.int .i64 ht1) zg9
     have FB := zby zey.right
     obtain ⟨g0, g1, g2, g3, g4, g5, g6, g7⟩ := FB
     have QB := nd8 zey.right
     obtain ⟨r0, r1', r2', r3, r4, r5, r6, r7⟩ := QB
     have zkc := zaj (zay (.int .i64 j1) (.int .i64 j2) (.int .i64 j3) (.int .i64 j4) (.int .i64 j5) (.int .i64 j6) (.int .i64 ct2) (.int .i64 ht2) (zaj zey))
     have zm0 := zac (b := z3d) (.int .i64 i1) (.int .i64 i2) (.int .i64 i3) (.int .i64 i4) (.int .i64 i5) (.int .i64 i6) (.int .i64 ct1) (.int .i64 ht1) (ztq)
     have zmo := zac (b := zl9) (.int .i64 j1) (.int .i64 j2) (.int .i64 j3) (.int .i64 j4) (.int .i64 j5) (.int .i64 j6) (.int .i64 ct2) (.int .i64 ht2) zm0
     refine rd [10] (rc fun K hK => ?_)
     go_simp
     refine hK.out _ _ (by exact zaa (zey.right.right)) fun hHeld => ?_
     clear hK K
     try simp only [sp]
     refine rd [11] (rc fun K hK => ?_)
     go_simp
     refine hK.out _ _ (by exact zaa (zkc.right.right)) fun hHeld => ?_
     clear hK K
     try simp only [sp]
     refine wpAnyH_done (by kernel_rfl) ?_ _
     go_wp2_with fail
     go_meet
     exact ⟨_, _, _, i1, i2, i3, i4, i5, i6, ct1, ht1, j1, j2, j3, j4, j5, j6, ct2, ht2, rfl, rfl, L_ (set_mid ok.out pre.out hm1.out hm2.out), zkc, zmo⟩
    refine rc fun K hK => ?_
    go_simp
    have zne := z4m.new (.cells #[.int .i64 0, .int .i64 0, .int .i64 0, .int .i64 0, .int .i64 0, .int .i64 0, .int .i64 0, .int .i64 0] 85)
    have z4d := io1 zne xaf
    refine hK.out _ _ (by exact zaa (zne.right.right)) fun hHeld => ?_
    clear hK K
    try simp only [sp]
    generalize World.alloc z9n (.cells #[.int .i64 0, .int .i64 0, .int .i64 0, .int .i64 0, .int .i64 0, .int .i64 0, .int .i64 0, .int .i64 0] 85) = wpacb at *
    generalize z9n.heap.size = zsz at *
    refine rd [7] (rc fun K hK => ?_)
    go_simp
    go_at_call 78; (with_reducible refine zbm r r1 r2 k1 k2 hr IK PR PRO hx (fr2 zne) ?_); intro m2 j1 j2 j3 j4 j5 j6 ct2 ht2 z9m hm2 ztc zm7
    have zj1 := (bk2 ztc)
    have ztr := (z4d).trans zm7
    refine hK.out _ _ (by exact zaa (zj1.right.right)) fun hHeld => ?_
    clear hK K
    try simp only [sp]
    have zha := (zaj zj1)
    have FA := zby zha
    obtain ⟨f0, f1, f2, f3, f4, f5, f6, f7⟩ := FA
    have QA := nd8 zha
    obtain ⟨q0, q1, q2, q3, q4, q5, q6, q7⟩ := QA
    have zez := zay (.int .i64 i1) (.int .i64 i2) (.int .i64 i3) (.int .i64 i4) (.int .i64 i5) (.int .i64 i6) (.int .i64 ct1) (.int .i64 ht1) zha
    have FB := zby zez.right
    obtain ⟨g0, g1, g2, g3, g4, g5, g6, g7⟩ := FB
    have QB := nd8 zez.right
    obtain ⟨r0, r1', r2', r3, r4, r5, r6, r7⟩ := QB
    have zkd := zaj (zay (.int .i64 j1) (.int .i64 j2) (.int .i64 j3) (.int .i64 j4) (.int .i64 j5) (.int .i64 j6) (.int .i64 ct2) (.int .i64 ht2) (zaj zez))
    have zm1 := zac (b := z3d) (.int .i64 i1) (.int .i64 i2) (.int .i64 i3) (.int .i64 i4) (.int .i64 i5) (.int .i64 i6) (.int .i64 ct1) (.int .i64 ht1) (ztr)
    have zmp := zac (b := zsz) (.int .i64 j1) (.int .i64 j2) (.int .i64 j3) (.int .i64 j4) (.int .i64 j5) (.int .i64 j6) (.int .i64 ct2) (.int .i64 ht2) zm1
    refine rd [10] (rc fun K hK => ?_)
    go_simp
    refine hK.out _ _ (by exact zaa (zez.right.right)) fun hHeld => ?_
    clear hK K
    try simp only [sp]
    refine rd [11] (rc fun K hK => ?_)
    go_simp
    refine hK.out _ _ (by exact zaa (zkd.right.right)) fun hHeld => ?_
    clear hK K
    try simp only [sp]
    refine wpAnyH_done (by kernel_rfl) ?_ _
    go_wp2_with fail
    go_meet
    exact ⟨_, _, _, i1, i2, i3, i4, i5, i6, ct1, ht1, j1, j2, j3, j4, j5, j6, ct2, ht2, rfl, rfl, L_ (set_mid ok.out pre.out hm1.out hm2.out), zkd, zmp⟩
   refine rc fun K hK => ?_
   go_simp
   have z4n := Hpa.new (.cells #[.int .i64 0, .int .i64 0, .int .i64 0, .int .i64 0, .int .i64 0, .int .i64 0, .int .i64 0, .int .i64 0] 85)
   have Jpab := io1 z4n Jpa
   refine hK.out _ _ (by exact zaa (z4n.right.right)) fun hHeld => ?_
   clear hK K
   try simp only [sp]
   generalize World.alloc wpa (.cells #[.int .i64 0, .int .i64 0, .int .i64 0, .int .i64 0, .int .i64 0, .int .i64 0, .int .i64 0, .int .i64 0] 85) = wpab at *
   generalize wpa.heap.size = z3b at *
   refine rd [3] (rc fun K hK => ?_)
   go_simp
   go_at_call 78; (with_reducible refine zbm l l1 l2 k1 k2 hl IK PL PLO hx (fr2 z4n) ?_); intro m1 i1 i2 i3 i4 i5 i6 ct1 ht1 wpabc hm1 z3s zty; have PR := L_ (zgh ok.out pre.out hm1.out.1)
   have zt4 := (bk2 z3s)
   have z4e := (Jpab).trans zty
   refine hK.out _ _ (by exact zaa (zt4.right.right)) fun hHeld => ?_
   clear hK K
   try simp only [sp]
   refine rd [7] (rc fun K hK => ?_)
   go_simp
   go_at_call 78; (with_reducible refine zbm r r1 r2 k1 k2 hr IK PR PRO hx (fr2 zt4) ?_); intro m2 j1 j2 j3 j4 j5 j6 ct2 ht2 z9o hm2 ztd zm8
   have zj2 := (bk2 ztd)
   have zts := (z4e).trans zm8
   refine hK.out _ _ (by exact zaa (zj2.right.right)) fun hHeld => ?_
   clear hK K
   try simp only [sp]
   have zhb := (zaj zj2)
   have FA := zby zhb
   obtain ⟨f0, f1, f2, f3, f4, f5, f6, f7⟩ := FA
   have QA := nd8 zhb
   obtain ⟨q0, q1, q2, q3, q4, q5, q6, q7⟩ := QA
   have ze0 := zay (.int .i64 i1) (.int .i64 i2) (.int .i64 i3) (.int .i64 i4) (.int .i64 i5) (.int .i64 i6) (.int .i64 ct1) (.int .i64 ht1) zhb
   have FB := zby ze0.right
   obtain ⟨g0, g1, g2, g3, g4, g5, g6, g7⟩ := FB
   have QB := nd8 ze0.right
   obtain ⟨r0, r1', r2', r3, r4, r5, r6, r7⟩ := QB
   have zke := zaj (zay (.int .i64 j1) (.int .i64 j2) (.int .i64 j3) (.int .i64 j4) (.int .i64 j5) (.int .i64 j6) (.int .i64 ct2) (.int .i64 ht2) (zaj ze0))
   have zm2 := zac (b := z3d) (.int .i64 i1) (.int .i64 i2) (.int .i64 i3) (.int .i64 i4) (.int .i64 i5) (.int .i64 i6) (.int .i64 ct1) (.int .i64 ht1) (zts)
   have zmq := zac (b := z3b) (.int .i64 j1) (.int .i64 j2) (.int .i64 j3) (.int .i64 j4) (.int .i64 j5) (.int .i64 j6) (.int .i64 ct2) (.int .i64 ht2) zm2
   refine rd [10] (rc fun K hK => ?_)
   go_simp
   refine hK.out _ _ (by exact zaa (ze0.right.right)) fun hHeld => ?_
   clear hK K
   try simp only [sp]
   refine rd [11] (rc fun K hK => ?_)
   go_simp
   refine hK.out _ _ (by exact zaa (zke.right.right)) fun hHeld => ?_
   clear hK K
   try simp only [sp]
   refine wpAnyH_done (by kernel_rfl) ?_ _
   go_wp2_with fail
   go_meet
   exact ⟨_, _, _, i1, i2, i3, i4, i5, i6, ct1, ht1, j1, j2, j3, j4, j5, j6, ct2, ht2, rfl, rfl, L_ (set_mid ok.out pre.out hm1.out hm2.out), zke, zmq⟩
  refine rc fun K hK => ?_
  go_simp
  have Hpb := Kd.new (.cells #[.int .i64 0, .int .i64 0, .int .i64 0, .int .i64 0, .int .i64 0, .int .i64 0, .int .i64 0, .int .i64 0] 85)
  have Jpb := io1 Hpb Jd
  refine hK.out _ _ (by exact zaa (Hpb.right)) fun hHeld => ?_
  clear hK K
  try simp only [sp]
  generalize World.alloc wd (.cells #[.int .i64 0, .int .i64 0, .int .i64 0, .int .i64 0, .int .i64 0, .int .i64 0, .int .i64 0, .int .i64 0] 85) = wpb at *
  generalize wd.heap.size = z3a at *
  refine rd [3, 8] (rn (fun K hK => ?_) ?_)
  ·go_simp
   go_at_call 78; (with_reducible refine zbm l l1 l2 k1 k2 hl IK PL PLO hx (zaj Hpb) ?_); intro m1 i1 i2 i3 i4 i5 i6 ct1 ht1 z9j hm1 Xpbc z4h; have PR := L_ (zgh ok.out pre.out hm1.out.1)
   have z4k := (zaj Xpbc)
   have xae := (Jpb).trans z4h
   refine hK.out _ _ (by exact zaa (z4k.right)) fun hHeld => ?_
   clear hK K
   try simp only [sp]
   refine rd [7, 8] (rn (fun K hK => ?_) ?_)
   ·go_simp
    go_at_call 78; (with_reducible refine zbm r r1 r2 k1 k2 hr IK PR PRO hx (zaj z4k) ?_); intro m2 j1 j2 j3 j4 j5 j6 ct2 ht2 zql hm2 z3p ztv
    have zt1 := (zaj z3p)
    have z3z := (xae).trans ztv
    refine hK.out _ _ (by exact zaa (zt1.right)) fun hHeld => ?_
    clear hK K
    try simp only [sp]
    refine rd [8] (rc fun K hK => ?_)
    go_simp
    have zgy := zt1.new (.cells #[.int .i64 0, .int .i64 0, .int .i64 0, .int .i64 0, .int .i64 0, .int .i64 0, .int .i64 0, .int .i64 0] 85)
    have ztn := io1 zgy z3z
    refine hK.out _ _ (by exact zaa (zgy.right.right)) fun hHeld => ?_
    clear hK K
    try simp only [sp]
    generalize World.alloc zql (.cells #[.int .i64 0, .int .i64 0, .int .i64 0, .int .i64 0, .int .i64 0, .int .i64 0, .int .i64 0, .int .i64 0] 85) = z9h at *
    generalize zql.heap.size = zmc at *
    have zg6 := zgy
    have FA := zby zg6
    obtain ⟨f0, f1, f2, f3, f4, f5, f6, f7⟩ := FA
    have QA := nd8 zg6
    obtain ⟨q0, q1, q2, q3, q4, q5, q6, q7⟩ := QA
    have zev := zay (.int .i64 i1) (.int .i64 i2) (.int .i64 i3) (.int .i64 i4) (.int .i64 i5) (.int .i64 i6) (.int .i64 ct1) (.int .i64 ht1) zg6
    have FB := zby zev.right
    obtain ⟨g0, g1, g2, g3, g4, g5, g6, g7⟩ := FB
    have QB := nd8 zev.right
    obtain ⟨r0, r1', r2', r3, r4, r5, r6, r7⟩ := QB
    have zj9 := zaj (zay (.int .i64 j1) (.int .i64 j2) (.int .i64 j3) (.int .i64 j4) (.int .i64 j5) (.int .i64 j6) (.int .i64 ct2) (.int .i64 ht2) (zaj zev))
    have zmx := zac (b := zmc) (.int .i64 i1) (.int .i64 i2) (.int .i64 i3) (.int .i64 i4) (.int .i64 i5) (.int .i64 i6) (.int .i64 ct1) (.int .i64 ht1) (ztn)
    have zml := zac (b := z3a) (.int .i64 j1) (.int .i64 j2) (.int .i64 j3) (.int .i64 j4) (.int .i64 j5) (.int .i64 j6) (.int .i64 ct2) (.int .i64 ht2) zmx
    refine rd [10] (rc fun K hK => ?_)
    go_simp
    refine hK.out _ _ (by exact zaa (zev.right.right)) fun hHeld => ?_
    clear hK K
    try simp only [sp]
    refine rd [11] (rc fun K hK => ?_)
    go_simp
    refine hK.out _ _ (by exact zaa (zj9.right.right)) fun hHeld => ?_
    clear hK K
    try simp only [sp]
    refine wpAnyH_done (by kernel_rfl) ?_ _
    go_wp2_with fail
    go_meet
    exact ⟨_, _, _, i1, i2, i3, i4, i5, i6, ct1, ht1, j1, j2, j3, j4, j5, j6, ct2, ht2, rfl, rfl, L_ (set_mid ok.out pre.out hm1.out hm2.out), zj9, zml⟩
   refine rc fun K hK => ?_
   go_simp
   have znd := z4k.new (.cells #[.int .i64 0, .int .i64 0, .int .i64 0, .int .i64 0, .int .i64 0, .int .i64 0, .int .i64 0, .int .i64 0] 85)
   have z4a := io1 znd xae
   refine hK.out _ _ (by exact zaa (znd.right.right)) fun hHeld => ?_
   clear hK K
   try simp only [sp]
   generalize World.alloc z9j (.cells #[.int .i64 0, .int .i64 0, .int .i64 0, .int .i64 0, .int .i64 0, .int .i64 0, .int .i64 0, .int .i64 0] 85) = wpbca at *
   generalize z9j.heap.size = zs6 at *
   refine rd [7] (rc fun K hK => ?_)
   go_simp
   go_at_call 78; (with_reducible refine zbm r r1 r2 k1 k2 hr IK PR PRO hx (fr2 znd) ?_); intro m2 j1 j2 j3 j4 j5 j6 ct2 ht2 z9i hm2 zta zm5
   have zjz := (bk2 zta)
   have zto := (z4a).trans zm5
   refine hK.out _ _ (by exact zaa (zjz.right.right)) fun hHeld => ?_
   clear hK K
   try simp only [sp]
   have zg7 := zjz
   have FA := zby zg7
   obtain ⟨f0, f1, f2, f3, f4, f5, f6, f7⟩ := FA
   have QA := nd8 zg7
   obtain ⟨q0, q1, q2, q3, q4, q5, q6, q7⟩ := QA
   have zew := zay (.int .i64 i1) (.int .i64 i2) (.int .i64 i3) (.int .i64 i4) (.int .i64 i5) (.int .i64 i6) (.int .i64 ct1) (.int .i64 ht1) zg7
   have FB := zby zew.right
   obtain ⟨g0, g1, g2, g3, g4, g5, g6, g7⟩ := FB
   have QB := nd8 zew.right
   obtain ⟨r0, r1', r2', r3, r4, r5, r6, r7⟩ := QB
   have zka := zaj (zay (.int .i64 j1) (.int .i64 j2) (.int .i64 j3) (.int .i64 j4) (.int .i64 j5) (.int .i64 j6) (.int .i64 ct2) (.int .i64 ht2) (zaj zew))
   have zmy := zac (b := zs6) (.int .i64 i1) (.int .i64 i2) (.int .i64 i3) (.int .i64 i4) (.int .i64 i5) (.int .i64 i6) (.int .i64 ct1) (.int .i64 ht1) (zto)
   have zmm := zac (b := z3a) (.int .i64 j1) (.int .i64 j2) (.int .i64 j3) (.int .i64 j4) (.int .i64 j5) (.int .i64 j6) (.int .i64 ct2) (.int .i64 ht2) zmy
   refine rd [10] (rc fun K hK => ?_)
   go_simp
   refine hK.out _ _ (by exact zaa (zew.right.right)) fun hHeld => ?_
   clear hK K
   try simp only [sp]
   refine rd [11] (rc fun K hK => ?_)
   go_simp
   refine hK.out _ _ (by exact zaa (zka.right.right)) fun hHeld => ?_
   clear hK K
   try simp only [sp]
   refine wpAnyH_done (by kernel_rfl) ?_ _
   go_wp2_with fail
   go_meet
   exact ⟨_, _, _, i1, i2, i3, i4, i5, i6, ct1, ht1, j1, j2, j3, j4, j5, j6, ct2, ht2, rfl, rfl, L_ (set_mid ok.out pre.out hm1.out hm2.out), zka, zmm⟩
  refine rc fun K hK => ?_
  go_simp
  have z4l := Hpb.new (.cells #[.int .i64 0, .int .i64 0, .int .i64 0, .int .i64 0, .int .i64 0, .int .i64 0, .int .i64 0, .int .i64 0] 85)
  have Jpba := io1 z4l Jpb
  refine hK.out _ _ (by exact zaa (z4l.right.right)) fun hHeld => ?_
  clear hK K
  try simp only [sp]
  generalize World.alloc wpb (.cells #[.int .i64 0, .int .i64 0, .int .i64 0, .int .i64 0, .int .i64 0, .int .i64 0, .int .i64 0, .int .i64 0] 85) = wpba at *
  generalize wpb.heap.size = z3c at *
  refine rd [3] (rc fun K hK => ?_)
  go_simp
  go_at_call 78; (with_reducible refine zbm l l1 l2 k1 k2 hl IK PL PLO hx (fr2 z4l) ?_); intro m1 i1 i2 i3 i4 i5 i6 ct1 ht1 wpbac hm1 z3q ztw; have PR := L_ (zgh ok.out pre.out hm1.out.1)
  have zt2 := (bk2 z3q)
  have z4b := (Jpba).trans ztw
  refine hK.out _ _ (by exact zaa (zt2.right.right)) fun hHeld => ?_
  clear hK K
  try simp only [sp]
  refine rd [7] (rc fun K hK => ?_)
  go_simp
  go_at_call 78; (with_reducible refine zbm r r1 r2 k1 k2 hr IK PR PRO hx (fr2 zt2) ?_); intro m2 j1 j2 j3 j4 j5 j6 ct2 ht2 z9k hm2 ztb zm6
  have zj0 := (bk2 ztb)
  have ztp := (z4b).trans zm6
  refine hK.out _ _ (by exact zaa (zj0.right.right)) fun hHeld => ?_
  clear hK K
  try simp only [sp]
  have zg8 := zj0
  have FA := zby zg8
  obtain ⟨f0, f1, f2, f3, f4, f5, f6, f7⟩ := FA
  have QA := nd8 zg8
  obtain ⟨q0, q1, q2, q3, q4, q5, q6, q7⟩ := QA
  have zex := zay (.int .i64 i1) (.int .i64 i2) (.int .i64 i3) (.int .i64 i4) (.int .i64 i5) (.int .i64 i6) (.int .i64 ct1) (.int .i64 ht1) zg8
  have FB := zby zex.right
  obtain ⟨g0, g1, g2, g3, g4, g5, g6, g7⟩ := FB
  have QB := nd8 zex.right
  obtain ⟨r0, r1', r2', r3, r4, r5, r6, r7⟩ := QB
  have zkb := zaj (zay (.int .i64 j1) (.int .i64 j2) (.int .i64 j3) (.int .i64 j4) (.int .i64 j5) (.int .i64 j6) (.int .i64 ct2) (.int .i64 ht2) (zaj zex))
  have zmz := zac (b := z3c) (.int .i64 i1) (.int .i64 i2) (.int .i64 i3) (.int .i64 i4) (.int .i64 i5) (.int .i64 i6) (.int .i64 ct1) (.int .i64 ht1) (ztp)
  have zmn := zac (b := z3a) (.int .i64 j1) (.int .i64 j2) (.int .i64 j3) (.int .i64 j4) (.int .i64 j5) (.int .i64 j6) (.int .i64 ct2) (.int .i64 ht2) zmz
  refine rd [10] (rc fun K hK => ?_)
  go_simp
  refine hK.out _ _ (by exact zaa (zex.right.right)) fun hHeld => ?_
  clear hK K
  try simp only [sp]
  refine rd [11] (rc fun K hK => ?_)
  go_simp
  refine hK.out _ _ (by exact zaa (zkb.right.right)) fun hHeld => ?_
  clear hK K
  try simp only [sp]
  refine wpAnyH_done (by kernel_rfl) ?_ _
  go_wp2_with fail
  go_meet
  exact ⟨_, _, _, i1, i2, i3, i4, i5, i6, ct1, ht1, j1, j2, j3, j4, j5, j6, ct2, ht2, rfl, rfl, L_ (set_mid ok.out pre.out hm1.out hm2.out), zkb, zmn⟩
 case rest =>
  obtain ⟨b9, b10, m2, i1, i2, i3, i4, i5, i6, ct1, ht1, j1, j2, j3, j4, j5, j6, ct2, ht2, rfl, rfl, hmid, K2, J2⟩ := hcut
  obtain ⟨z1, z2, z3, z4, z5, z6, z7, z8⟩ := hmid.out.2
  have wr1 : IntKind.i64.wrap (ct1 + ct2) = ct1 + ct2 := wrap_in (by omega) (by omega)
  have wr2 : IntKind.i64.wrap (ct1 + ct2 + 1) = ct1 + ct2 + 1 := wrap_in (by omega) (by omega)
  have wr3 : IntKind.i64.wrap (max ht1 ht2 + 1) = max ht1 ht2 + 1 := wrap_in (by omega) (by omega)
  have HOK := L_ (xat IL.out IR.out ok.out pre.out hmid.out)
  have Kd := K2.drew
  have Jd := J2.drew
  have S0 := zdp Kd
  clear K2 J2 z1 z2 z3 z4 z5 z6 z7 z8 PL PLO PRO
  go_upto_region 2 with fail
  refine rh Kd (fun W Kd => zdp Kd) fun hHeld => ?_
  refine tk ?_ ?_ [0, 1, 3, 4, 5, 6, 7, 8, 9, 10, 11, 12, 13, 14] ?_ hHeld ?_; rotate_left 2; exact tt
  refine rd [2, 15] (rn (fun K hK => ?_) ?_)
  ·go_simp
   go_at_call 46; (with_reducible refine zan Kd ?_); intro w3 H3 I3
   refine hK.out _ _ (by exact zdp H3) fun hHeld => ?_
   clear hK K
   try simp only [sp]
   refine rd [15] (rc fun K hK => ?_)
   go_simp
   refine hK.out _ _ (by exact zdp H3) fun hHeld => ?_
   clear hK K
   try simp only [sp]
   refine tk ?_ ?_ [16, 17] ?_ hHeld ?_; rotate_left 2; exact tt
   refine rd [18] (rc fun K hK => ?_)
   go_simp
   go_at_call 79; (with_reducible refine zkl k1 k2 4294967295 4294967295 l1 l2 r1 r2 (ct1 + ct2 + 1) (max ht1 ht2 + 1) d HOK hx (fr2 H3) ?_); intro m3 w4 hm3 X4 I4; have H4 := bk2 X4
   refine hK.out _ _ (by exact zdp H4) fun hHeld => ?_
   clear hK K
   try simp only [sp]
   refine wpAnyH_done (by kernel_rfl) ?_ _
   go_upto_region 3 with fail
   obtain ⟨f0, f1⟩ := zfr H4.right.right.right
   obtain ⟨g0, g1⟩ := tk2 H4.right.right.right
   obtain ⟨e0, e1⟩ := tk2 H4.right.right.right.right.right.right
   have KE := zcu (.int .i64 k1) (.int .i64 k2) (ze3 H4)
   have JE := zax (b := bx + 3) (.int .i64 k1) (.int .i64 k2) ((Jd.trans I3).trans I4)
   obtain ⟨q0, q1⟩ := tk2 KE
   have FIN := L_ (HH.out m3 _ (L_ (zwj ok.out pre.out hmid.out hm3.out hl.out hr.out)) (zoz KE) JE)
   go_wp2_with fail
   have hag := Tryz.isAgg29
   have hsz := Tryz.sizeOf29
   exact bodyPost_ret (v := tkA k1 k2) (by simp [results, Tryz.results45, go_sem, q0, q1]) rfl FIN.out
  ·refine rc fun K hK => ?_
   go_simp
   refine hK.out _ _ (by exact zdp Kd) fun hHeld => ?_
   clear hK K
   try simp only [sp]
   refine tk ?_ ?_ [16] ?_ hHeld ?_; rotate_left 2; exact tt
   refine rd [2] (rc fun K hK => ?_)
   go_simp
   go_at_call 46; (with_reducible refine zan Kd ?_); intro w3 H3 I3
   refine hK.out _ _ (by exact zdp H3) fun hHeld => ?_
   clear hK K
   try simp only [sp]
   refine tk ?_ ?_ [17] ?_ hHeld ?_; rotate_left 2; exact tt
   refine rd [18] (rc fun K hK => ?_)
   go_simp
   go_at_call 79; (with_reducible refine zkl k1 k2 4294967295 4294967295 l1 l2 r1 r2 (ct1 + ct2 + 1) (max ht1 ht2 + 1) d HOK hx (fr2 H3) ?_); intro m3 w4 hm3 X4 I4; have H4 := bk2 X4
   refine hK.out _ _ (by exact zdp H4) fun hHeld => ?_
   clear hK K
   try simp only [sp]
   refine wpAnyH_done (by kernel_rfl) ?_ _
   go_upto_region 3 with fail
   obtain ⟨f0, f1⟩ := zfr H4.right.right.right
   obtain ⟨g0, g1⟩ := tk2 H4.right.right.right
   obtain ⟨e0, e1⟩ := tk2 H4.right.right.right.right.right.right
   have KE := zcu (.int .i64 k1) (.int .i64 k2) (ze3 H4)
   have JE := zax (b := bx + 3) (.int .i64 k1) (.int .i64 k2) ((Jd.trans I3).trans I4)
   obtain ⟨q0, q1⟩ := tk2 KE
   have FIN := L_ (HH.out m3 _ (L_ (zwj ok.out pre.out hmid.out hm3.out hl.out hr.out)) (zoz KE) JE)
   go_wp2_with fail
   have hag := Tryz.isAgg29
   have hsz := Tryz.sizeOf29
   exact bodyPost_ret (v := tkA k1 k2) (by simp [results, Tryz.results45, go_sem, q0, q1]) rfl FIN.out
end
end Go.Proofs.YtfknjmoekbabcaaGreatDoor
namespace Go.Proofs.YtfknjmoekbabcaaGreatDoor
open Sq (Tk Nd Mp T)
namespace Sq
theorem zc5 (t : T) (ts : List T) : flat (t :: ts) = t.toks ++ flat ts := by unfold flat; simp
theorem z14 {ts ts' : List T} (h : List.Perm ts ts') : List.Perm (flat ts) (flat ts') := by
 unfold flat
 exact (h.map T.toks).flatten
structure Fr (m0 m : Option Mp) (all : List Tk) (ts : List T) (ks : List Tk) : Prop where
 nodup : (flat ts ++ ks).Nodup
 ok : ∀ y ∈ flat ts ++ ks, OkT y
 cnt : (flat ts ++ ks).length ≤ 255
 sub : ∀ y ∈ flat ts ++ ks, y ∈ all
 own : ∀ M, m = some M → ∃ M0, m0 = some M0 ∧ (∀ t ∈ ts, ∃ u, zc0 M t u) ∧ (∀ k ∈ ks, M k ≠ none) ∧ ∀ y, y ∉ all → M y = M0 y
variable {m0 m m' : Option Mp} {all : List Tk} {ts ts' : List T} {ks ks' : List Tk} {l r : T} {k x : Tk}
theorem Fr.perm (f : Fr m0 m all ts ks) (h1 : List.Perm ts ts') (h2 : List.Perm ks ks') : Fr m0 m all ts' ks' := by
 have p : List.Perm (flat ts ++ ks) (flat ts' ++ ks') := (z14 h1).append h2
 refine ⟨p.nodup_iff.1 f.nodup, fun y hy => f.ok y (p.mem_iff.2 hy), by rw [← p.length_eq]; exact f.cnt, fun y hy => f.sub y (p.mem_iff.2 hy), fun M hM => ?_⟩
 obtain ⟨M0, e, a, b, c⟩ := f.own M hM
 exact ⟨M0, e, fun t ht => a t (h1.mem_iff.2 ht), fun k hk => b k (h2.mem_iff.2 hk), c⟩
theorem zjj (l r : T) (k : Tk) (ts : List T) (ks : List Tk) : List.Perm (flat (l :: r :: ts) ++ (k :: ks)) ((l.toks ++ k :: r.toks) ++ (flat ts ++ ks)) := by
 rw [zc5, zc5]
 have h : List.Perm (r.toks ++ (flat ts ++ (k :: ks))) (k :: (r.toks ++ (flat ts ++ ks))) := by
  refine (List.Perm.append_left _ List.perm_middle).trans ?_
  exact List.perm_middle
 simp only [List.append_assoc, List.cons_append]
 exact List.Perm.append_left _ h
theorem Fr.parts (f : Fr m0 m all (l :: r :: ts) (k :: ks)) : (l.toks ++ k :: r.toks).Nodup ∧ (flat ts ++ ks).Nodup ∧ ∀ y ∈ flat ts ++ ks, y ∉ l.toks ++ k :: r.toks := by
 have h := (zjj l r k ts ks).nodup_iff.1 f.nodup
 obtain ⟨h1, h2, h3⟩ := List.nodup_append.1 h
 exact ⟨h1, h2, fun y hy hn => h3 y hn y hy rfl⟩
theorem Fr.setOk (f : Fr m0 m all (l :: r :: ts) (k :: ks)) : zjn l r k where
 nodup := f.parts.1
 ok := fun y hy => f.ok y ((zjj l r k ts ks).mem_iff.2 (List.mem_append_left _ hy))
 cnt := by
  have h := f.cnt
  rw [(zjj l r k ts ks).length_eq] at h
  simp only [List.length_append, List.length_cons, T.zbl] at h
  omega
theorem Fr.setPre (f : Fr m0 m all (l :: r :: ts) (k :: ks)) : zjv m l r k 0 := fun M hM => by
 obtain ⟨M0, e, a, b, c⟩ := f.own M hM
 exact ⟨a l (by simp), a r (by simp), .inl ⟨b k (by simp), rfl⟩⟩
theorem Fr.put (f : Fr m0 m all (l :: r :: ts) (k :: ks)) {t : T} (ht : t.toks = l.toks ++ k :: r.toks) (own : ∀ M', m' = some M' → ∃ M, m = some M ∧ zc0 M' t nob ∧ ∀ y, y ∉ l.toks ++ k :: r.toks → M' y = M y) : Fr m0 m' all (t :: ts) ks := by
 have p : List.Perm (flat (l :: r :: ts) ++ (k :: ks)) (flat (t :: ts) ++ ks) := by
  rw [zc5 t, ht, List.append_assoc]
  exact zjj l r k ts ks
 refine ⟨p.nodup_iff.1 f.nodup, fun y hy => f.ok y (p.mem_iff.2 hy), by rw [← p.length_eq]; exact f.cnt, fun y hy => f.sub y (p.mem_iff.2 hy), fun M' hM' => ?_⟩
 obtain ⟨M, e, h1, h2⟩ := own M' hM'
 obtain ⟨M0, e0, a, b, c⟩ := f.own M e
 obtain ⟨_, _, n3⟩ := f.parts
 refine ⟨M0, e0, fun s hs => ?_, fun y hy => ?_, fun y hy => ?_⟩
 ·rcases List.mem_cons.1 hs with rfl | hs
  ·exact ⟨_, h1⟩
  ·obtain ⟨u, hu⟩ := a s (by simp [hs])
   exact ⟨u, hu.congr fun y hy => h2 y (n3 y (List.mem_append_left _ (zdi.2 ⟨s, hs, hy⟩)))⟩
 ·rw [h2 y (n3 y (List.mem_append_right _ hy))]
  exact b y (by simp [hy])
 ·rw [h2 y fun hn => hy (f.sub y ((zjj l r k ts ks).mem_iff.2 (List.mem_append_left _ hn)))]
  exact c y hy
theorem Fr.set (f : Fr m0 m all (l :: r :: ts) (k :: ks)) (h : Made m m' l r k (.node l k r)) : Fr m0 m' all (.node l k r :: ts) ks := f.put rfl h
theorem Fr.open (f : Fr m0 m all (.node l k r :: ts) ks) : Fr m0 m all (l :: r :: ts) (k :: ks) := by
 have p : List.Perm (flat (.node l k r :: ts) ++ ks) (flat (l :: r :: ts) ++ (k :: ks)) := by
  refine List.Perm.trans ?_ (zjj l r k ts ks).symm
  rw [zc5, List.append_assoc]
  exact List.Perm.refl _
 refine ⟨p.nodup_iff.1 f.nodup, fun y hy => f.ok y (p.mem_iff.2 hy), by rw [← p.length_eq]; exact f.cnt, fun y hy => f.sub y (p.mem_iff.2 hy), fun M hM => ?_⟩
 obtain ⟨M0, e, a, b, c⟩ := f.own M hM
 obtain ⟨u, hu⟩ := a (.node l k r) (by simp)
 refine ⟨M0, e, fun s hs => ?_, fun y hy => ?_, c⟩
 ·simp only [List.mem_cons] at hs
  rcases hs with rfl | rfl | hs
  ·exact ⟨_, hu.2.1⟩
  ·exact ⟨_, hu.2.2⟩
  ·exact a s (by simp [hs])
 ·rcases List.mem_cons.1 hy with rfl | hy
  ·rw [hu.1]; simp
  ·exact b y hy
theorem Fr.hold (f : Fr m0 m all ts ks) {M : Mp} (e : m = some M) {t : T} (h : t ∈ ts) : ∃ u, zc0 M t u := by
 obtain ⟨_, _, a, _⟩ := f.own M e
 exact a t h
theorem Fr.toks (f : Fr m0 m all ts ks) {t : T} (h : t ∈ ts) : (∀ y ∈ t.toks, OkT y) ∧ t.cnt ≤ 255 ∧ t.toks.Nodup := by
 have h1 : ∀ y ∈ t.toks, y ∈ flat ts := fun y hy => zdi.2 ⟨t, h, hy⟩
 have h2 : List.Sublist t.toks (flat ts) := by
  unfold flat
  exact List.sublist_flatten_of_mem (List.mem_map.2 ⟨t, h, rfl⟩)
 refine ⟨fun y hy => f.ok y (List.mem_append_left _ (h1 y hy)), ?_, (List.nodup_append.1 f.nodup).1.sublist h2⟩
 have := f.cnt
 have h3 := h2.length_le
 rw [List.length_append] at this
 rw [T.zbl] at h3
 omega
theorem z2y (l : T) (k : Tk) (r : T) (bl : l.Bal) (br : r.Bal) (h1 : l.ht ≤ r.ht + 2) (h2 : r.ht ≤ l.ht + 2) : ∃ t, Lk l k r t := by
 by_cases c1 : r.ht + 1 < l.ht
 ·cases l with
  | nil => simp [T.ht] at c1
  | node a x b =>
   by_cases c : b.ht ≤ a.ht
   ·exact ⟨_, Lk.left1 bl br (by omega) c⟩
   ·cases b with
    | nil => simp [T.ht] at c
    | node c1 y d => exact ⟨_, Lk.left2 bl br (by omega) (by omega)⟩
 ·by_cases c2 : l.ht + 1 < r.ht
  ·cases r with
   | nil => simp [T.ht] at c2
   | node a x b =>
    by_cases c : a.ht ≤ b.ht
    ·exact ⟨_, Lk.z9x bl br (by omega) c⟩
    ·cases a with
     | nil => simp [T.ht] at c
     | node c1 y d => exact ⟨_, Lk.z9w bl br (by omega) (by omega)⟩
  ·exact ⟨_, Lk.set bl br (by omega) (by omega)⟩
theorem zu7 (k : Tk) : ∀ (n : Nat) (l r : T), l.ht + r.ht ≤ n → l.Bal → r.Bal → ∃ t, Lk l k r t
 | n, l, r, hn, bl, br => by
  by_cases c1 : r.ht + 1 < l.ht
  ·cases l with
   | nil => simp [T.ht] at c1
   | node a x b =>
    have hb := bl
    simp only [T.Bal] at hb
    match n, hn with
    | 0, hn => simp only [T.ht] at hn; omega
    | n + 1, hn =>
     obtain ⟨t', h'⟩ := zu7 k n b r (by simp only [T.ht] at hn; omega) hb.2.1 br
     obtain ⟨d1, d2⟩ := Lk.zsn bl c1 h'
     obtain ⟨t, ht⟩ := z2y a x t' hb.1 h'.bal d1 d2
     exact ⟨t, Lk.zqv bl c1 h' ht⟩
  ·by_cases c2 : l.ht + 1 < r.ht
   ·cases r with
    | nil => simp [T.ht] at c2
    | node a x b =>
     have hb := br
     simp only [T.Bal] at hb
     match n, hn with
     | 0, hn => simp only [T.ht] at hn; omega
     | n + 1, hn =>
      obtain ⟨t', h'⟩ := zu7 k n l a (by simp only [T.ht] at hn; omega) bl hb.1
      obtain ⟨d1, d2⟩ := Lk.zoc br c2 h'
      obtain ⟨t, ht⟩ := z2y t' x b h'.bal hb.2.1 d2 d1
      exact ⟨t, Lk.znp br c2 h' ht⟩
   ·exact ⟨_, Lk.set bl br (by omega) (by omega)⟩
end Sq
end Go.Proofs.YtfknjmoekbabcaaGreatDoor
