/-
  A part of a proof. It proves no statement by itself.
-/
import Derived.Test.YtfknjmoekbabcaaGreatDoorA36
set_option linter.unusedSimpArgs false
set_option linter.unusedVariables false
set_option linter.unusedSectionVars false
set_option maxRecDepth 100000
set_option maxHeartbeats 64000000
namespace Go.Proofs.YtfknjmoekbabcaaGreatDoor
open Go.RowKit Go.Lib
open Sq (Tk Nd Mp zcb InT Fr)
namespace Sq
theorem pa {α : Type} (a b : α) (l : List α) : List.Perm (a :: b :: l) (b :: a :: l) := List.Perm.swap b a l
theorem p3 {α : Type} (a b c : α) (l : List α) : List.Perm (a :: b :: c :: l) (b :: c :: a :: l) := (List.Perm.swap b a _).trans (List.Perm.cons b (List.Perm.swap c a l))
theorem p4 {α : Type} (a b c d : α) (l : List α) : List.Perm (a :: b :: c :: d :: l) (b :: c :: d :: a :: l) := (p3 a b c (d :: l)).trans (List.Perm.cons b (List.Perm.cons c (List.Perm.swap d a l)))
theorem pb {α : Type} (a b c : α) (l : List α) : List.Perm (a :: b :: c :: l) (a :: c :: b :: l) := List.Perm.cons a (List.Perm.swap c b l)
def z4r (m : Option Mp) (t : T) (n : Nd) : Prop := (m = none ∧ n = nd0) ∨ ∃ M u, m = some M ∧ zc0 M t u ∧ n = t.nd u
def zki (m : Option Mp) (t : T) (k : Tk) : Prop := ∀ M, m = some M → k = t.top ∧ (∃ u, zc0 M t u) ∧ ∀ y ∈ t.toks, OkT y
theorem z4r.ht {M : Mp} {t : T} {n : Nd} (h : z4r (some M) t n) : n.height = (t.ht : Int) ∧ n.count = (t.cnt : Int) := by
 rcases h with ⟨h, _⟩ | ⟨M', u, _, _, rfl⟩
 ·cases h
 ·exact ⟨T.nd_ht t u, T.z90 t u⟩
theorem z4r.kids {M : Mp} {a b : T} {x : Tk} {n : Nd} (h : z4r (some M) (.node a x b) n) : n.left = a.top ∧ n.right = b.top := by
 rcases h with ⟨h, _⟩ | ⟨M', u, _, _, rfl⟩
 ·cases h
 ·exact ⟨rfl, rfl⟩
theorem Fr.bad {m0 : Option Mp} {all : List Tk} {ts : List T} {ks : List Tk} {l r t : T} {k : Tk} {m : Option Mp} (f : Fr m0 m all (l :: r :: ts) (k :: ks)) (h : Lk l k r t) : Fr m0 none all (t :: ts) ks := f.put h.toks fun M' h => nomatch h
theorem Fr.arg {m0 m : Option Mp} {all : List Tk} {ts : List T} {ks : List Tk} (f : Fr m0 m all ts ks) {t : T} (h : t ∈ ts) {k : Tk} (hk : k = t.top) : zki m t k := fun M hM => ⟨hk, f.hold hM h, (f.toks h).1⟩
def Done (m0 m' : Option Mp) (all : List Tk) (ts : List T) (ks : List Tk) (l r t : T) (k v : Tk) : Prop :=
 Lk l k r t ∧ Fr m0 m' all (t :: ts) ks ∧ ∀ M', m' = some M' → v = t.top ∧ zc0 M' t nob
end Sq
section
variable {x : Sx} {M : Mp} {F : Asn} {w : World} {R : Ending → World → Prop} {m0 : Option Mp} {all : List Tk} {ts : List Sq.T} {ks : List Tk}
theorem zav {m : Option Mp} (t : Sq.T) (k1 k2 : Int) (ha : Hid (Sq.zki m t (k1, k2))) (hx : Hid x.Ok) (H : Sat (zas x m * F) w)
  (h : ∀ n1 n2 n3 n4 n5 n6 n7 n8 w', Hid (Sq.z4r m t ⟨(n1, n2), (n3, n4), (n5, n6), n7, n8⟩) → Sat (zas x m * F) w' → Io w w' → R (.returned (ndA n1 n2 n3 n4 n5 n6 n7 n8)) w') :
  Calls Tryz.prog 58 #[.pointer (some ⟨x.s, 0, none⟩), tkA k1 k2] w R := by
 by_cases hn : (k1, k2) = Sq.nob
 ·have e := hn
  unfold Sq.nob at e
  rw [Prod.mk.injEq] at e
  obtain ⟨rfl, rfl⟩ := e
  refine zoy H fun w' H' I => h 0 0 0 0 0 0 0 0 w' (L_ ?_) H' I
  cases m with
  | none => exact .inl ⟨rfl, rfl⟩
  | some M =>
   obtain ⟨h1, ⟨u, hu⟩, h3⟩ := ha.out M rfl
   have h4 := (Sq.T.znn h3).1 (h1.symm.trans hn)
   subst h4
   exact .inr ⟨M, u, rfl, hu, rfl⟩
 ·cases m with
  | none => exact zwh k1 k2 (L_ hn) H fun w' H' I => h 0 0 0 0 0 0 0 0 w' (L_ (.inl ⟨rfl, rfl⟩)) H' I
  | some M =>
   obtain ⟨h1, ⟨u, hu⟩, h3⟩ := ha.out M rfl
   cases t with
   | nil => exact absurd h1 hn
   | node l k r =>
    have e1 : M (k1, k2) = some (Sq.nod l r u) := by rw [h1]; exact hu.1
    exact zdo (u1 := u.1) (u2 := u.2) (l1 := l.top.1) (l2 := l.top.2) (r1 := r.top.1) (r2 := r.top.2) (ct := ((l.cnt + r.cnt + 1 : Nat) : Int)) (ht := ((max l.ht r.ht + 1 : Nat) : Int)) k1 k2 (L_ e1) hx H fun w' H' I => h _ _ _ _ _ _ _ _ w' (L_ (.inr ⟨M, u, rfl, hu, rfl⟩)) H' I
theorem zwx (n1 n2 n3 n4 n5 n6 n7 n8 : Int) (W : World) : (Instr.field 85 (.agg #[.int .i64 n1, .int .i64 n2, .int .i64 n3, .int .i64 n4, .int .i64 n5, .int .i64 n6, .int .i64 n7, .int .i64 n8]) 4).run Tryz.prog W = .ok (.int .i64 n8) W := by kernel_rfl
theorem zgg {M : Mp} (t : Sq.T) (k1 k2 : Int) (ha : Hid (Sq.zki (some M) t (k1, k2))) (hx : Hid x.Ok) (H : Sat (zas x (some M) * F) w)
  (h : ∀ n1 n2 n3 n4 n5 n6 n7 w', Hid (Sq.z4r (some M) t ⟨(n1, n2), (n3, n4), (n5, n6), n7, (t.ht : Int)⟩) → Sat (zas x (some M) * F) w' → Io w w' → R (.returned (.agg #[.int .i64 n1, .int .i64 n2, .int .i64 n3, .int .i64 n4, .int .i64 n5, .int .i64 n6, .int .i64 n7, .int .i64 (t.ht : Int)])) w') :
  Calls Tryz.prog 58 #[.pointer (some ⟨x.s, 0, none⟩), tkA k1 k2] w R :=
 zav t k1 k2 ha hx H fun n1 n2 n3 n4 n5 n6 n7 n8 w' hg H' I => by
  obtain rfl : n8 = (t.ht : Int) := hg.out.ht.1
  exact h n1 n2 n3 n4 n5 n6 n7 w' hg H' I
theorem zyu {m : Option Mp} (l r : Sq.T) (k1 k2 l1 l2 r1 r2 : Int) (hl : Hid ((l1, l2) = l.top)) (hr : Hid ((r1, r2) = r.top)) (fr : Hid (Fr m0 m all (l :: r :: ts) ((k1, k2) :: ks))) (hx : Hid x.Ok) (H : Sat (zas x m * F) w)
  (h : ∀ m' w', Hid (Fr m0 m' all (.node l (k1, k2) r :: ts) ks ∧ ∀ M', m' = some M' → Sq.zc0 M' (.node l (k1, k2) r) Sq.nob) → Sat (zas x m' * F) w' → Io w w' → R (.returned (tkA k1 k2)) w') :
  Calls Tryz.prog 45 #[.pointer (some ⟨x.s, 0, none⟩), tkA k1 k2, tkA l1 l2, tkA r1 r2] w R :=
 zwb l r k1 k2 l1 l2 r1 r2 0 hl hr (L_ fr.out.setOk) (L_ fr.out.setPre) hx H fun m' w' hm H' I =>
  h m' w' (L_ ⟨fr.out.set hm.out, fun M' hM' => by obtain ⟨_, _, h1, _⟩ := hm.out M' hM'; exact h1⟩) (by
   have e : x.grow 0 = x := by cases x; simp [Sx.grow]
   rw [e] at H'
   exact H') I
theorem zat {A : Asn} {b0 b1 b2 b3 b9 b10 : Nat} {t0 t1 t2 t3 t9 t10 : TypeId} {x0 x1 x2 x3 x4 x5 x6 x7 y0 y1 y2 y3 y4 y5 y6 y7 z0 z1 z2 z3 z4 z5 z6 z7 : Value} (H : Sat (pts b9 (.cells #[y0, y1, y2, y3, y4, y5, y6, y7] t9 (0, 0)) * (pts b10 (.cells #[z0, z1, z2, z3, z4, z5, z6, z7] t10 (0, 0)) * (A * (pts b3 (.cells #[x6, x7] t3 (0, 0)) * (pts b2 (.cells #[x4, x5] t2 (0, 0)) * (pts b1 (.cells #[x2, x3] t1 (0, 0)) * (pts b0 (.cells #[x0, x1] t0 (0, 0)) * F))))))) w) :
  ((w.cell? ⟨b0, 0, none⟩ = some x0 ∧ w.cell? ⟨b0, 1, none⟩ = some x1) ∧ (w.cell? ⟨b1, 0, none⟩ = some x2 ∧ w.cell? ⟨b1, 1, none⟩ = some x3) ∧ (w.cell? ⟨b2, 0, none⟩ = some x4 ∧ w.cell? ⟨b2, 1, none⟩ = some x5)) ∧ (w.cell? ⟨b9, 2, none⟩ = some y2 ∧ w.cell? ⟨b9, 3, none⟩ = some y3 ∧ w.cell? ⟨b9, 4, none⟩ = some y4 ∧ w.cell? ⟨b9, 5, none⟩ = some y5) ∧ (w.cell? ⟨b10, 2, none⟩ = some z2 ∧ w.cell? ⟨b10, 3, none⟩ = some z3 ∧ w.cell? ⟨b10, 4, none⟩ = some z4 ∧ w.cell? ⟨b10, 5, none⟩ = some z5) := by
 have a := nd8 H
 have b := nd8 H.right
 exact ⟨zaa H.right.right, ⟨a.2.2.1, a.2.2.2.1, a.2.2.2.2.1, a.2.2.2.2.2.1⟩, ⟨b.2.2.1, b.2.2.2.1, b.2.2.2.2.1, b.2.2.2.2.2.1⟩⟩
theorem zcc {A : Asn} {b0 b1 b2 b3 b9 b10 b11 : Nat} {t0 t1 t2 t3 t9 t10 t11 : TypeId} {x0 x1 x2 x3 x4 x5 x6 x7 y0 y1 y2 y3 y4 y5 y6 y7 z0 z1 z2 z3 z4 z5 z6 z7 v0 v1 v2 v3 v4 v5 v6 v7 : Value} (H : Sat (pts b11 (.cells #[v0, v1, v2, v3, v4, v5, v6, v7] t11 (0, 0)) * (pts b9 (.cells #[y0, y1, y2, y3, y4, y5, y6, y7] t9 (0, 0)) * (pts b10 (.cells #[z0, z1, z2, z3, z4, z5, z6, z7] t10 (0, 0)) * (A * (pts b3 (.cells #[x6, x7] t3 (0, 0)) * (pts b2 (.cells #[x4, x5] t2 (0, 0)) * (pts b1 (.cells #[x2, x3] t1 (0, 0)) * (pts b0 (.cells #[x0, x1] t0 (0, 0)) * F)))))))) w) :
  (((w.cell? ⟨b0, 0, none⟩ = some x0 ∧ w.cell? ⟨b0, 1, none⟩ = some x1) ∧ (w.cell? ⟨b1, 0, none⟩ = some x2 ∧ w.cell? ⟨b1, 1, none⟩ = some x3) ∧ (w.cell? ⟨b2, 0, none⟩ = some x4 ∧ w.cell? ⟨b2, 1, none⟩ = some x5)) ∧ (w.cell? ⟨b9, 2, none⟩ = some y2 ∧ w.cell? ⟨b9, 3, none⟩ = some y3 ∧ w.cell? ⟨b9, 4, none⟩ = some y4 ∧ w.cell? ⟨b9, 5, none⟩ = some y5) ∧ (w.cell? ⟨b10, 2, none⟩ = some z2 ∧ w.cell? ⟨b10, 3, none⟩ = some z3 ∧ w.cell? ⟨b10, 4, none⟩ = some z4 ∧ w.cell? ⟨b10, 5, none⟩ = some z5)) ∧ (w.cell? ⟨b11, 2, none⟩ = some v2 ∧ w.cell? ⟨b11, 3, none⟩ = some v3 ∧ w.cell? ⟨b11, 4, none⟩ = some v4 ∧ w.cell? ⟨b11, 5, none⟩ = some v5) := by
 have a := nd8 H
 exact ⟨zat H.right, ⟨a.2.2.1, a.2.2.2.1, a.2.2.2.2.1, a.2.2.2.2.2.1⟩⟩
theorem fr3 {A B C D : Asn} (H : Sat (A * (B * (C * (D * F)))) w) : Sat (D * (A * (B * (C * F)))) w := H.of_eq (by ac_rfl)
theorem bk3 {A B C D : Asn} (H : Sat (D * (A * (B * (C * F)))) w) : Sat (A * (B * (C * (D * F)))) w := H.of_eq (by ac_rfl)
theorem zhh {A B C D : Asn} (H : Sat (D * (A * (B * (C * F)))) w) : Sat (A * (B * (C * (D * F)))) w := H.of_eq (by ac_rfl)
theorem res3 {A B C D E : Asn} (H : Sat (A * (B * (C * (D * (E * F))))) w) : Sat (E * (A * (B * (C * (D * F))))) w := H.of_eq (by ac_rfl)
theorem zrd {A B C D E : Asn} (H : Sat (E * (A * (B * (C * (D * F))))) w) : Sat (A * (B * (C * (D * (E * F))))) w := H.of_eq (by ac_rfl)
theorem end3 {A B C D E G I J : Asn} (H : Sat (A * (B * (C * (D * (E * (G * (I * (J * F)))))))) w) : Sat (D * F) w := (H.of_eq (show _ = (A * (B * (C * (E * (G * (I * J)))))) * (D * F) from by ac_rfl)).right
theorem end2 {B C D E G I J : Asn} (H : Sat (B * (C * (D * (E * (G * (I * (J * F))))))) w) : Sat (D * F) w := (H.of_eq (show _ = (B * (C * (E * (G * (I * J))))) * (D * F) from by ac_rfl)).right
theorem zwk {m : Option Mp} (l r : Sq.T) (k1 k2 l1 l2 r1 r2 : Int) (al : Hid (∀ M, m = some M → (l1, l2) = l.top ∧ (r1, r2) = r.top)) (fr : Hid (Fr m0 m all (l :: r :: ts) ((k1, k2) :: ks))) (bal : Hid (l.Bal ∧ r.Bal ∧ l.ht ≤ r.ht + 2 ∧ r.ht ≤ l.ht + 2)) (hx : Hid x.Ok) (H : Sat (zas x m * F) w)
  (h : ∀ m' v1 v2 t w', Hid (Sq.Done m0 m' all ts ks l r t (k1, k2) (v1, v2)) → Sat (zas x m' * F) w' → Io w w' → R (.returned (tkA v1 v2)) w') :
  Calls Tryz.prog 83 #[.pointer (some ⟨x.s, 0, none⟩), tkA k1 k2, tkA l1 l2, tkA r1 r2] w R := by
 have HH := L_ h
 have AL : Hid (Sq.zki m l (l1, l2)) := L_ fun M hM => (fr.out.arg (by simp) (al.out M hM).1) M hM
 have AR : Hid (Sq.zki m r (r1, r2)) := L_ fun M hM => (fr.out.arg (by simp) (al.out M hM).2) M hM
 have H1 := zzs ((((H.new (.cells #[.int .i64 k1, .int .i64 k2] 29)).new (.cells #[.int .i64 l1, .int .i64 l2] 29)).new (.cells #[.int .i64 r1, .int .i64 r2] 29)).new (.cells #[.int .i64 0, .int .i64 0] 29))
 have I1 := io4 H1 (Io.refl w)
 simp only [World.size_alloc, Nat.add_assoc, Nat.reduceAdd] at H1
 clear h H
 go_enter Tryz.func83, Tryz.ntmps83
 go_upto_region 1 with fail
 generalize (((w.alloc _).alloc _).alloc _).alloc _ = w1 at *
 generalize w.heap.size = bx at *
 go_cut [9, 10] from 13 to 18 (fun p q wc => ∃ b9 b10 a1 a2 a3 a4 a5 a6 a7 a8 c1 c2 c3 c4 c5 c6 c7 c8, p = .pointer (some ⟨b9, 0, none⟩) ∧ q = .pointer (some ⟨b10, 0, none⟩) ∧ Hid (Sq.z4r m l ⟨(a1, a2), (a3, a4), (a5, a6), a7, a8⟩) ∧ Hid (Sq.z4r m r ⟨(c1, c2), (c3, c4), (c5, c6), c7, c8⟩) ∧ Sat (pts b9 (.cells #[.int .i64 a1, .int .i64 a2, .int .i64 a3, .int .i64 a4, .int .i64 a5, .int .i64 a6, .int .i64 a7, .int .i64 a8] 85 (0, 0)) * (pts b10 (.cells #[.int .i64 c1, .int .i64 c2, .int .i64 c3, .int .i64 c4, .int .i64 c5, .int .i64 c6, .int .i64 c7, .int .i64 c8] 85 (0, 0)) * (zas x m * (pts (bx + 3) (.cells #[.int .i64 0, .int .i64 0] 29 (0, 0)) * (pts (bx + 2) (.cells #[.int .i64 r1, .int .i64 r2] 29 (0, 0)) * (pts (bx + 1) (.cells #[.int .i64 l1, .int .i64 l2] 29 (0, 0)) * (pts bx (.cells #[.int .i64 k1, .int .i64 k2] 29 (0, 0)) * F))))))) wc ∧ Io w wc)
 case first =>
  have Kd := H1.drew
  have Jd := I1.drew
  clear H1 I1
  refine rh Kd (fun W Kd => zaa Kd) fun hHeld => ?_
  refine tk ?_ ?_ [0, 1, 3, 4] ?_ hHeld ?_; rotate_left 2; exact tt
  generalize w1.drew = wd at *
  refine rd [2, 6, 7] (rn (fun K hK => ?_) ?_)
  ·go_simp
   go_at_call 58; (with_reducible refine zav l l1 l2 AL hx Kd ?_); intro a1 a2 a3 a4 a5 a6 a7 a8 wpc hA Xpc IXpc
   have Hpc := Xpc
   have Jpc := (Jd).trans IXpc
   refine hK.out _ _ (by exact zaa Hpc) fun hHeld => ?_
   clear hK K
   try simp only [sp]
   refine rd [5, 6, 7] (rn (fun K hK => ?_) ?_)
   ·go_simp
    go_at_call 58; (with_reducible refine zav r r1 r2 AR hx Hpc ?_); intro c1 c2 c3 c4 c5 c6 c7 c8 zv6 hB Xpcc z4g
    have z4j := Xpcc
    have xab := (Jpc).trans z4g
    refine hK.out _ _ (by exact zaa z4j) fun hHeld => ?_
    clear hK K
    try simp only [sp]
    refine rd [6, 7] (rn (fun K hK => ?_) ?_)
    ·go_simp
     have zna := z4j.new (.cells #[.int .i64 0, .int .i64 0, .int .i64 0, .int .i64 0, .int .i64 0, .int .i64 0, .int .i64 0, .int .i64 0] 85)
     have z3u := io1 zna xab
     refine hK.out _ _ (by exact zaa (zna.right)) fun hHeld => ?_
     clear hK K
     try simp only [sp]
     generalize World.alloc zv6 (.cells #[.int .i64 0, .int .i64 0, .int .i64 0, .int .i64 0, .int .i64 0, .int .i64 0, .int .i64 0, .int .i64 0] 85) = zqi at *
     generalize zv6.heap.size = zs3 at *
     refine rd [7] (rc fun K hK => ?_)
     go_simp
     have zgv := zna.new (.cells #[.int .i64 0, .int .i64 0, .int .i64 0, .int .i64 0, .int .i64 0, .int .i64 0, .int .i64 0, .int .i64 0] 85)
     have zti := io1 zgv z3u
     refine hK.out _ _ (by exact zaa (zgv.right.right)) fun hHeld => ?_
     clear hK K
     try simp only [sp]
     generalize World.alloc zqi (.cells #[.int .i64 0, .int .i64 0, .int .i64 0, .int .i64 0, .int .i64 0, .int .i64 0, .int .i64 0, .int .i64 0] 85) = z9a at *
     generalize zqi.heap.size = zl7 at *
     have zg1 := (zaj zgv)
     have FA := zby zg1
     obtain ⟨f0, f1, f2, f3, f4, f5, f6, f7⟩ := FA
     have QA := nd8 zg1
     obtain ⟨q0, q1, q2, q3, q4, q5, q6, q7⟩ := QA
     have zeq := zay (.int .i64 a1) (.int .i64 a2) (.int .i64 a3) (.int .i64 a4) (.int .i64 a5) (.int .i64 a6) (.int .i64 a7) (.int .i64 a8) zg1
     have FB := zby zeq.right
     obtain ⟨g0, g1, g2, g3, g4, g5, g6, g7⟩ := FB
     have QB := nd8 zeq.right
     obtain ⟨r0, r1', r2', r3, r4, r5, r6, r7⟩ := QB
     have zj4 := zaj (zay (.int .i64 c1) (.int .i64 c2) (.int .i64 c3) (.int .i64 c4) (.int .i64 c5) (.int .i64 c6) (.int .i64 c7) (.int .i64 c8) (zaj zeq))
     have zms := zac (b := zs3) (.int .i64 a1) (.int .i64 a2) (.int .i64 a3) (.int .i64 a4) (.int .i64 a5) (.int .i64 a6) (.int .i64 a7) (.int .i64 a8) (zti)
     have zmg := zac (b := zl7) (.int .i64 c1) (.int .i64 c2) (.int .i64 c3) (.int .i64 c4) (.int .i64 c5) (.int .i64 c6) (.int .i64 c7) (.int .i64 c8) zms
     refine rd [8] (rc fun K hK => ?_)
     go_simp
     refine hK.out _ _ (by exact zaa (zeq.right.right)) fun hHeld => ?_
     clear hK K
     try simp only [sp]
     refine rd [9] (rc fun K hK => ?_)
     go_simp
     refine hK.out _ _ (by exact zaa (zj4.right.right)) fun hHeld => ?_
     clear hK K
     try simp only [sp]
     refine wpAnyH_done (by kernel_rfl) ?_ _
     go_wp2_with fail
     go_meet
     exact ⟨_, _, a1, a2, a3, a4, a5, a6, a7, a8, c1, c2, c3, c4, c5, c6, c7, c8, rfl, rfl, hA, hB, zj4, zmg⟩
    refine rc fun K hK => ?_
    go_simp
    have zm9 := z4j.new (.cells #[.int .i64 0, .int .i64 0, .int .i64 0, .int .i64 0, .int .i64 0, .int .i64 0, .int .i64 0, .int .i64 0] 85)
    have z3t := io1 zm9 xab
    refine hK.out _ _ (by exact zaa (zm9.right)) fun hHeld => ?_
    clear hK K
    try simp only [sp]
    generalize World.alloc zv6 (.cells #[.int .i64 0, .int .i64 0, .int .i64 0, .int .i64 0, .int .i64 0, .int .i64 0, .int .i64 0, .int .i64 0] 85) = zqh at *
    generalize zv6.heap.size = zsw at *
    refine rd [6] (rc fun K hK => ?_)
    go_simp
    have zgu := zm9.new (.cells #[.int .i64 0, .int .i64 0, .int .i64 0, .int .i64 0, .int .i64 0, .int .i64 0, .int .i64 0, .int .i64 0] 85)
    have zth := io1 zgu z3t
    refine hK.out _ _ (by exact zaa (zgu.right.right)) fun hHeld => ?_
    clear hK K
    try simp only [sp]
    generalize World.alloc zqh (.cells #[.int .i64 0, .int .i64 0, .int .i64 0, .int .i64 0, .int .i64 0, .int .i64 0, .int .i64 0, .int .i64 0] 85) = z88 at *
    generalize zqh.heap.size = zma at *
    have zg0 := zgu
    have FA := zby zg0
    obtain ⟨f0, f1, f2, f3, f4, f5, f6, f7⟩ := FA
    have QA := nd8 zg0
    obtain ⟨q0, q1, q2, q3, q4, q5, q6, q7⟩ := QA
    have zep := zay (.int .i64 a1) (.int .i64 a2) (.int .i64 a3) (.int .i64 a4) (.int .i64 a5) (.int .i64 a6) (.int .i64 a7) (.int .i64 a8) zg0
    have FB := zby zep.right
    obtain ⟨g0, g1, g2, g3, g4, g5, g6, g7⟩ := FB
    have QB := nd8 zep.right
    obtain ⟨r0, r1', r2', r3, r4, r5, r6, r7⟩ := QB
    have zj3 := zaj (zay (.int .i64 c1) (.int .i64 c2) (.int .i64 c3) (.int .i64 c4) (.int .i64 c5) (.int .i64 c6) (.int .i64 c7) (.int .i64 c8) (zaj zep))
    have zmr := zac (b := zma) (.int .i64 a1) (.int .i64 a2) (.int .i64 a3) (.int .i64 a4) (.int .i64 a5) (.int .i64 a6) (.int .i64 a7) (.int .i64 a8) (zth)
    have zmf := zac (b := zsw) (.int .i64 c1) (.int .i64 c2) (.int .i64 c3) (.int .i64 c4) (.int .i64 c5) (.int .i64 c6) (.int .i64 c7) (.int .i64 c8) zmr
    refine rd [8] (rc fun K hK => ?_)
    go_simp
    refine hK.out _ _ (by exact zaa (zep.right.right)) fun hHeld => ?_
    clear hK K
    try simp only [sp]
    refine rd [9] (rc fun K hK => ?_)
    go_simp
    refine hK.out _ _ (by exact zaa (zj3.right.right)) fun hHeld => ?_
    clear hK K
    try simp only [sp]
    refine wpAnyH_done (by kernel_rfl) ?_ _
    go_wp2_with fail
    go_meet
    exact ⟨_, _, a1, a2, a3, a4, a5, a6, a7, a8, c1, c2, c3, c4, c5, c6, c7, c8, rfl, rfl, hA, hB, zj3, zmf⟩
   refine rn (fun K hK => ?_) ?_
   ·go_simp
    have zw9 := Hpc.new (.cells #[.int .i64 0, .int .i64 0, .int .i64 0, .int .i64 0, .int .i64 0, .int .i64 0, .int .i64 0, .int .i64 0] 85)
    have xad := io1 zw9 Jpc
    refine hK.out _ _ (by exact zaa (zw9.right)) fun hHeld => ?_
    clear hK K
    try simp only [sp]
    generalize World.alloc wpc (.cells #[.int .i64 0, .int .i64 0, .int .i64 0, .int .i64 0, .int .i64 0, .int .i64 0, .int .i64 0, .int .i64 0] 85) = z9g at *
    generalize wpc.heap.size = zs5 at *
    refine rd [5, 7] (rn (fun K hK => ?_) ?_)
    ·go_simp
     go_at_call 58; (with_reducible refine zav r r1 r2 AR hx (zaj zw9) ?_); intro c1 c2 c3 c4 c5 c6 c7 c8 zqk hB z3o ztu
     have zt0 := (zaj z3o)
     have z3x := (xad).trans ztu
     refine hK.out _ _ (by exact zaa (zt0.right)) fun hHeld => ?_
     clear hK K
     try simp only [sp]
     refine rd [7] (rc fun K hK => ?_)
     go_simp
     have zgx := zt0.new (.cells #[.int .i64 0, .int .i64 0, .int .i64 0, .int .i64 0, .int .i64 0, .int .i64 0, .int .i64 0, .int .i64 0] 85)
     have ztl := io1 zgx z3x
     refine hK.out _ _ (by exact zaa (zgx.right.right)) fun hHeld => ?_
     clear hK K
     try simp only [sp]
     generalize World.alloc zqk (.cells #[.int .i64 0, .int .i64 0, .int .i64 0, .int .i64 0, .int .i64 0, .int .i64 0, .int .i64 0, .int .i64 0] 85) = z9e at *
     generalize zqk.heap.size = zl8 at *
     have zg4 := (zaj zgx)
     have FA := zby zg4
     obtain ⟨f0, f1, f2, f3, f4, f5, f6, f7⟩ := FA
     have QA := nd8 zg4
     obtain ⟨q0, q1, q2, q3, q4, q5, q6, q7⟩ := QA
     have zet := zay (.int .i64 a1) (.int .i64 a2) (.int .i64 a3) (.int .i64 a4) (.int .i64 a5) (.int .i64 a6) (.int .i64 a7) (.int .i64 a8) zg4
     have FB := zby zet.right
     obtain ⟨g0, g1, g2, g3, g4, g5, g6, g7⟩ := FB
     have QB := nd8 zet.right
     obtain ⟨r0, r1', r2', r3, r4, r5, r6, r7⟩ := QB
     have zj7 := zaj (zay (.int .i64 c1) (.int .i64 c2) (.int .i64 c3) (.int .i64 c4) (.int .i64 c5) (.int .i64 c6) (.int .i64 c7) (.int .i64 c8) (zaj zet))
     have zmv := zac (b := zs5) (.int .i64 a1) (.int .i64 a2) (.int .i64 a3) (.int .i64 a4) (.int .i64 a5) (.int .i64 a6) (.int .i64 a7) (.int .i64 a8) (ztl)
     have zmj := zac (b := zl8) (.int .i64 c1) (.int .i64 c2) (.int .i64 c3) (.int .i64 c4) (.int .i64 c5) (.int .i64 c6) (.int .i64 c7) (.int .i64 c8) zmv
     refine rd [8] (rc fun K hK => ?_)
     go_simp
     refine hK.out _ _ (by exact zaa (zet.right.right)) fun hHeld => ?_
     clear hK K
     try simp only [sp]
     refine rd [9] (rc fun K hK => ?_)
     go_simp
     refine hK.out _ _ (by exact zaa (zj7.right.right)) fun hHeld => ?_
     clear hK K
     try simp only [sp]
     refine wpAnyH_done (by kernel_rfl) ?_ _
     go_wp2_with fail
     go_meet
     exact ⟨_, _, a1, a2, a3, a4, a5, a6, a7, a8, c1, c2, c3, c4, c5, c6, c7, c8, rfl, rfl, hA, hB, zj7, zmj⟩
    refine rc fun K hK => ?_
    go_simp
    have znc := zw9.new (.cells #[.int .i64 0, .int .i64 0, .int .i64 0, .int .i64 0, .int .i64 0, .int .i64 0, .int .i64 0, .int .i64 0] 85)
    have z3y := io1 znc xad
    refine hK.out _ _ (by exact zaa (znc.right.right)) fun hHeld => ?_
    clear hK K
    try simp only [sp]
    generalize World.alloc z9g (.cells #[.int .i64 0, .int .i64 0, .int .i64 0, .int .i64 0, .int .i64 0, .int .i64 0, .int .i64 0, .int .i64 0] 85) = wpcab at *
    generalize z9g.heap.size = zsy at *
    refine rd [5] (rc fun K hK => ?_)
    go_simp
    go_at_call 58; (with_reducible refine zav r r1 r2 AR hx (fr2 znc) ?_); intro c1 c2 c3 c4 c5 c6 c7 c8 z9f hB zs9 zm4
    have zjy := (bk2 zs9)
    have ztm := (z3y).trans zm4
    refine hK.out _ _ (by exact zaa (zjy.right.right)) fun hHeld => ?_
    clear hK K
    try simp only [sp]
    have zg5 := (zaj zjy)
    have FA := zby zg5
    obtain ⟨f0, f1, f2, f3, f4, f5, f6, f7⟩ := FA
    have QA := nd8 zg5
    obtain ⟨q0, q1, q2, q3, q4, q5, q6, q7⟩ := QA
    have zeu := zay (.int .i64 a1) (.int .i64 a2) (.int .i64 a3) (.int .i64 a4) (.int .i64 a5) (.int .i64 a6) (.int .i64 a7) (.int .i64 a8) zg5
    have FB := zby zeu.right
    obtain ⟨g0, g1, g2, g3, g4, g5, g6, g7⟩ := FB
    have QB := nd8 zeu.right
    obtain ⟨r0, r1', r2', r3, r4, r5, r6, r7⟩ := QB
    have zj8 := zaj (zay (.int .i64 c1) (.int .i64 c2) (.int .i64 c3) (.int .i64 c4) (.int .i64 c5) (.int .i64 c6) (.int .i64 c7) (.int .i64 c8) (zaj zeu))
    have zmw := zac (b := zs5) (.int .i64 a1) (.int .i64 a2) (.int .i64 a3) (.int .i64 a4) (.int .i64 a5) (.int .i64 a6) (.int .i64 a7) (.int .i64 a8) (ztm)
    have zmk := zac (b := zsy) (.int .i64 c1) (.int .i64 c2) (.int .i64 c3) (.int .i64 c4) (.int .i64 c5) (.int .i64 c6) (.int .i64 c7) (.int .i64 c8) zmw
    refine rd [8] (rc fun K hK => ?_)
    go_simp
    refine hK.out _ _ (by exact zaa (zeu.right.right)) fun hHeld => ?_
    clear hK K
    try simp only [sp]
    refine rd [9] (rc fun K hK => ?_)
    go_simp
    refine hK.out _ _ (by exact zaa (zj8.right.right)) fun hHeld => ?_
    clear hK K
    try simp only [sp]
    refine wpAnyH_done (by kernel_rfl) ?_ _
    go_wp2_with fail
    go_meet
    exact ⟨_, _, a1, a2, a3, a4, a5, a6, a7, a8, c1, c2, c3, c4, c5, c6, c7, c8, rfl, rfl, hA, hB, zj8, zmk⟩
   refine rc fun K hK => ?_
   go_simp
   have zw8 := Hpc.new (.cells #[.int .i64 0, .int .i64 0, .int .i64 0, .int .i64 0, .int .i64 0, .int .i64 0, .int .i64 0, .int .i64 0] 85)
   have xac := io1 zw8 Jpc
   refine hK.out _ _ (by exact zaa (zw8.right)) fun hHeld => ?_
   clear hK K
   try simp only [sp]
   generalize World.alloc wpc (.cells #[.int .i64 0, .int .i64 0, .int .i64 0, .int .i64 0, .int .i64 0, .int .i64 0, .int .i64 0, .int .i64 0] 85) = z9d at *
   generalize wpc.heap.size = zsx at *
   refine rd [5, 6] (rn (fun K hK => ?_) ?_)
   ·go_simp
    go_at_call 58; (with_reducible refine zav r r1 r2 AR hx (zaj zw8) ?_); intro c1 c2 c3 c4 c5 c6 c7 c8 zqj hB z3n ztt
    have ztz := (zaj z3n)
    have z3v := (xac).trans ztt
    refine hK.out _ _ (by exact zaa (ztz.right)) fun hHeld => ?_
    clear hK K
    try simp only [sp]
    refine rd [6] (rc fun K hK => ?_)
    go_simp
    have zgw := ztz.new (.cells #[.int .i64 0, .int .i64 0, .int .i64 0, .int .i64 0, .int .i64 0, .int .i64 0, .int .i64 0, .int .i64 0] 85)
    have ztj := io1 zgw z3v
    refine hK.out _ _ (by exact zaa (zgw.right.right)) fun hHeld => ?_
    clear hK K
    try simp only [sp]
    generalize World.alloc zqj (.cells #[.int .i64 0, .int .i64 0, .int .i64 0, .int .i64 0, .int .i64 0, .int .i64 0, .int .i64 0, .int .i64 0] 85) = z9b at *
    generalize zqj.heap.size = zmb at *
    have zg2 := zgw
    have FA := zby zg2
    obtain ⟨f0, f1, f2, f3, f4, f5, f6, f7⟩ := FA
    have QA := nd8 zg2
    obtain ⟨q0, q1, q2, q3, q4, q5, q6, q7⟩ := QA
    have zer := zay (.int .i64 a1) (.int .i64 a2) (.int .i64 a3) (.int .i64 a4) (.int .i64 a5) (.int .i64 a6) (.int .i64 a7) (.int .i64 a8) zg2
    have FB := zby zer.right
    obtain ⟨g0, g1, g2, g3, g4, g5, g6, g7⟩ := FB
    have QB := nd8 zer.right
    obtain ⟨r0, r1', r2', r3, r4, r5, r6, r7⟩ := QB
    have zj5 := zaj (zay (.int .i64 c1) (.int .i64 c2) (.int .i64 c3) (.int .i64 c4) (.int .i64 c5) (.int .i64 c6) (.int .i64 c7) (.int .i64 c8) (zaj zer))
    have zmt := zac (b := zmb) (.int .i64 a1) (.int .i64 a2) (.int .i64 a3) (.int .i64 a4) (.int .i64 a5) (.int .i64 a6) (.int .i64 a7) (.int .i64 a8) (ztj)
    have zmh := zac (b := zsx) (.int .i64 c1) (.int .i64 c2) (.int .i64 c3) (.int .i64 c4) (.int .i64 c5) (.int .i64 c6) (.int .i64 c7) (.int .i64 c8) zmt
    refine rd [8] (rc fun K hK => ?_)
    go_simp
    refine hK.out _ _ (by exact zaa (zer.right.right)) fun hHeld => ?_
    clear hK K
    try simp only [sp]
    refine rd [9] (rc fun K hK => ?_)
    go_simp
    refine hK.out _ _ (by exact zaa (zj5.right.right)) fun hHeld => ?_
    clear hK K
    try simp only [sp]
    refine wpAnyH_done (by kernel_rfl) ?_ _
    go_wp2_with fail
    go_meet
    exact ⟨_, _, a1, a2, a3, a4, a5, a6, a7, a8, c1, c2, c3, c4, c5, c6, c7, c8, rfl, rfl, hA, hB, zj5, zmh⟩
   refine rc fun K hK => ?_
   go_simp
   have znb := zw8.new (.cells #[.int .i64 0, .int .i64 0, .int .i64 0, .int .i64 0, .int .i64 0, .int .i64 0, .int .i64 0, .int .i64 0] 85)
   have z3w := io1 znb xac
   refine hK.out _ _ (by exact zaa (znb.right.right)) fun hHeld => ?_
   clear hK K
   try simp only [sp]
   generalize World.alloc z9d (.cells #[.int .i64 0, .int .i64 0, .int .i64 0, .int .i64 0, .int .i64 0, .int .i64 0, .int .i64 0, .int .i64 0] 85) = wpcba at *
   generalize z9d.heap.size = zs4 at *
   refine rd [5] (rc fun K hK => ?_)
   go_simp
   go_at_call 58; (with_reducible refine zav r r1 r2 AR hx (fr2 znb) ?_); intro c1 c2 c3 c4 c5 c6 c7 c8 z9c hB zs8 zm3
   have zjx := (bk2 zs8)
   have ztk := (z3w).trans zm3
   refine hK.out _ _ (by exact zaa (zjx.right.right)) fun hHeld => ?_
   clear hK K
   try simp only [sp]
   have zg3 := zjx
   have FA := zby zg3
   obtain ⟨f0, f1, f2, f3, f4, f5, f6, f7⟩ := FA
   have QA := nd8 zg3
   obtain ⟨q0, q1, q2, q3, q4, q5, q6, q7⟩ := QA
   have zes := zay (.int .i64 a1) (.int .i64 a2) (.int .i64 a3) (.int .i64 a4) (.int .i64 a5) (.int .i64 a6) (.int .i64 a7) (.int .i64 a8) zg3
   have FB := zby zes.right
   obtain ⟨g0, g1, g2, g3, g4, g5, g6, g7⟩ := FB
   have QB := nd8 zes.right
   obtain ⟨r0, r1', r2', r3, r4, r5, r6, r7⟩ := QB
   have zj6 := zaj (zay (.int .i64 c1) (.int .i64 c2) (.int .i64 c3) (.int .i64 c4) (.int .i64 c5) (.int .i64 c6) (.int .i64 c7) (.int .i64 c8) (zaj zes))
   have zmu := zac (b := zs4) (.int .i64 a1) (.int .i64 a2) (.int .i64 a3) (.int .i64 a4) (.int .i64 a5) (.int .i64 a6) (.int .i64 a7) (.int .i64 a8) (ztk)
   have zmi := zac (b := zsx) (.int .i64 c1) (.int .i64 c2) (.int .i64 c3) (.int .i64 c4) (.int .i64 c5) (.int .i64 c6) (.int .i64 c7) (.int .i64 c8) zmu
   refine rd [8] (rc fun K hK => ?_)
   go_simp
   refine hK.out _ _ (by exact zaa (zes.right.right)) fun hHeld => ?_
   clear hK K
   try simp only [sp]
   refine rd [9] (rc fun K hK => ?_)
   go_simp
   refine hK.out _ _ (by exact zaa (zj6.right.right)) fun hHeld => ?_
   clear hK K
   try simp only [sp]
   refine wpAnyH_done (by kernel_rfl) ?_ _
   go_wp2_with fail
   go_meet
   exact ⟨_, _, a1, a2, a3, a4, a5, a6, a7, a8, c1, c2, c3, c4, c5, c6, c7, c8, rfl, rfl, hA, hB, zj6, zmi⟩
  refine rn (fun K hK => ?_) ?_
  ·go_simp
   have Hpa := Kd.new (.cells #[.int .i64 0, .int .i64 0, .int .i64 0, .int .i64 0, .int .i64 0, .int .i64 0, .int .i64 0, .int .i64 0] 85)
   have Jpa := io1 Hpa Jd
   refine hK.out _ _ (by exact zaa (Hpa.right)) fun hHeld => ?_
   clear hK K
   try simp only [sp]
   generalize World.alloc wd (.cells #[.int .i64 0, .int .i64 0, .int .i64 0, .int .i64 0, .int .i64 0, .int .i64 0, .int .i64 0, .int .i64 0] 85) = wpa at *
   generalize wd.heap.size = z3d at *
   refine rd [2, 7] (rn (fun K hK => ?_) ?_)
   ·go_simp
    go_at_call 58; (with_reducible refine zav l l1 l2 AL hx (zaj Hpa) ?_); intro a1 a2 a3 a4 a5 a6 a7 a8 z9n hA Xpac z4i
    have z4m := (zaj Xpac)
    have xaf := (Jpa).trans z4i
    refine hK.out _ _ (by exact zaa (z4m.right)) fun hHeld => ?_
    clear hK K
    try simp only [sp]
    refine rd [5, 7] (rn (fun K hK => ?_) ?_)
    ·go_simp
     go_at_call 58; (with_reducible refine zav r r1 r2 AR hx (zaj z4m) ?_); intro c1 c2 c3 c4 c5 c6 c7 c8 zqm hB z3r ztx
     have zt3 := (zaj z3r)
     have z4c := (xaf).trans ztx
     refine hK.out _ _ (by exact zaa (zt3.right)) fun hHeld => ?_
     clear hK K
     try simp only [sp]
     refine rd [7] (rc fun K hK => ?_)
     go_simp
     have zgz := zt3.new (.cells #[.int .i64 0, .int .i64 0, .int .i64 0, .int .i64 0, .int .i64 0, .int .i64 0, .int .i64 0, .int .i64 0] 85)
     have ztq := io1 zgz z4c
     refine hK.out _ _ (by exact zaa (zgz.right.right)) fun hHeld => ?_
     clear hK K
     try simp only [sp]
     generalize World.alloc zqm (.cells #[.int .i64 0, .int .i64 0, .int .i64 0, .int .i64 0, .int .i64 0, .int .i64 0, .int .i64 0, .int .i64 0] 85) = z9l at *
     generalize zqm.heap.size = zl9 at *
     have zg9 := (zaj zgz)
     have FA := zby zg9
     obtain ⟨f0, f1, f2, f3, f4, f5, f6, f7⟩ := FA
     have QA := nd8 zg9
     obtain ⟨q0, q1, q2, q3, q4, q5, q6, q7⟩ := QA
     have zey := zay (.int .i64 a1) (.int .i64 a2) (.int .i64 a3) (.int .i64 a4) (.int .i64 a5) (.int .i64 a6) (.int .i64 a7) (.int .i64 a8) zg9
     have FB := zby zey.right
     obtain ⟨g0, g1, g2, g3, g4, g5, g6, g7⟩ := FB
     have QB := nd8 zey.right
     obtain ⟨r0, r1', r2', r3, r4, r5, r6, r7⟩ := QB
     have zkc := zaj (zay (.int .i64 c1) (.int .i64 c2) (.int .i64 c3) (.int .i64 c4) (.int .i64 c5) (.int .i64 c6) (.int .i64 c7) (.int .i64 c8) (zaj zey))
     have zm0 := zac (b := z3d) (.int .i64 a1) (.int .i64 a2) (.int .i64 a3) (.int .i64 a4) (.int .i64 a5) (.int .i64 a6) (.int .i64 a7) (.int .i64 a8) (ztq)
     have zmo := zac (b := zl9) (.int .i64 c1) (.int .i64 c2) (.int .i64 c3) (.int .i64 c4) (.int .i64 c5) (.int .i64 c6) (.int .i64 c7) (.int .i64 c8) zm0
     refine rd [8] (rc fun K hK => ?_)
     go_simp
     refine hK.out _ _ (by exact zaa (zey.right.right)) fun hHeld => ?_
     clear hK K
     try simp only [sp]
     refine rd [9] (rc fun K hK => ?_)
     go_simp
     refine hK.out _ _ (by exact zaa (zkc.right.right)) fun hHeld => ?_
     clear hK K
     try simp only [sp]
     refine wpAnyH_done (by kernel_rfl) ?_ _
     go_wp2_with fail
     go_meet
     exact ⟨_, _, a1, a2, a3, a4, a5, a6, a7, a8, c1, c2, c3, c4, c5, c6, c7, c8, rfl, rfl, hA, hB, zkc, zmo⟩
    refine rc fun K hK => ?_
    go_simp
    have zne := z4m.new (.cells #[.int .i64 0, .int .i64 0, .int .i64 0, .int .i64 0, .int .i64 0, .int .i64 0, .int .i64 0, .int .i64 0] 85)
    have z4d := io1 zne xaf
    refine hK.out _ _ (by exact zaa (zne.right.right)) fun hHeld => ?_
    clear hK K
    try simp only [sp]
    generalize World.alloc z9n (.cells #[.int .i64 0, .int .i64 0, .int .i64 0, .int .i64 0, .int .i64 0, .int .i64 0, .int .i64 0, .int .i64 0] 85) = wpacb at *
    generalize z9n.heap.size = zsz at *
    refine rd [5] (rc fun K hK => ?_)
    go_simp
    go_at_call 58; (with_reducible refine zav r r1 r2 AR hx (fr2 zne) ?_); intro c1 c2 c3 c4 c5 c6 c7 c8 z9m hB ztc zm7
    have zj1 := (bk2 ztc)
    have ztr := (z4d).trans zm7
    refine hK.out _ _ (by exact zaa (zj1.right.right)) fun hHeld => ?_
    clear hK K
    try simp only [sp]
    have zha := (zaj zj1)
    have FA := zby zha
    obtain ⟨f0, f1, f2, f3, f4, f5, f6, f7⟩ := FA
    have QA := nd8 zha
    obtain ⟨q0, q1, q2, q3, q4, q5, q6, q7⟩ := QA
    have zez := zay (.int .i64 a1) (.int .i64 a2) (.int .i64 a3) (.int .i64 a4) (.int .i64 a5) (.int .i64 a6) (.int .i64 a7) (.int .i64 a8) zha
    have FB := zby zez.right
    obtain ⟨g0, g1, g2, g3, g4, g5, g6, g7⟩ := FB
    have QB := nd8 zez.right
    obtain ⟨r0, r1', r2', r3, r4, r5, r6, r7⟩ := QB
    have zkd := zaj (zay (.int .i64 c1) (.int .i64 c2) (.int .i64 c3) (.int .i64 c4) (.int .i64 c5) (.int .i64 c6) (.int .i64 c7) (.int .i64 c8) (zaj zez))
    have zm1 := zac (b := z3d) (.int .i64 a1) (.int .i64 a2) (.int .i64 a3) (.int .i64 a4) (.int .i64 a5) (.int .i64 a6) (.int .i64 a7) (.int .i64 a8) (ztr)
    have zmp := zac (b := zsz) (.int .i64 c1) (.int .i64 c2) (.int .i64 c3) (.int .i64 c4) (.int .i64 c5) (.int .i64 c6) (.int .i64 c7) (.int .i64 c8) zm1
    refine rd [8] (rc fun K hK => ?_)
    go_simp
    refine hK.out _ _ (by exact zaa (zez.right.right)) fun hHeld => ?_
    clear hK K
    try simp only [sp]
    refine rd [9] (rc fun K hK => ?_)
    go_simp
    refine hK.out _ _ (by exact zaa (zkd.right.right)) fun hHeld => ?_
    clear hK K
    try simp only [sp]
    refine wpAnyH_done (by kernel_rfl) ?_ _
    go_wp2_with fail
    go_meet
    exact ⟨_, _, a1, a2, a3, a4, a5, a6, a7, a8, c1, c2, c3, c4, c5, c6, c7, c8, rfl, rfl, hA, hB, zkd, zmp⟩
   refine rc fun K hK => ?_
   go_simp
   have z4n := Hpa.new (.cells #[.int .i64 0, .int .i64 0, .int .i64 0, .int .i64 0, .int .i64 0, .int .i64 0, .int .i64 0, .int .i64 0] 85)
   have Jpab := io1 z4n Jpa
   refine hK.out _ _ (by exact zaa (z4n.right.right)) fun hHeld => ?_
   clear hK K
   try simp only [sp]
   generalize World.alloc wpa (.cells #[.int .i64 0, .int .i64 0, .int .i64 0, .int .i64 0, .int .i64 0, .int .i64 0, .int .i64 0, .int .i64 0] 85) = wpab at *
   generalize wpa.heap.size = z3b at *
   refine rd [2] (rc fun K hK => ?_)
   go_simp
   go_at_call 58; (with_reducible refine zav l l1 l2 AL hx (fr2 z4n) ?_); intro a1 a2 a3 a4 a5 a6 a7 a8 wpabc hA z3s zty
   have zt4 := (bk2 z3s)
   have z4e := (Jpab).trans zty
   refine hK.out _ _ (by exact zaa (zt4.right.right)) fun hHeld => ?_
   clear hK K
   try simp only [sp]
   refine rd [5] (rc fun K hK => ?_)
   go_simp
   go_at_call 58; (with_reducible refine zav r r1 r2 AR hx (fr2 zt4) ?_); intro c1 c2 c3 c4 c5 c6 c7 c8 z9o hB ztd zm8
   have zj2 := (bk2 ztd)
   have zts := (z4e).trans zm8
   refine hK.out _ _ (by exact zaa (zj2.right.right)) fun hHeld => ?_
   clear hK K
   try simp only [sp]
   have zhb := (zaj zj2)
   have FA := zby zhb
   obtain ⟨f0, f1, f2, f3, f4, f5, f6, f7⟩ := FA
   have QA := nd8 zhb
   obtain ⟨q0, q1, q2, q3, q4, q5, q6, q7⟩ := QA
   have ze0 := zay (.int .i64 a1) (.int .i64 a2) (.int .i64 a3) (.int .i64 a4) (.int .i64 a5) (.int .i64 a6) (.int .i64 a7) (.int .i64 a8) zhb
   have FB := zby ze0.right
   obtain ⟨g0, g1, g2, g3, g4, g5, g6, g7⟩ := FB
   have QB := nd8 ze0.right
   obtain ⟨r0, r1', r2', r3, r4, r5, r6, r7⟩ := QB
   have zke := zaj (zay (.int .i64 c1) (.int .i64 c2) (.int .i64 c3) (.int .i64 c4) (.int .i64 c5) (.int .i64 c6) (.int .i64 c7) (.int .i64 c8) (zaj ze0))
   have zm2 := zac (b := z3d) (.int .i64 a1) (.int .i64 a2) (.int .i64 a3) (.int .i64 a4) (.int .i64 a5) (.int .i64 a6) (.int .i64 a7) (.int .i64 a8) (zts)
   have zmq := zac (b := z3b) (.int .i64 c1) (.int .i64 c2) (.int .i64 c3) (.int .i64 c4) (.int .i64 c5) (.int .i64 c6) (.int .i64 c7) (.int .i64 c8) zm2
   refine rd [8] (rc fun K hK => ?_)
   go_simp
   refine hK.out _ _ (by exact zaa (ze0.right.right)) fun hHeld => ?_
   clear hK K
   try simp only [sp]
   refine rd [9] (rc fun K hK => ?_)
   go_simp
   refine hK.out _ _ (by exact zaa (zke.right.right)) fun hHeld => ?_
   clear hK K
   try simp only [sp]
   refine wpAnyH_done (by kernel_rfl) ?_ _
   go_wp2_with fail
   go_meet
   exact ⟨_, _, a1, a2, a3, a4, a5, a6, a7, a8, c1, c2, c3, c4, c5, c6, c7, c8, rfl, rfl, hA, hB, zke, zmq⟩
  refine rc fun K hK => ?_
  go_simp
  have Hpb := Kd.new (.cells #[.int .i64 0, .int .i64 0, .int .i64 0, .int .i64 0, .int .i64 0, .int .i64 0, .int .i64 0, .int .i64 0] 85)
  have Jpb := io1 Hpb Jd
  refine hK.out _ _ (by exact zaa (Hpb.right)) fun hHeld => ?_
  clear hK K
  try simp only [sp]
  generalize World.alloc wd (.cells #[.int .i64 0, .int .i64 0, .int .i64 0, .int .i64 0, .int .i64 0, .int .i64 0, .int .i64 0, .int .i64 0] 85) = wpb at *
  generalize wd.heap.size = z3a at *
  refine rd [2, 6] (rn (fun K hK => ?_) ?_)
  ·go_simp
   go_at_call 58; (with_reducible refine zav l l1 l2 AL hx (zaj Hpb) ?_); intro a1 a2 a3 a4 a5 a6 a7 a8 z9j hA Xpbc z4h
   have z4k := (zaj Xpbc)
   have xae := (Jpb).trans z4h
   refine hK.out _ _ (by exact zaa (z4k.right)) fun hHeld => ?_
   clear hK K
   try simp only [sp]
   refine rd [5, 6] (rn (fun K hK => ?_) ?_)
   ·go_simp
    go_at_call 58; (with_reducible refine zav r r1 r2 AR hx (zaj z4k) ?_); intro c1 c2 c3 c4 c5 c6 c7 c8 zql hB z3p ztv
    have zt1 := (zaj z3p)
    have z3z := (xae).trans ztv
    refine hK.out _ _ (by exact zaa (zt1.right)) fun hHeld => ?_
    clear hK K
    try simp only [sp]
    refine rd [6] (rc fun K hK => ?_)
    go_simp
    have zgy := zt1.new (.cells #[.int .i64 0, .int .i64 0, .int .i64 0, .int .i64 0, .int .i64 0, .int .i64 0, .int .i64 0, .int .i64 0] 85)
    have ztn := io1 zgy z3z
    refine hK.out _ _ (by exact zaa (zgy.right.right)) fun hHeld => ?_
    clear hK K
    try simp only [sp]
    generalize World.alloc zql (.cells #[.int .i64 0, .int .i64 0, .int .i64 0, .int .i64 0, .int .i64 0, .int .i64 0, .int .i64 0, .int .i64 0] 85) = z9h at *
    generalize zql.heap.size = zmc at *
    have zg6 := zgy
    have FA := zby zg6
    obtain ⟨f0, f1, f2, f3, f4, f5, f6, f7⟩ := FA
    have QA := nd8 zg6
    obtain ⟨q0, q1, q2, q3, q4, q5, q6, q7⟩ := QA
    have zev := zay (.int .i64 a1) (.int .i64 a2) (.int .i64 a3) (.int .i64 a4) (.int .i64 a5) (.int .i64 a6) (.int .i64 a7) (.int .i64 a8) zg6
    have FB := zby zev.right
    obtain ⟨g0, g1, g2, g3, g4, g5, g6, g7⟩ := FB
    have QB := nd8 zev.right
    obtain ⟨r0, r1', r2', r3, r4, r5, r6, r7⟩ := QB
    have zj9 := zaj (zay (.int .i64 c1) (.int .i64 c2) (.int .i64 c3) (.int .i64 c4) (.int .i64 c5) (.int .i64 c6) (.int .i64 c7) (.int .i64 c8) (zaj zev))
    have zmx := zac (b := zmc) (.int .i64 a1) (.int .i64 a2) (.int .i64 a3) (.int .i64 a4) (.int .i64 a5) (.int .i64 a6) (.int .i64 a7) (.int .i64 a8) (ztn)
    have zml := zac (b := z3a) (.int .i64 c1) (.int .i64 c2) (.int .i64 c3) (.int .i64 c4) (.int .i64 c5) (.int .i64 c6) (.int .i64 c7) (.int .i64 c8) zmx
    refine rd [8] (rc fun K hK => ?_)
    go_simp
    refine hK.out _ _ (by exact zaa (zev.right.right)) fun hHeld => ?_
    clear hK K
    try simp only [sp]
    refine rd [9] (rc fun K hK => ?_)
    go_simp
    refine hK.out _ _ (by exact zaa (zj9.right.right)) fun hHeld => ?_
    clear hK K
    try simp only [sp]
    refine wpAnyH_done (by kernel_rfl) ?_ _
    go_wp2_with fail
    go_meet
    exact ⟨_, _, a1, a2, a3, a4, a5, a6, a7, a8, c1, c2, c3, c4, c5, c6, c7, c8, rfl, rfl, hA, hB, zj9, zml⟩
   refine rc fun K hK => ?_
   go_simp
   have znd := z4k.new (.cells #[.int .i64 0, .int .i64 0, .int .i64 0, .int .i64 0, .int .i64 0, .int .i64 0, .int .i64 0, .int .i64 0] 85)
   have z4a := io1 znd xae
   refine hK.out _ _ (by exact zaa (znd.right.right)) fun hHeld => ?_
   clear hK K
   try simp only [sp]
   generalize World.alloc z9j (.cells #[.int .i64 0, .int .i64 0, .int .i64 0, .int .i64 0, .int .i64 0, .int .i64 0, .int .i64 0, .int .i64 0] 85) = wpbca at *
   generalize z9j.heap.size = zs6 at *
   refine rd [5] (rc fun K hK => ?_)
   go_simp
   go_at_call 58; (with_reducible refine zav r r1 r2 AR hx (fr2 znd) ?_); intro c1 c2 c3 c4 c5 c6 c7 c8 z9i hB zta zm5
   have zjz := (bk2 zta)
   have zto := (z4a).trans zm5
   refine hK.out _ _ (by exact zaa (zjz.right.right)) fun hHeld => ?_
   clear hK K
   try simp only [sp]
   have zg7 := zjz
   have FA := zby zg7
   obtain ⟨f0, f1, f2, f3, f4, f5, f6, f7⟩ := FA
   have QA := nd8 zg7
   obtain ⟨q0, q1, q2, q3, q4, q5, q6, q7⟩ := QA
   have zew := zay (.int .i64 a1) (.int .i64 a2) (.int .i64 a3) (.int .i64 a4) (.int .i64 a5) (.int .i64 a6) (.int .i64 a7) (.int .i64 a8) zg7
   have FB := zby zew.right
   obtain ⟨g0, g1, g2, g3, g4, g5, g6, g7⟩ := FB
   have QB := nd8 zew.right
   obtain ⟨r0, r1', r2', r3, r4, r5, r6, r7⟩ := QB
   have zka := zaj (zay (.int .i64 c1) (.int .i64 c2) (.int .i64 c3) (.int .i64 c4) (.int .i64 c5) (.int .i64 c6) (.int .i64 c7) (.int .i64 c8) (zaj zew))
   have zmy := zac (b := zs6) (.int .i64 a1) (.int .i64 a2) (.int .i64 a3) (.int .i64 a4) (.int .i64 a5) (.int .i64 a6) (.int .i64 a7) (.int .i64 a8) (zto)
   have zmm := zac (b := z3a) (.int .i64 c1) (.int .i64 c2) (.int .i64 c3) (.int .i64 c4) (.int .i64 c5) (.int .i64 c6) (.int .i64 c7) (.int .i64 c8) zmy
   refine rd [8] (rc fun K hK => ?_)
   go_simp
   refine hK.out _ _ (by exact zaa (zew.right.right)) fun hHeld => ?_
   clear hK K
   try simp only [sp]
   refine rd [9] (rc fun K hK => ?_)
   go_simp
   refine hK.out _ _ (by exact zaa (zka.right.right)) fun hHeld => ?_
   clear hK K
   try simp only [sp]
   refine wpAnyH_done (by kernel_rfl) ?_ _
   go_wp2_with fail
   go_meet
   exact ⟨_, _, a1, a2, a3, a4, a5, a6, a7, a8, c1, c2, c3, c4, c5, c6, c7, c8, rfl, rfl, hA, hB, zka, zmm⟩
  refine rc fun K hK => ?_
  go_simp
  have z4l := Hpb.new (.cells #[.int .i64 0, .int .i64 0, .int .i64 0, .int .i64 0, .int .i64 0, .int .i64 0, .int .i64 0, .int .i64 0] 85)
  have Jpba := io1 z4l Jpb
  refine hK.out _ _ (by exact zaa (z4l.right.right)) fun hHeld => ?_
  clear hK K
  try simp only [sp]
  generalize World.alloc wpb (.cells #[.int .i64 0, .int .i64 0, .int .i64 0, .int .i64 0, .int .i64 0, .int .i64 0, .int .i64 0, .int .i64 0] 85) = wpba at *
  generalize wpb.heap.size = z3c at *
  refine rd [2] (rc fun K hK => ?_)
  go_simp
  go_at_call 58; (with_reducible refine zav l l1 l2 AL hx (fr2 z4l) ?_); intro a1 a2 a3 a4 a5 a6 a7 a8 wpbac hA z3q ztw
  have zt2 := (bk2 z3q)
  have z4b := (Jpba).trans ztw
  refine hK.out _ _ (by exact zaa (zt2.right.right)) fun hHeld => ?_
  clear hK K
  try simp only [sp]
  refine rd [5] (rc fun K hK => ?_)
  go_simp
  go_at_call 58; (with_reducible refine zav r r1 r2 AR hx (fr2 zt2) ?_); intro c1 c2 c3 c4 c5 c6 c7 c8 z9k hB ztb zm6
  have zj0 := (bk2 ztb)
  have ztp := (z4b).trans zm6
  refine hK.out _ _ (by exact zaa (zj0.right.right)) fun hHeld => ?_
  clear hK K
  try simp only [sp]
  have zg8 := zj0
  have FA := zby zg8
  obtain ⟨f0, f1, f2, f3, f4, f5, f6, f7⟩ := FA
  have QA := nd8 zg8
  obtain ⟨q0, q1, q2, q3, q4, q5, q6, q7⟩ := QA
  have zex := zay (.int .i64 a1) (.int .i64 a2) (.int .i64 a3) (.int .i64 a4) (.int .i64 a5) (.int .i64 a6) (.int .i64 a7) (.int .i64 a8) zg8
  have FB := zby zex.right
  obtain ⟨g0, g1, g2, g3, g4, g5, g6, g7⟩ := FB
  have QB := nd8 zex.right
  obtain ⟨r0, r1', r2', r3, r4, r5, r6, r7⟩ := QB
  have zkb := zaj (zay (.int .i64 c1) (.int .i64 c2) (.int .i64 c3) (.int .i64 c4) (.int .i64 c5) (.int .i64 c6) (.int .i64 c7) (.int .i64 c8) (zaj zex))
  have zmz := zac (b := z3c) (.int .i64 a1) (.int .i64 a2) (.int .i64 a3) (.int .i64 a4) (.int .i64 a5) (.int .i64 a6) (.int .i64 a7) (.int .i64 a8) (ztp)
  have zmn := zac (b := z3a) (.int .i64 c1) (.int .i64 c2) (.int .i64 c3) (.int .i64 c4) (.int .i64 c5) (.int .i64 c6) (.int .i64 c7) (.int .i64 c8) zmz
  refine rd [8] (rc fun K hK => ?_)
  go_simp
  refine hK.out _ _ (by exact zaa (zex.right.right)) fun hHeld => ?_
  clear hK K
  try simp only [sp]
  refine rd [9] (rc fun K hK => ?_)
  go_simp
  refine hK.out _ _ (by exact zaa (zkb.right.right)) fun hHeld => ?_
  clear hK K
  try simp only [sp]
  refine wpAnyH_done (by kernel_rfl) ?_ _
  go_wp2_with fail
  go_meet
  exact ⟨_, _, a1, a2, a3, a4, a5, a6, a7, a8, c1, c2, c3, c4, c5, c6, c7, c8, rfl, rfl, hA, hB, zkb, zmn⟩
 case rest =>
  obtain ⟨b9, b10, a1, a2, a3, a4, a5, a6, a7, a8, c1, c2, c3, c4, c5, c6, c7, c8, rfl, rfl, hA, hB, K2, J2⟩ := hcut
  cases m with
  | none =>
   obtain ⟨t, ht⟩ := Sq.z2y l (k1, k2) r bal.out.1 bal.out.2.1 bal.out.2.2.1 bal.out.2.2.2
   obtain ⟨y0, y1⟩ := znq (fr2 K2)
   go_upto_region 3 with fail
   clear y0 y1
   go_wp2_with (go_at_call 46; (with_reducible refine zan K2 ?_); intro w3 H3 I3; obtain ⟨f0, f1⟩ := zfr H3.right.right.right; obtain ⟨g0, g1⟩ := tk2 H3.right.right.right; have KE := zcu (.int .i64 4294967295) (.int .i64 4294967295) (ze3 H3); have JE := zax (b := bx + 3) (.int .i64 4294967295) (.int .i64 4294967295) (J2.trans I3); obtain ⟨q0, q1⟩ := tk2 KE)
   have FIN := L_ (HH.out none 4294967295 4294967295 t _ (L_ ⟨ht, fr.out.bad ht, fun M' h => nomatch h⟩) (zoz KE) JE)
   have hag := Tryz.isAgg29
   have hsz := Tryz.sizeOf29
   exact bodyPost_ret (v := tkA 4294967295 4294967295) (by simp [results, Tryz.results83, go_sem, q0, q1]) rfl FIN.out
  | some M =>
   obtain rfl : a8 = (l.ht : Int) := hA.out.ht.1
   obtain rfl : c8 = (r.ht : Int) := hB.out.ht.1
   obtain ⟨al1, al2⟩ := al.out M rfl
   have EL := L_ al1
   have ER := L_ al2
   clear al1 al2
   have zvh := (fr.out.toks (t := l) (by simp)).2.1
   have zvg := (fr.out.toks (t := r) (by simp)).2.1
   have hlc := l.zdw
   have hrc := r.zdw
   have wr1 : IntKind.i64.wrap ((r.ht : Int) + 1) = (r.ht : Int) + 1 := wrap_in (by omega) (by omega)
   have wr2 : IntKind.i64.wrap ((l.ht : Int) + 1) = (l.ht : Int) + 1 := wrap_in (by omega) (by omega)
   obtain ⟨y0, y1⟩ := zb3 (fr2 K2)
   have YA := nd8 K2
   obtain ⟨-, -, -, -, -, -, -, ya⟩ := YA
   have YB := nd8 K2.right
   obtain ⟨-, -, -, -, -, -, -, yb⟩ := YB
   by_cases c1 : r.ht + 1 < l.ht
   ·have g1 : (r.ht : Int) + 1 < (l.ht : Int) := by omega
    cases l with
    | nil => simp [Sq.T.ht] at c1
    | node a xx b =>
     obtain ⟨kA, kB⟩ := hA.out.kids
     have EA : Hid ((a3, a4) = a.top) := L_ kA
     have EB : Hid ((a5, a6) = b.top) := L_ kB
     have HX : Hid ((l1, l2) = xx) := L_ EL.out
     have HT : Hid ((Sq.T.node a xx b).ht = r.ht + 2) := L_ (by have := bal.out.2.2.1; omega)
     clear kA kB
     go_upto_region 5 with fail
     clear y0 y1 ya yb wr1 wr2 zvh zvg hlc hrc
     have FLD := zwx
     have F0 : Hid (Fr m0 (some M) all (a :: b :: r :: ts) (xx :: (k1, k2) :: ks)) := L_ (fr.out.open)
     have AA : Hid (Sq.zki (some M) a (a3, a4)) := L_ (F0.out.arg (by simp) EA.out)
     have AB : Hid (Sq.zki (some M) b (a5, a6)) := L_ (F0.out.arg (by simp) EB.out)
     have Kd := K2.drew
     have Jd := J2.drew
     clear K2 J2 hA hB
     have S0 := zat Kd
     by_cases hcc : b.ht ≤ a.ht
     ·have HC : Hid (b.ht ≤ a.ht) := L_ hcc
      have ci : (b.ht : Int) ≤ (a.ht : Int) := by omega
      have cd : decide ((b.ht : Int) ≤ (a.ht : Int)) = true := decide_eq_true (by omega)
      refine rh Kd (fun W Kd => zat Kd) fun hHeld => ?_
      refine tk ?_ ?_ [0, 1, 2, 5, 6, 7] ?_ hHeld ?_; rotate_left 2; exact tt
      refine rd [3] (rc fun K hK => ?_)
      go_simp
      go_at_call 58; (with_reducible refine zgg a a3 a4 AA hx (fr2 Kd) ?_); intro _ _ _ _ _ _ _ w3 _ Xw3 Iw3; have Hw3 := bk2 Xw3
      refine hK.out _ _ (by exact zat Hw3) fun hHeld => ?_
      clear hK K
      try simp only [sp]
      refine tk ?_ ?_ [4] ?_ hHeld ?_; rotate_left 2; exact tt
      refine rd [8] (rc fun K hK => ?_)
      go_simp
      go_at_call 58; (with_reducible refine zgg b a5 a6 AB hx (fr2 Hw3) ?_); intro _ _ _ _ _ _ _ w4 _ Xw4 Iw4; have Hw4 := bk2 Xw4
      refine hK.out _ _ (by exact zat Hw4) fun hHeld => ?_
      clear hK K
      try simp only [sp]
      refine tk ?_ ?_ [9, 10] ?_ hHeld ?_; rotate_left 2; exact tt
      refine wpAnyH_done (by kernel_rfl) ?_ _
      go_upto_region 6 with fail
      have Ke := Hw4.drew
      have S5 := zat Ke
      have F1 : Hid (Fr m0 (some M) all (b :: r :: a :: ts) ((k1, k2) :: xx :: ks)) := L_ ((F0.out.perm (Sq.p3 a b r ts) (Sq.pa _ _ _)))
      clear S0 cd ci hcc
      refine rh Ke (fun W Ke => zat Ke) fun hHeld => ?_
      refine tk ?_ ?_ [0, 1, 2, 3, 4, 5, 6, 7, 8] ?_ hHeld ?_; rotate_left 2; exact tt
      refine rd [9] (rc fun K hK => ?_)
      go_simp
      go_at_call 45; (with_reducible refine zyu b r k1 k2 a5 a6 r1 r2 EB ER F1 hx (fr2 Ke) ?_); intro mw5 w5 xbt Xw5 Iw5; have Hw5 := bk2 Xw5; have F2 : Hid (Fr m0 mw5 all (a :: Sq.T.node b (k1, k2) r :: ts) ((l1, l2) :: ks)) := L_ (by rw [HX.out]; exact xbt.out.1.perm (Sq.pa _ _ _) (List.Perm.refl _))
      refine hK.out _ _ (by exact zat Hw5) fun hHeld => ?_
      clear hK K
      try simp only [sp]
      refine rd [10] (rc fun K hK => ?_)
      go_simp
      go_at_call 45; (with_reducible refine zyu a _ l1 l2 a3 a4 k1 k2 EA (L_ rfl) F2 hx (fr2 Hw5) ?_); intro mw6 w6 z7o Xw6 Iw6; have Hw6 := bk2 Xw6; have FF := zfr Hw6.right.right.right; obtain ⟨f0, f1⟩ := FF; have GG := tk2 Hw6.right.right.right; obtain ⟨g0, g1⟩ := GG; have KE := zhh (zcu (.int .i64 l1) (.int .i64 l2) (ze3 Hw6)); have JE := zax (b := bx + 3) (.int .i64 l1) (.int .i64 l2) (((((Jd.trans Iw3).trans Iw4).drew.trans Iw5).trans Iw6))
      refine hK.out _ _ (by exact zat Hw6) fun hHeld => ?_
      clear hK K
      try simp only [sp]
      refine rd [11] (rc fun K hK => ?_)
      go_simp
      refine hK.out _ _ (by exact zat KE) fun hHeld => ?_
      clear hK K
      try simp only [sp]
      refine wpAnyH_done (by kernel_rfl) ?_ _
      have QQ := tk2 KE.right.right.right
      obtain ⟨q0, q1⟩ := QQ
      have FIN := L_ (HH.out mw6 l1 l2 (.node a xx (.node b (k1, k2) r)) _ (L_ ⟨Sq.Lk.left1 bal.out.1 bal.out.2.1 HT.out HC.out, (by have := z7o.out.1; rw [HX.out] at this; exact this), (fun M' h => ⟨HX.out, by have := z7o.out.2 M' h; rw [HX.out] at this; exact this⟩)⟩) (end2 KE) JE)
      go_wp2_with fail
      have hag := Tryz.isAgg29
      have hsz := Tryz.sizeOf29
      exact bodyPost_ret (v := tkA l1 l2) (by simp [results, Tryz.results83, go_sem, q0, q1]) rfl FIN.out
     ·have HC : Hid (a.ht < b.ht) := L_ (by omega)
      have ci : ¬ ((b.ht : Int) ≤ (a.ht : Int)) := by omega
      have cd : decide ((b.ht : Int) ≤ (a.ht : Int)) = false := decide_eq_false (by omega)
      refine wp_region_held_drew (S := (fun W => (((W.cell? ⟨bx, 0, none⟩ = some (.int .i64 k1) ∧ W.cell? ⟨bx, 1, none⟩ = some (.int .i64 k2)) ∧ (W.cell? ⟨bx + 1, 0, none⟩ = some (.int .i64 l1) ∧ W.cell? ⟨bx + 1, 1, none⟩ = some (.int .i64 l2)) ∧ (W.cell? ⟨bx + 2, 0, none⟩ = some (.int .i64 r1) ∧ W.cell? ⟨bx + 2, 1, none⟩ = some (.int .i64 r2))) ∧ (W.cell? ⟨b9, 2, none⟩ = some (.int .i64 a3) ∧ W.cell? ⟨b9, 3, none⟩ = some (.int .i64 a4) ∧ W.cell? ⟨b9, 4, none⟩ = some (.int .i64 a5) ∧ W.cell? ⟨b9, 5, none⟩ = some (.int .i64 a6)) ∧ (W.cell? ⟨b10, 2, none⟩ = some (.int .i64 c3) ∧ W.cell? ⟨b10, 3, none⟩ = some (.int .i64 c4) ∧ W.cell? ⟨b10, 4, none⟩ = some (.int .i64 c5) ∧ W.cell? ⟨b10, 5, none⟩ = some (.int .i64 c6))))) (by kernel_rfl) (by exact S0) (fun hHeld => ?_)
      refine tk ?_ ?_ [0, 1, 2, 5, 6, 7] ?_ hHeld ?_; rotate_left 2; exact tt
      refine rd [3] (rc fun K hK => ?_)
      go_simp
      go_at_call 58; (with_reducible refine zgg a a3 a4 AA hx (fr2 Kd) ?_); intro _ _ _ _ _ _ _ w3 _ Xw3 Iw3; have Hw3 := bk2 Xw3
      refine hK.out _ _ (by exact zat Hw3) fun hHeld => ?_
      clear hK K
      try simp only [sp]
      refine tk ?_ ?_ [4] ?_ hHeld ?_; rotate_left 2; exact tt
      refine rd [8] (rc fun K hK => ?_)
      go_simp
      go_at_call 58; (with_reducible refine zgg b a5 a6 AB hx (fr2 Hw3) ?_); intro _ _ _ _ _ _ _ w4 _ Xw4 Iw4; have Hw4 := bk2 Xw4
      refine hK.out _ _ (by exact zat Hw4) fun hHeld => ?_
      clear hK K
      try simp only [sp]
      refine tk ?_ ?_ [9, 10] ?_ hHeld ?_; rotate_left 2; exact tt
      refine wpAnyH_done (by kernel_rfl) ?_ _
      clear cd ci hcc
      cases b with
      | nil => exact absurd HC.out (Nat.not_lt_zero _)
      | node c y d =>
       have HY : Hid ((a5, a6) = y) := L_ EB.out
       go_upto_region 7 with fail
       have ZZ := zat Hw4
       obtain ⟨-, ⟨z2, z3, z4, z5⟩, ⟨z6, z7, z8, z9⟩⟩ := ZZ
       go_upto_region 8 with (go_at_call 58; (with_reducible refine zav (Sq.T.node c y d) a5 a6 AB hx (fr2 Hw4) ?_); intro e1 e2 e3 e4 e5 e6 e7 e8 w8 hE X8 I8; have K8 := (bk2 X8).new (.cells #[.int .i64 e1, .int .i64 e2, .int .i64 e3, .int .i64 e4, .int .i64 e5, .int .i64 e6, .int .i64 e7, .int .i64 e8] 85); have J8 := I8.alloc (.cells #[.int .i64 e1, .int .i64 e2, .int .i64 e3, .int .i64 e4, .int .i64 e5, .int .i64 e6, .int .i64 e7, .int .i64 e8] 85))
       clear z2 z3 z4 z5 z6 z7 z8 z9 S0
       obtain ⟨kC, kD⟩ := hE.out.kids
       have EC : Hid ((e3, e4) = c.top) := L_ kC
       have ED : Hid ((e5, e6) = d.top) := L_ kD
       have HL2 : Hid ((l1, l2) = (Sq.T.node a (l1, l2) c).top) := L_ rfl
       have F1 : Hid (Fr m0 (some M) all (a :: c :: d :: r :: ts) ((l1, l2) :: (k1, k2) :: y :: ks)) := L_ (by rw [HX.out]; exact (((F0.out.perm (Sq.pa _ _ _) (List.Perm.refl _)).open).perm ((List.Perm.trans (Sq.p3 c d a (r :: ts)) (Sq.p3 d a c (r :: ts))).trans (Sq.pb a c d (r :: ts) |>.trans (Sq.pb a d c (r :: ts)))) (Sq.p3 y xx (k1, k2) ks)))
       clear kC kD hE X8 I8
       generalize w8.alloc _ = w9 at *
       generalize w8.heap.size = b11 at *
       have Ke := K8.drew
       have S5 := zcc Ke
       clear K8
       refine rh Ke (fun W Ke => zcc Ke) fun hHeld => ?_
       refine tk ?_ ?_ [0, 1, 2, 3, 4, 5, 6, 7, 8, 10, 11, 12, 13, 14] ?_ hHeld ?_; rotate_left 2; exact tt
       refine rd [9] (rc fun K hK => ?_)
       go_simp
       go_at_call 45; (with_reducible refine zyu a c l1 l2 a3 a4 e3 e4 EA EC F1 hx (fr3 Ke) ?_); intro mw5 w5 xbt Xw5 Iw5; have Hw5 := bk3 Xw5; have F2 : Hid (Fr m0 mw5 all (d :: r :: Sq.T.node a (l1, l2) c :: ts) ((k1, k2) :: y :: ks)) := L_ (xbt.out.1.perm (Sq.p3 _ _ _ _) (List.Perm.refl _))
       refine hK.out _ _ (by exact zcc Hw5) fun hHeld => ?_
       clear hK K
       try simp only [sp]
       refine rd [15] (rc fun K hK => ?_)
       go_simp
       go_at_call 45; (with_reducible refine zyu d r k1 k2 e5 e6 r1 r2 ED ER F2 hx (fr3 Hw5) ?_); intro mw6 w6 z7o Xw6 Iw6; have Hw6 := bk3 Xw6; have F3 : Hid (Fr m0 mw6 all (Sq.T.node a (l1, l2) c :: Sq.T.node d (k1, k2) r :: ts) ((a5, a6) :: ks)) := L_ (by rw [HY.out]; exact z7o.out.1.perm (Sq.pa _ _ _) (List.Perm.refl _))
       refine hK.out _ _ (by exact zcc Hw6) fun hHeld => ?_
       clear hK K
       try simp only [sp]
       refine rd [16] (rc fun K hK => ?_)
       go_simp
       go_at_call 45; (with_reducible refine zyu _ _ a5 a6 l1 l2 k1 k2 HL2 (L_ rfl) F3 hx (fr3 Hw6) ?_); intro mw7 w7 hmw7 Xw7 Iw7; have Hw7 := bk3 Xw7; have FF := zfr Hw7.right.right.right.right; obtain ⟨f0, f1⟩ := FF; have GG := tk2 Hw7.right.right.right.right; obtain ⟨g0, g1⟩ := GG; have KE := zrd (zcu (.int .i64 a5) (.int .i64 a6) (res3 Hw7)); have JE := zax (b := bx + 3) (.int .i64 a5) (.int .i64 a6) ((((((Jd.trans Iw3).trans Iw4).trans J8).drew.trans Iw5).trans Iw6).trans Iw7)
       refine hK.out _ _ (by exact zcc Hw7) fun hHeld => ?_
       clear hK K
       try simp only [sp]
       refine rd [17] (rc fun K hK => ?_)
       go_simp
       refine hK.out _ _ (by exact zcc KE) fun hHeld => ?_
       clear hK K
       try simp only [sp]
       refine wpAnyH_done (by kernel_rfl) ?_ _
       have QQ := tk2 KE.right.right.right.right
       obtain ⟨q0, q1⟩ := QQ
       have FIN := L_ (HH.out mw7 a5 a6 (.node (.node a xx c) y (.node d (k1, k2) r)) _ (L_ ⟨Sq.Lk.left2 bal.out.1 bal.out.2.1 HT.out HC.out, (by have := hmw7.out.1; rw [HX.out, HY.out] at this; exact this), (fun M' h => ⟨HY.out, by have := hmw7.out.2 M' h; rw [HX.out, HY.out] at this; exact this⟩)⟩) (end3 KE) JE)
       go_wp2_with fail
       have hag := Tryz.isAgg29
       have hsz := Tryz.sizeOf29
       exact bodyPost_ret (v := tkA a5 a6) (by simp [results, Tryz.results83, go_sem, q0, q1]) rfl FIN.out
   ·by_cases c2 : l.ht + 1 < r.ht
    ·have g1 : ¬ (r.ht : Int) + 1 < (l.ht : Int) := by omega
     have g2 : (l.ht : Int) + 1 < (r.ht : Int) := by omega
     cases r with
     | nil => simp [Sq.T.ht] at c2
     | node a xx b =>
      obtain ⟨kA, kB⟩ := hB.out.kids
      have EA : Hid ((c3, c4) = a.top) := L_ kA
      have EB : Hid ((c5, c6) = b.top) := L_ kB
      have HX : Hid ((r1, r2) = xx) := L_ ER.out
      have HT : Hid ((Sq.T.node a xx b).ht = l.ht + 2) := L_ (by have := bal.out.2.2.2; omega)
      clear kA kB
      go_upto_region 10 with fail
      clear y0 y1 ya yb wr1 wr2 zvh zvg hlc hrc
      have FLD := zwx
      have F0 : Hid (Fr m0 (some M) all (a :: b :: l :: ts) (xx :: (k1, k2) :: ks)) := L_ ((fr.out.perm (Sq.pa _ _ _) (List.Perm.refl _)).open)
      have AA : Hid (Sq.zki (some M) a (c3, c4)) := L_ (F0.out.arg (by simp) EA.out)
      have AB : Hid (Sq.zki (some M) b (c5, c6)) := L_ (F0.out.arg (by simp) EB.out)
      have Kd := K2.drew
      have Jd := J2.drew
      clear K2 J2 hA hB
      have S0 := zat Kd
      by_cases hcc : a.ht ≤ b.ht
      ·have HC : Hid (a.ht ≤ b.ht) := L_ hcc
       have ci : (a.ht : Int) ≤ (b.ht : Int) := by omega
       have cd : decide ((a.ht : Int) ≤ (b.ht : Int)) = true := decide_eq_true (by omega)
       refine rh Kd (fun W Kd => zat Kd) fun hHeld => ?_
       refine tk ?_ ?_ [0, 1, 2, 5, 6, 7] ?_ hHeld ?_; rotate_left 2; exact tt
       refine rd [3] (rc fun K hK => ?_)
       go_simp
       go_at_call 58; (with_reducible refine zgg b c5 c6 AB hx (fr2 Kd) ?_); intro _ _ _ _ _ _ _ w3 _ Xw3 Iw3; have Hw3 := bk2 Xw3
       refine hK.out _ _ (by exact zat Hw3) fun hHeld => ?_
       clear hK K
       try simp only [sp]
       refine tk ?_ ?_ [4] ?_ hHeld ?_; rotate_left 2; exact tt
       refine rd [8] (rc fun K hK => ?_)
       go_simp
       go_at_call 58; (with_reducible refine zgg a c3 c4 AA hx (fr2 Hw3) ?_); intro _ _ _ _ _ _ _ w4 _ Xw4 Iw4; have Hw4 := bk2 Xw4
       refine hK.out _ _ (by exact zat Hw4) fun hHeld => ?_
       clear hK K
       try simp only [sp]
       refine tk ?_ ?_ [9, 10] ?_ hHeld ?_; rotate_left 2; exact tt
       refine wpAnyH_done (by kernel_rfl) ?_ _
       go_upto_region 11 with fail
       have Ke := Hw4.drew
       have S5 := zat Ke
       have F1 : Hid (Fr m0 (some M) all (l :: a :: b :: ts) ((k1, k2) :: xx :: ks)) := L_ ((F0.out.perm ((Sq.p3 l a b ts).symm) (Sq.pa _ _ _)))
       clear S0 cd ci hcc
       refine rh Ke (fun W Ke => zat Ke) fun hHeld => ?_
       refine tk ?_ ?_ [0, 1, 2, 3, 4, 5, 6, 8, 9] ?_ hHeld ?_; rotate_left 2; exact tt
       refine rd [7] (rc fun K hK => ?_)
       go_simp
       go_at_call 45; (with_reducible refine zyu l a k1 k2 l1 l2 c3 c4 EL EA F1 hx (fr2 Ke) ?_); intro mw5 w5 xbt Xw5 Iw5; have Hw5 := bk2 Xw5; have F2 : Hid (Fr m0 mw5 all (Sq.T.node l (k1, k2) a :: b :: ts) ((r1, r2) :: ks)) := L_ (by rw [HX.out]; exact xbt.out.1)
       refine hK.out _ _ (by exact zat Hw5) fun hHeld => ?_
       clear hK K
       try simp only [sp]
       refine rd [10] (rc fun K hK => ?_)
       go_simp
       go_at_call 45; (with_reducible refine zyu _ b r1 r2 k1 k2 c5 c6 (L_ rfl) EB F2 hx (fr2 Hw5) ?_); intro mw6 w6 z7o Xw6 Iw6; have Hw6 := bk2 Xw6; have FF := zfr Hw6.right.right.right; obtain ⟨f0, f1⟩ := FF; have GG := tk2 Hw6.right.right.right; obtain ⟨g0, g1⟩ := GG; have KE := zhh (zcu (.int .i64 r1) (.int .i64 r2) (ze3 Hw6)); have JE := zax (b := bx + 3) (.int .i64 r1) (.int .i64 r2) (((((Jd.trans Iw3).trans Iw4).drew.trans Iw5).trans Iw6))
       refine hK.out _ _ (by exact zat Hw6) fun hHeld => ?_
       clear hK K
       try simp only [sp]
       refine rd [11] (rc fun K hK => ?_)
       go_simp
       refine hK.out _ _ (by exact zat KE) fun hHeld => ?_
       clear hK K
       try simp only [sp]
       refine wpAnyH_done (by kernel_rfl) ?_ _
       have QQ := tk2 KE.right.right.right
       obtain ⟨q0, q1⟩ := QQ
       have FIN := L_ (HH.out mw6 r1 r2 (.node (.node l (k1, k2) a) xx b) _ (L_ ⟨Sq.Lk.z9x bal.out.1 bal.out.2.1 HT.out HC.out, (by have := z7o.out.1; rw [HX.out] at this; exact this), (fun M' h => ⟨HX.out, by have := z7o.out.2 M' h; rw [HX.out] at this; exact this⟩)⟩) (end2 KE) JE)
       go_wp2_with fail
       have hag := Tryz.isAgg29
       have hsz := Tryz.sizeOf29
       exact bodyPost_ret (v := tkA r1 r2) (by simp [results, Tryz.results83, go_sem, q0, q1]) rfl FIN.out
      ·have HC : Hid (b.ht < a.ht) := L_ (by omega)
       have ci : ¬ ((a.ht : Int) ≤ (b.ht : Int)) := by omega
       have cd : decide ((a.ht : Int) ≤ (b.ht : Int)) = false := decide_eq_false (by omega)
       refine wp_region_held_drew (S := (fun W => (((W.cell? ⟨bx, 0, none⟩ = some (.int .i64 k1) ∧ W.cell? ⟨bx, 1, none⟩ = some (.int .i64 k2)) ∧ (W.cell? ⟨bx + 1, 0, none⟩ = some (.int .i64 l1) ∧ W.cell? ⟨bx + 1, 1, none⟩ = some (.int .i64 l2)) ∧ (W.cell? ⟨bx + 2, 0, none⟩ = some (.int .i64 r1) ∧ W.cell? ⟨bx + 2, 1, none⟩ = some (.int .i64 r2))) ∧ (W.cell? ⟨b9, 2, none⟩ = some (.int .i64 a3) ∧ W.cell? ⟨b9, 3, none⟩ = some (.int .i64 a4) ∧ W.cell? ⟨b9, 4, none⟩ = some (.int .i64 a5) ∧ W.cell? ⟨b9, 5, none⟩ = some (.int .i64 a6)) ∧ (W.cell? ⟨b10, 2, none⟩ = some (.int .i64 c3) ∧ W.cell? ⟨b10, 3, none⟩ = some (.int .i64 c4) ∧ W.cell? ⟨b10, 4, none⟩ = some (.int .i64 c5) ∧ W.cell? ⟨b10, 5, none⟩ = some (.int .i64 c6))))) (by kernel_rfl) (by exact S0) (fun hHeld => ?_)
       refine tk ?_ ?_ [0, 1, 2, 5, 6, 7] ?_ hHeld ?_; rotate_left 2; exact tt
       refine rd [3] (rc fun K hK => ?_)
       go_simp
       go_at_call 58; (with_reducible refine zgg b c5 c6 AB hx (fr2 Kd) ?_); intro _ _ _ _ _ _ _ w3 _ Xw3 Iw3; have Hw3 := bk2 Xw3
       refine hK.out _ _ (by exact zat Hw3) fun hHeld => ?_
       clear hK K
       try simp only [sp]
       refine tk ?_ ?_ [4] ?_ hHeld ?_; rotate_left 2; exact tt
       refine rd [8] (rc fun K hK => ?_)
       go_simp
       go_at_call 58; (with_reducible refine zgg a c3 c4 AA hx (fr2 Hw3) ?_); intro _ _ _ _ _ _ _ w4 _ Xw4 Iw4; have Hw4 := bk2 Xw4
       refine hK.out _ _ (by exact zat Hw4) fun hHeld => ?_
       clear hK K
       try simp only [sp]
       refine tk ?_ ?_ [9, 10] ?_ hHeld ?_; rotate_left 2; exact tt
       refine wpAnyH_done (by kernel_rfl) ?_ _
       clear cd ci hcc
       cases a with
       | nil => exact absurd HC.out (Nat.not_lt_zero _)
       | node c y d =>
        have HY : Hid ((c3, c4) = y) := L_ EA.out
        go_upto_region 12 with fail
        have ZZ := zat Hw4
        obtain ⟨-, ⟨z2, z3, z4, z5⟩, ⟨z6, z7, z8, z9⟩⟩ := ZZ
        go_upto_region 13 with (go_at_call 58; (with_reducible refine zav (Sq.T.node c y d) c3 c4 AA hx (fr2 Hw4) ?_); intro e1 e2 e3 e4 e5 e6 e7 e8 w8 hE X8 I8; have K8 := (bk2 X8).new (.cells #[.int .i64 e1, .int .i64 e2, .int .i64 e3, .int .i64 e4, .int .i64 e5, .int .i64 e6, .int .i64 e7, .int .i64 e8] 85); have J8 := I8.alloc (.cells #[.int .i64 e1, .int .i64 e2, .int .i64 e3, .int .i64 e4, .int .i64 e5, .int .i64 e6, .int .i64 e7, .int .i64 e8] 85))
        clear z2 z3 z4 z5 z6 z7 z8 z9 S0
        obtain ⟨kC, kD⟩ := hE.out.kids
        have EC : Hid ((e3, e4) = c.top) := L_ kC
        have ED : Hid ((e5, e6) = d.top) := L_ kD
        have HL2 : Hid ((r1, r2) = (Sq.T.node d (r1, r2) b).top) := L_ rfl
        have F1 : Hid (Fr m0 (some M) all (l :: c :: d :: b :: ts) ((k1, k2) :: (r1, r2) :: y :: ks)) := L_ (by rw [HX.out]; exact ((F0.out.open).perm ((Sq.p4 l c d b ts).symm) ((Sq.p3 y xx (k1, k2) ks).trans (Sq.pa _ _ _))))
        clear kC kD hE X8 I8
        generalize w8.alloc _ = w9 at *
        generalize w8.heap.size = b11 at *
        have Ke := K8.drew
        have S5 := zcc Ke
        clear K8
        refine rh Ke (fun W Ke => zcc Ke) fun hHeld => ?_
        refine tk ?_ ?_ [0, 1, 2, 3, 4, 5, 6, 7, 9, 10, 11, 12, 13, 14] ?_ hHeld ?_; rotate_left 2; exact tt
        refine rd [8] (rc fun K hK => ?_)
        go_simp
        go_at_call 45; (with_reducible refine zyu l c k1 k2 l1 l2 e3 e4 EL EC F1 hx (fr3 Ke) ?_); intro mw5 w5 xbt Xw5 Iw5; have Hw5 := bk3 Xw5; have F2 : Hid (Fr m0 mw5 all (d :: b :: Sq.T.node l (k1, k2) c :: ts) ((r1, r2) :: y :: ks)) := L_ (xbt.out.1.perm (Sq.p3 _ _ _ _) (List.Perm.refl _))
        refine hK.out _ _ (by exact zcc Hw5) fun hHeld => ?_
        clear hK K
        try simp only [sp]
        refine rd [15] (rc fun K hK => ?_)
        go_simp
        go_at_call 45; (with_reducible refine zyu d b r1 r2 e5 e6 c5 c6 ED EB F2 hx (fr3 Hw5) ?_); intro mw6 w6 z7o Xw6 Iw6; have Hw6 := bk3 Xw6; have F3 : Hid (Fr m0 mw6 all (Sq.T.node l (k1, k2) c :: Sq.T.node d (r1, r2) b :: ts) ((c3, c4) :: ks)) := L_ (by rw [HY.out]; exact z7o.out.1.perm (Sq.pa _ _ _) (List.Perm.refl _))
        refine hK.out _ _ (by exact zcc Hw6) fun hHeld => ?_
        clear hK K
        try simp only [sp]
        refine rd [16] (rc fun K hK => ?_)
        go_simp
        go_at_call 45; (with_reducible refine zyu _ _ c3 c4 k1 k2 r1 r2 (L_ rfl) HL2 F3 hx (fr3 Hw6) ?_); intro mw7 w7 hmw7 Xw7 Iw7; have Hw7 := bk3 Xw7; have FF := zfr Hw7.right.right.right.right; obtain ⟨f0, f1⟩ := FF; have GG := tk2 Hw7.right.right.right.right; obtain ⟨g0, g1⟩ := GG; have KE := zrd (zcu (.int .i64 c3) (.int .i64 c4) (res3 Hw7)); have JE := zax (b := bx + 3) (.int .i64 c3) (.int .i64 c4) ((((((Jd.trans Iw3).trans Iw4).trans J8).drew.trans Iw5).trans Iw6).trans Iw7)
        refine hK.out _ _ (by exact zcc Hw7) fun hHeld => ?_
        clear hK K
        try simp only [sp]
        refine rd [17] (rc fun K hK => ?_)
        go_simp
        refine hK.out _ _ (by exact zcc KE) fun hHeld => ?_
        clear hK K
        try simp only [sp]
        refine wpAnyH_done (by kernel_rfl) ?_ _
        have QQ := tk2 KE.right.right.right.right
        obtain ⟨q0, q1⟩ := QQ
        have FIN := L_ (HH.out mw7 c3 c4 (.node (.node l (k1, k2) c) y (.node d xx b)) _ (L_ ⟨Sq.Lk.z9w bal.out.1 bal.out.2.1 HT.out HC.out, (by have := hmw7.out.1; rw [HX.out, HY.out] at this; exact this), (fun M' h => ⟨HY.out, by have := hmw7.out.2 M' h; rw [HX.out, HY.out] at this; exact this⟩)⟩) (end3 KE) JE)
        go_wp2_with fail
        have hag := Tryz.isAgg29
        have hsz := Tryz.sizeOf29
        exact bodyPost_ret (v := tkA c3 c4) (by simp [results, Tryz.results83, go_sem, q0, q1]) rfl FIN.out
    ·have g1 : ¬ (r.ht : Int) + 1 < (l.ht : Int) := by omega
     have g2 : ¬ (l.ht : Int) + 1 < (r.ht : Int) := by omega
     have N1 : Hid (l.ht ≤ r.ht + 1 ∧ r.ht ≤ l.ht + 1) := L_ (by omega)
     go_upto_region 14 with fail
     clear y0 y1 ya yb wr1 wr2 zvh zvg hlc hrc c1 c2 g1 g2
     have ZZ := zat K2
     obtain ⟨⟨⟨p0, p1⟩, ⟨p2, p3⟩, ⟨p4, p5⟩⟩, -, -⟩ := ZZ
     go_wp2_with (go_at_call 45; (with_reducible refine zyu l r k1 k2 l1 l2 r1 r2 EL ER fr hx (fr2 K2) ?_); intro m3 w3 hm3 X3 I3; have H3 := bk2 X3; have FF := zfr H3.right.right.right; obtain ⟨f0, f1⟩ := FF; have GG := tk2 H3.right.right.right; obtain ⟨g0, g1⟩ := GG; have KE := zhh (zcu (.int .i64 k1) (.int .i64 k2) (ze3 H3)); have JE := zax (b := bx + 3) (.int .i64 k1) (.int .i64 k2) (J2.trans I3); have QQ := tk2 KE.right.right.right; obtain ⟨q0, q1⟩ := QQ)
     have FIN := L_ (HH.out m3 k1 k2 (.node l (k1, k2) r) _ (L_ ⟨Sq.Lk.set bal.out.1 bal.out.2.1 N1.out.1 N1.out.2, hm3.out.1, fun M' h => ⟨rfl, hm3.out.2 M' h⟩⟩) (end2 KE) JE)
     have hag := Tryz.isAgg29
     have hsz := Tryz.sizeOf29
     exact bodyPost_ret (v := tkA k1 k2) (by simp [results, Tryz.results83, go_sem, q0, q1]) rfl FIN.out
end
end Go.Proofs.YtfknjmoekbabcaaGreatDoor
