/-
  A part of a proof. It proves no statement by itself.
-/
import Derived.Test.YtfknjmoekbabcaaGreatDoorA42
import Derived.Test.YtfknjmoekbabcaaGreatDoorA29
set_option linter.unusedSimpArgs false
set_option linter.unusedVariables false
set_option linter.unusedSectionVars false
set_option maxRecDepth 100000
set_option maxHeartbeats 64000000
namespace Go.Proofs.YtfknjmoekbabcaaGreatDoor
open Go.RowKit Go.Lib
open Sq (Tk Nd Mp zcb InT Fr)
namespace Sq
theorem Fr.two {M : Mp} {l r : T} (hl : zc0 M l nob) (hr : zc0 M r nob) (nd : (l.toks ++ r.toks).Nodup) (ok : ∀ y ∈ l.toks ++ r.toks, OkT y) (hc : (l.toks ++ r.toks).length ≤ 255) : Fr (some M) (some M) (l.toks ++ r.toks) [l, r] [] where
 nodup := by rw [zd0, List.append_nil]; exact nd
 ok := fun y hy => by rw [zd0, List.append_nil] at hy; exact ok y hy
 cnt := by rw [zd0, List.append_nil]; exact hc
 sub := fun y hy => by rw [zd0, List.append_nil] at hy; exact hy
 own := fun M' e => by
  cases e
  refine ⟨M, rfl, fun t ht => ?_, fun k hk => by simp at hk, fun _ _ => rfl⟩
  simp only [List.mem_cons, List.not_mem_nil, or_false] at ht
  rcases ht with rfl | rfl
  ·exact ⟨_, hl⟩
  ·exact ⟨_, hr⟩
end Sq
section
variable {x : Sx} {M : Mp} {F : Asn} {w : World} {R : Ending → World → Prop}
theorem jo_in {A B C : Asn} (H : Sat (A * (B * (C * F))) w) : Sat (C * (A * (B * F))) w := H.of_eq (by ac_rfl)
theorem z1j {A B C : Asn} (H : Sat (C * (A * (B * F))) w) : Sat (C * F) w := (H.of_eq (show _ = (A * B) * (C * F) from by ac_rfl)).right
theorem zwg (tr : Tk → Sq.T) (a1 b1 a2 b2 : Int) {e : Int} (he : Hid ((e ≠ 0 ∧ e = Sq.zee M (a1, b1) (a2, b2)) ∨ (Sq.zee M (a1, b1) (a2, b2) = 0 ∧ e = 1 ∧ (tr (a1, b1)).top = (tr (a2, b2)).top))) (hT : Hid (Sq.TF M tr)) (hx : Hid x.Ok) (H : Sat (zas x (some M) * F) w)
  (h : ∀ w', Sat (zas x (some M) * F) w' → Io w w' → R (.returned (.int .i64 e)) w') :
  Calls Tryz.prog 14 #[.pointer (some ⟨x.s, 0, none⟩), tkA a1 b1, tkA a2 b2] w R := by
 have HH := L_ h
 have H1 := jo_in (((H.new (.cells #[.int .i64 a1, .int .i64 b1] 29)).new (.cells #[.int .i64 a2, .int .i64 b2] 29)).of_eq (show _ = pts (w.alloc (.cells #[.int .i64 a1, .int .i64 b1] 29)).heap.size (.cells #[.int .i64 a2, .int .i64 b2] 29 (0, 0)) * (pts w.heap.size (.cells #[.int .i64 a1, .int .i64 b1] 29 (0, 0)) * (zas x (some M) * F)) from by ac_rfl))
 have I1 := io2 H1 (Io.refl w)
 rw [World.size_alloc] at H1
 clear h H
 go_enter Tryz.func14, Tryz.ntmps14
 go_upto_region 1 with fail
 generalize (w.alloc _).alloc _ = w1 at *
 generalize w.heap.size = bx at *
 obtain ⟨y0, y1⟩ := tk2 H1.right.right
 obtain ⟨y2, y3⟩ := tk2 H1.right
 rcases zjm M (a1, b1) (a2, b2) with ⟨q1, q2⟩ | ⟨q1, q2, q3⟩
 ·have hee : e = Sq.zee M (a1, b1) (a2, b2) := by
   rcases he.out with h1 | h1
   ·exact h1.2
   ·exact absurd h1.1 q1
  have HD : Hid ((false = false ∧ e ≠ 0 ∧ e = Sq.zee M (a1, b1) (a2, b2)) ∨ (Sq.zee M (a1, b1) (a2, b2) = 0 ∧ e = 0 ∧ false = decide ((tr (a1, b1)).top = (tr (a2, b2)).top))) := L_ (.inl ⟨rfl, hee ▸ q1, hee⟩)
  have hq : e = 30 ∨ e = 181 := by rw [hee]; exact q2
  clear q1 q2 he hee
  rcases hq with rfl | rfl
  ·go_wp2_with (go_at_call 27; (with_reducible refine zid tr a1 b1 a2 b2 HD hT hx H1 ?_); intro w2 H2 I2)
   have FIN := L_ (HH.out w2 (z1j H2) (I1.trans I2))
   first | exact FIN.out | exact bodyPost_ret (v := .int .i64 30) (by simp [results, Tryz.results14, go_sem]) rfl FIN.out
  ·go_wp2_with (go_at_call 27; (with_reducible refine zid tr a1 b1 a2 b2 HD hT hx H1 ?_); intro w2 H2 I2)
   have FIN := L_ (HH.out w2 (z1j H2) (I1.trans I2))
   first | exact FIN.out | exact bodyPost_ret (v := .int .i64 181) (by simp [results, Tryz.results14, go_sem]) rfl FIN.out
 ·obtain ⟨rfl, htop⟩ : e = 1 ∧ (tr (a1, b1)).top = (tr (a2, b2)).top := by
   rcases he.out with h1 | h1
   ·exact absurd (h1.2.trans q1) h1.1
   ·exact h1.2
  have HD : Hid ((true = false ∧ (0 : Int) ≠ 0 ∧ (0 : Int) = Sq.zee M (a1, b1) (a2, b2)) ∨ (Sq.zee M (a1, b1) (a2, b2) = 0 ∧ (0 : Int) = 0 ∧ true = decide ((tr (a1, b1)).top = (tr (a2, b2)).top))) := L_ (.inr ⟨q1, rfl, (decide_eq_true htop).symm⟩)
  clear q1 q2 q3 he htop
  go_wp2_with (go_at_call 27; (with_reducible refine zid tr a1 b1 a2 b2 HD hT hx H1 ?_); intro w2 H2 I2)
  have FIN := L_ (HH.out w2 (z1j H2) (I1.trans I2))
  first | exact FIN.out | exact bodyPost_ret (v := .int .i64 1) (by simp [results, Tryz.results14, go_sem]) rfl FIN.out
theorem sq_err {m : Option Mp} (H : Sat (zas x m * F) w) : w.cell? ⟨x.s, 0, none⟩ = some (.pointer (some ⟨x.c.tr, 0, none⟩)) ∧ w.cell? ⟨x.s, 1, none⟩ = some (.int .i64 (zk1 m)) := (zeg H).1
theorem zzo (tr : Tk → Sq.T) (a1 b1 a2 b2 : Int) (he : Hid (Sq.zee M (a1, b1) (a2, b2) = 0 ∧ (tr (a1, b1)).top ≠ (tr (a2, b2)).top)) (hd : Hid (((tr (a1, b1)).toks ++ (tr (a2, b2)).toks).Nodup ∧ ((tr (a1, b1)).toks ++ (tr (a2, b2)).toks).length ≤ 255)) (hT : Hid (Sq.TF M tr)) (hx : Hid x.Ok) (H : Sat (zas x (some M) * F) w)
  (h : ∀ m' t w', Hid (t.toks = (tr (a1, b1)).toks ++ (tr (a2, b2)).toks ∧ t.Bal ∧ ∀ M', m' = some M' → Sq.zc0 M' t Sq.nob ∧ ∀ y, y ∉ t.toks → M' y = M y) → Sat (zas x m' * F) w' → Io w w' → R (.returned (.int .i64 (zk1 m'))) w') :
  Calls Tryz.prog 14 #[.pointer (some ⟨x.s, 0, none⟩), tkA a1 b1, tkA a2 b2] w R := by
 have HH := L_ h
 have H1 := jo_in (((H.new (.cells #[.int .i64 a1, .int .i64 b1] 29)).new (.cells #[.int .i64 a2, .int .i64 b2] 29)).of_eq (show _ = pts (w.alloc (.cells #[.int .i64 a1, .int .i64 b1] 29)).heap.size (.cells #[.int .i64 a2, .int .i64 b2] 29 (0, 0)) * (pts w.heap.size (.cells #[.int .i64 a1, .int .i64 b1] 29 (0, 0)) * (zas x (some M) * F)) from by ac_rfl))
 have I1 := io2 H1 (Io.refl w)
 rw [World.size_alloc] at H1
 clear h H
 go_enter Tryz.func14, Tryz.ntmps14
 go_upto_region 1 with fail
 generalize (w.alloc _).alloc _ = w1 at *
 generalize w.heap.size = bx at *
 obtain ⟨y0, y1⟩ := tk2 H1.right.right
 obtain ⟨y2, y3⟩ := tk2 H1.right
 rcases zjm M (a1, b1) (a2, b2) with ⟨q1, q2⟩ | ⟨q1, q2, q3⟩
 ·exact absurd he.out.1 q1
 have HD : Hid ((false = false ∧ (0 : Int) ≠ 0 ∧ (0 : Int) = Sq.zee M (a1, b1) (a2, b2)) ∨ (Sq.zee M (a1, b1) (a2, b2) = 0 ∧ (0 : Int) = 0 ∧ false = decide ((tr (a1, b1)).top = (tr (a2, b2)).top))) := L_ (.inr ⟨q1, rfl, (decide_eq_false he.out.2).symm⟩)
 have Q2 := L_ q2
 have Q3 := L_ q3
 clear q1 q2 q3 he
 go_upto_region 6 with (go_at_call 27; (with_reducible refine zid tr a1 b1 a2 b2 HD hT hx H1 ?_); intro w2 H2 I2; have J2 := I1.trans I2)
 clear y0 y1 y2 y3 H1 I1 I2 HD
 obtain ⟨y0, y1⟩ := tk2 H2.right.right
 go_upto_region 7 with (go_at_call 47; (with_reducible refine zdy tr a1 b1 hT hx H2 ?_; intro r1 r2 v1 v2 v3 v4 v5 v6 v7 v8 er w2 hrr H2r I2r; have KNr := (H2r.new (.cells #[.int .i64 r1, .int .i64 r2] 29)).new (.cells #[.int .i64 v1, .int .i64 v2, .int .i64 v3, .int .i64 v4, .int .i64 v5, .int .i64 v6, .int .i64 v7, .int .i64 v8] 85); have JNr := ((J2.trans I2r).alloc (.cells #[.int .i64 r1, .int .i64 r2] 29)).alloc (.cells #[.int .i64 v1, .int .i64 v2, .int .i64 v3, .int .i64 v4, .int .i64 v5, .int .i64 v6, .int .i64 v7, .int .i64 v8] 85)))
 rw [World.size_alloc] at KNr
 clear H2r I2r
 generalize (w2.alloc _).alloc _ = w3 at *
 generalize w2.heap.size = br at *
 obtain ⟨rfl, ER1⟩ : er = 0 ∧ Hid ((r1, r2) = (tr (a1, b1)).top ∧ M (a1, b1) ≠ none) := by
  rcases hrr.out with ⟨h1, h2, _⟩ | ⟨_, h2, h3, _, h5, _⟩
  ·exact absurd (h1.trans Q2.out) h2
  ·exact ⟨h2, L_ ⟨h5, h3⟩⟩
 clear y0 y1 hrr
 have K3 : Sat (zas x (some M) * (pts (bx + 1) (.cells #[.int .i64 a2, .int .i64 b2] 29 (0, 0)) * (pts bx (.cells #[.int .i64 a1, .int .i64 b1] 29 (0, 0)) * (pts br (.cells #[.int .i64 r1, .int .i64 r2] 29 (0, 0)) * (pts (br + 1) (.cells #[.int .i64 v1, .int .i64 v2, .int .i64 v3, .int .i64 v4, .int .i64 v5, .int .i64 v6, .int .i64 v7, .int .i64 v8] 85 (0, 0)) * F))))) w3 := KNr.of_eq (by ac_rfl)
 clear KNr
 obtain ⟨y2, y3⟩ := tk2 K3.right
 go_upto_region 8 with (go_at_call 47; (with_reducible refine zdy tr a2 b2 hT hx K3 ?_; intro s1 s2 u1 u2 u3 u4 u5 u6 u7 u8 es w4 hrs H2s I2s; have KNs := (H2s.new (.cells #[.int .i64 s1, .int .i64 s2] 29)).new (.cells #[.int .i64 u1, .int .i64 u2, .int .i64 u3, .int .i64 u4, .int .i64 u5, .int .i64 u6, .int .i64 u7, .int .i64 u8] 85); have JNs := ((JNr.trans I2s).alloc (.cells #[.int .i64 s1, .int .i64 s2] 29)).alloc (.cells #[.int .i64 u1, .int .i64 u2, .int .i64 u3, .int .i64 u4, .int .i64 u5, .int .i64 u6, .int .i64 u7, .int .i64 u8] 85)))
 rw [World.size_alloc] at KNs
 clear H2s I2s
 generalize (w4.alloc _).alloc _ = w5 at *
 generalize w4.heap.size = bs at *
 obtain ⟨rfl, ER2⟩ : es = 0 ∧ Hid ((s1, s2) = (tr (a2, b2)).top ∧ M (a2, b2) ≠ none) := by
  rcases hrs.out with ⟨h1, h2, _⟩ | ⟨_, h2, h3, _, h5, _⟩
  ·exact absurd (h1.trans Q3.out) h2
  ·exact ⟨h2, L_ ⟨h5, h3⟩⟩
 clear y2 y3 hrs K3 JNr
 have K5 : Sat (zas x (some M) * (pts bs (.cells #[.int .i64 s1, .int .i64 s2] 29 (0, 0)) * (pts br (.cells #[.int .i64 r1, .int .i64 r2] 29 (0, 0)) * (pts (bs + 1) (.cells #[.int .i64 u1, .int .i64 u2, .int .i64 u3, .int .i64 u4, .int .i64 u5, .int .i64 u6, .int .i64 u7, .int .i64 u8] 85 (0, 0)) * (pts (br + 1) (.cells #[.int .i64 v1, .int .i64 v2, .int .i64 v3, .int .i64 v4, .int .i64 v5, .int .i64 v6, .int .i64 v7, .int .i64 v8] 85 (0, 0)) * (pts (bx + 1) (.cells #[.int .i64 a2, .int .i64 b2] 29 (0, 0)) * (pts bx (.cells #[.int .i64 a1, .int .i64 b1] 29 (0, 0)) * F))))))) w5 := KNs.of_eq (by ac_rfl)
 clear KNs Q2 Q3
 have TL := hT.out _ ER1.out.2
 have TR := hT.out _ ER2.out.2
 have ok : ∀ y ∈ (tr (a1, b1)).toks ++ (tr (a2, b2)).toks, Sq.OkT y := fun y hy => by
  rcases List.mem_append.1 hy with h | h
  ·exact TL.ok y h
  ·exact TR.ok y h
 have FR := L_ (Sq.Fr.two TL.hold TR.hold hd.out.1 ok hd.out.2)
 have NE : Hid (tr (a1, b1) ≠ .nil ∧ tr (a2, b2) ≠ .nil) := L_ ⟨fun e => by have := TL.mem; rw [e] at this; simp [Sq.T.toks] at this, fun e => by have := TR.mem; rw [e] at this; simp [Sq.T.toks] at this⟩
 have BB : Hid ((tr (a1, b1)).Bal ∧ (tr (a2, b2)).Bal) := L_ ⟨TL.bal, TR.bal⟩
 have E1 : Hid ((r1, r2) = (tr (a1, b1)).top) := L_ ER1.out.1
 have E2 : Hid ((s1, s2) = (tr (a2, b2)).top) := L_ ER2.out.1
 clear TL TR ok ER1 ER2
 obtain ⟨y4, y5⟩ := tk2 K5.right
 obtain ⟨y6, y7⟩ := tk2 K5.right.right
 go_upto_region 9 with (first | (go_at_call 49; (with_reducible refine zzq (tr (a1, b1)) (tr (a2, b2)) r1 r2 s1 s2 E1 E2 FR NE BB hx K5 ?_); intro m6 g1 g2 t w6 D6 H6 I6; have AL := L_ (fun M' hM => (D6.out.2.2.2 M' hM).1)) | (go_at_call 48; (with_reducible refine zk0 t g1 g2 AL (L_ D6.out.2.2.1) hx H6 ?_); intro m7 w7 D7 H7 I7))
 obtain ⟨z0, z1⟩ := sq_err H7
 have FIN := L_ (HH.out m7 t w7 (L_ ⟨D6.out.1, D6.out.2.1, fun M' hM => ⟨D7.out.2 M' hM, fun y hy => by
  obtain ⟨M0, e0, _, _, h4⟩ := D7.out.1.own M' hM
  cases e0
  exact h4 y (by rw [← D6.out.1]; exact hy)⟩⟩) (H7.of_eq (show _ = (pts bs (.cells #[.int .i64 s1, .int .i64 s2] 29 (0, 0)) * (pts br (.cells #[.int .i64 r1, .int .i64 r2] 29 (0, 0)) * (pts (bs + 1) (.cells #[.int .i64 u1, .int .i64 u2, .int .i64 u3, .int .i64 u4, .int .i64 u5, .int .i64 u6, .int .i64 u7, .int .i64 u8] 85 (0, 0)) * (pts (br + 1) (.cells #[.int .i64 v1, .int .i64 v2, .int .i64 v3, .int .i64 v4, .int .i64 v5, .int .i64 v6, .int .i64 v7, .int .i64 v8] 85 (0, 0)) * (pts (bx + 1) (.cells #[.int .i64 a2, .int .i64 b2] 29 (0, 0)) * pts bx (.cells #[.int .i64 a1, .int .i64 b1] 29 (0, 0))))))) * (zas x m7 * F) from by ac_rfl)).right ((JNs.trans I6).trans I7))
 generalize zk1 m7 = em at *
 go_wp2_with fail
 first | exact FIN.out | exact bodyPost_ret (v := .int .i64 em) (by simp [results, Tryz.results14, go_sem]) rfl FIN.out
end
end Go.Proofs.YtfknjmoekbabcaaGreatDoor
namespace Go.Proofs.YtfknjmoekbabcaaGreatDoor
namespace Sq
def Z.sides : Z → List T
 | .top => []
 | .inl _ r z => r :: z.sides
 | .inr l _ z => l :: z.sides
def Z.keys : Z → List Tk
 | .top => []
 | .inl x _ z => x :: z.keys
 | .inr _ x z => x :: z.keys
variable {m0 m m' : Option Mp} {all : List Tk} {ts : List T} {ks : List Tk}
theorem fr_z : ∀ (z : Z) (t : T), Fr m0 m all (z.zcq t :: ts) ks → Fr m0 m all (t :: (z.sides ++ ts)) (z.keys ++ ks)
 | .top, t, h => h
 | .inl x r z, t, h => (fr_z z (.node t x r) h).open
 | .inr l x z, t, h => ((fr_z z (.node l x t) h).open).perm (List.Perm.swap _ _ _) (List.Perm.refl _)
structure zgt (m0 m : Option Mp) (all A B : List Tk) (z : Z) (l r : T) : Prop where
 fr : Fr m0 m all (l :: r :: z.sides) z.keys
 ball : l.Bal
 balr : r.Bal
 balz : z.BalZ
 left : z.ahead ++ l.toks = A
 right : r.toks ++ z.behind = B
variable {A B : List Tk} {z : Z} {l r s t : T} {x v : Tk}
theorem zgt.frl (h : zgt m0 m all A B (.inl x s z) l r) : Fr m0 m all (r :: s :: (l :: z.sides)) (x :: z.keys) :=
 h.fr.perm ((List.Perm.swap _ _ _).trans (List.Perm.cons _ (List.Perm.swap _ _ _))) (List.Perm.refl _)
theorem zgt.frr (h : zgt m0 m all A B (.inr s x z) l r) : Fr m0 m all (s :: l :: (r :: z.sides)) (x :: z.keys) :=
 h.fr.perm (((List.Perm.cons _ (List.Perm.swap _ _ _))).trans (List.Perm.swap _ _ _)) (List.Perm.refl _)
theorem zgt.inl (h : zgt m0 m all A B (.inl x s z) l r) (d : Done m0 m' all (l :: z.sides) z.keys r s t x v) : zgt m0 m' all A B z l t where
 fr := d.2.1.perm (List.Perm.swap _ _ _) (List.Perm.refl _)
 ball := h.ball
 balr := d.1.bal
 balz := h.balz.2
 left := h.left
 right := by have := h.right; simp only [Z.behind] at this; rw [d.1.toks, ← this]; simp
theorem zgt.inr (h : zgt m0 m all A B (.inr s x z) l r) (d : Done m0 m' all (r :: z.sides) z.keys s l t x v) : zgt m0 m' all A B z t r where
 fr := d.2.1
 ball := d.1.bal
 balr := h.balr
 balz := h.balz.2
 left := by have := h.left; simp only [Z.ahead] at this; rw [d.1.toks, ← this]; simp
 right := h.right
end Sq
namespace Sq
structure zt6 (M : Mp) (t : T) (u : Tk) (i : Nat) (res : Tk) : Prop where
 hold : zc0 M t u
 ok : ∀ y ∈ t.toks, OkT y
 get : t.toks[i]? = some res
variable {M : Mp} {l r : T} {k u res : Tk} {i : Nat}
theorem zt6.ne {t : T} (h : zt6 M t u i res) : ∃ l k r, t = .node l k r := by
 cases t with
 | nil => have := h.get; simp [T.toks] at this
 | node l k r => exact ⟨l, k, r, rfl⟩
theorem zt6.here (h : zt6 M (.node l k r) u i res) (e : i = l.cnt) : res = k := by
 have := h.get
 rw [T.toks, e, ← T.zbl, List.getElem?_append_right (Nat.le_refl _), Nat.sub_self] at this
 exact (Option.some.inj this).symm
theorem zt6.left (h : zt6 M (.node l k r) u i res) (e : i < l.cnt) : zt6 M l k i res where
 hold := h.hold.2.1
 ok := fun y hy => h.ok y (by simp [T.toks, hy])
 get := by
  have := h.get
  rw [T.toks, List.getElem?_append_left (by rw [T.zbl]; exact e)] at this
  exact this
theorem zt6.right (h : zt6 M (.node l k r) u i res) (e : l.cnt < i) : zt6 M r k (i - l.cnt - 1) res where
 hold := h.hold.2.2
 ok := fun y hy => h.ok y (by simp [T.toks, hy])
 get := by
  have := h.get
  rw [T.toks, List.getElem?_append_right (by rw [T.zbl]; omega), T.zbl] at this
  rw [show i - l.cnt = (i - l.cnt - 1) + 1 from by omega, List.getElem?_cons_succ] at this
  exact this
end Sq
end Go.Proofs.YtfknjmoekbabcaaGreatDoor
namespace Go.Proofs.YtfknjmoekbabcaaGreatDoor
open Go.RowKit Go.Lib
open Sq (Tk Nd Mp zcb InT Fr)
section
variable {x : Sx} {M : Mp} {F : Asn} {w : World} {R : Ending → World → Prop}
theorem z9r (tr : Tk → Sq.T) (a b i : Int) {e : Int} (he : Hid ((e = Sq.zgc M (a, b) ∧ e ≠ 0) ∨ (Sq.zgc M (a, b) = 0 ∧ e = 1 ∧ (i < 0 ∨ ((tr (a, b)).cnt : Int) ≤ i)))) (hT : Hid (Sq.TF M tr)) (hx : Hid x.Ok) (H : Sat (zas x (some M) * F) w)
  (h : ∀ w', Sat (zas x (some M) * F) w' → Io w w' → R (.returned (.tuple #[tkA 0 0, .int .i64 e])) w') :
  Calls Tryz.prog 39 #[.pointer (some ⟨x.s, 0, none⟩), tkA a b, .int .i64 i] w R := by
 have HH := L_ h
 have H1 := (((H.new (.cells #[.int .i64 a, .int .i64 b] 29)).new (.cells #[.int .i64 0, .int .i64 0] 29)).of_eq (show _ = zas x (some M) * (pts w.heap.size (.cells #[.int .i64 a, .int .i64 b] 29 (0, 0)) * (pts (w.alloc (.cells #[.int .i64 a, .int .i64 b] 29)).heap.size (.cells #[.int .i64 0, .int .i64 0] 29 (0, 0)) * F)) from by ac_rfl))
 have I1 := io2 H1 (Io.refl w)
 rw [World.size_alloc] at H1
 clear h H
 go_enter Tryz.func39, Tryz.ntmps39
 go_upto_region 1 with fail
 generalize (w.alloc _).alloc _ = w1 at *
 generalize w.heap.size = bx at *
 obtain ⟨y0, y1⟩ := tk2 H1.right
 go_upto_region 2 with (go_at_call 47; (with_reducible refine zdy tr a b hT hx H1 ?_); intro r1 r2 v1 v2 v3 v4 v5 v6 v7 v8 e2 w2 hr H2 I2; have HA := (H2.new (.cells #[.int .i64 0, .int .i64 0, .int .i64 0, .int .i64 0, .int .i64 0, .int .i64 0, .int .i64 0, .int .i64 0] 85)).of_eq (show _ = pts bx (.cells #[.int .i64 a, .int .i64 b] 29 (0, 0)) * (pts w2.heap.size (.cells #[.int .i64 0, .int .i64 0, .int .i64 0, .int .i64 0, .int .i64 0, .int .i64 0, .int .i64 0, .int .i64 0] 85 (0, 0)) * (zas x (some M) * (pts (bx + 1) (.cells #[.int .i64 0, .int .i64 0] 29 (0, 0)) * F))) from by ac_rfl); obtain ⟨g0, g1⟩ := tk2 HA; obtain ⟨g2, g3⟩ := zfr HA; have KE := z06 (zcu (.int .i64 r1) (.int .i64 r2) HA); have G := zby KE; obtain ⟨j0, j1, j2, j3, j4, j5, j6, j7⟩ := G; have G2 := nd8 KE; obtain ⟨i0, i1, i2, i3, i4, i5, i6, i7⟩ := G2; have KN := zay (.int .i64 v1) (.int .i64 v2) (.int .i64 v3) (.int .i64 v4) (.int .i64 v5) (.int .i64 v6) (.int .i64 v7) (.int .i64 v8) KE; have JN := zac (b := w2.heap.size) (.int .i64 v1) (.int .i64 v2) (.int .i64 v3) (.int .i64 v4) (.int .i64 v5) (.int .i64 v6) (.int .i64 v7) (.int .i64 v8) (zax (b := bx) (.int .i64 r1) (.int .i64 r2) ((I1.trans I2).alloc (.cells #[.int .i64 0, .int .i64 0, .int .i64 0, .int .i64 0, .int .i64 0, .int .i64 0, .int .i64 0, .int .i64 0] 85))))
 clear y0 y1 g0 g1 g2 g3 j0 j1 j2 j3 j4 j5 j6 j7 i0 i1 i2 i3 i4 i5 i6 i7 HA KE H1 I1 H2 I2
 generalize ((((((((((w2.alloc _).setCell ⟨bx, 0, none⟩ (.int .i64 r1)).setCell ⟨bx, 1, none⟩ (.int .i64 r2)).setCell ⟨w2.heap.size, 0, none⟩ (.int .i64 v1)).setCell ⟨w2.heap.size, 1, none⟩ (.int .i64 v2)).setCell ⟨w2.heap.size, 2, none⟩ (.int .i64 v3)).setCell ⟨w2.heap.size, 3, none⟩ (.int .i64 v4)).setCell ⟨w2.heap.size, 4, none⟩ (.int .i64 v5)).setCell ⟨w2.heap.size, 5, none⟩ (.int .i64 v6)).setCell ⟨w2.heap.size, 6, none⟩ (.int .i64 v7)).setCell ⟨w2.heap.size, 7, none⟩ (.int .i64 v8) = w3 at *
 generalize w2.heap.size = b6 at *
 have K3 : Sat (pts (bx + 1) (.cells #[.int .i64 0, .int .i64 0] 29 (0, 0)) * (zas x (some M) * (pts b6 (.cells #[.int .i64 v1, .int .i64 v2, .int .i64 v3, .int .i64 v4, .int .i64 v5, .int .i64 v6, .int .i64 v7, .int .i64 v8] 85 (0, 0)) * (pts bx (.cells #[.int .i64 r1, .int .i64 r2] 29 (0, 0)) * F)))) w3 := KN.of_eq (by ac_rfl)
 clear KN
 obtain ⟨f0, f1⟩ := zfr K3
 obtain ⟨y0, y1⟩ := tk2 K3
 have KE := zcu (.int .i64 0) (.int .i64 0) K3
 have JE := zax (b := bx + 1) (.int .i64 0) (.int .i64 0) JN
 obtain ⟨z0, z1⟩ := tk2 KE
 have FIN := L_ (HH.out _ ((KE.right).of_eq (show _ = (pts b6 (.cells #[.int .i64 v1, .int .i64 v2, .int .i64 v3, .int .i64 v4, .int .i64 v5, .int .i64 v6, .int .i64 v7, .int .i64 v8] 85 (0, 0)) * pts bx (.cells #[.int .i64 r1, .int .i64 r2] 29 (0, 0))) * (zas x (some M) * F) from by ac_rfl)).right JE)
 have Z7 : w3.cell? ⟨b6, 6, none⟩ = some (.int .i64 v7) := (nd8 K3.right.right).2.2.2.2.2.2.1
 have hag := Tryz.isAgg29
 have hsz := Tryz.sizeOf29
 rcases zed M (a, b) with ⟨q1, q2⟩ | ⟨q1, q2, q3⟩ | ⟨q1, q2, q3⟩
 ·obtain ⟨rfl, rfl⟩ : e2 = 30 ∧ e = 30 := by
   refine ⟨?_, ?_⟩
   ·rcases hr.out with h1 | h1
    ·exact h1.1.trans q1
    ·rw [q1] at h1; exact absurd h1.1 (by decide)
   ·rcases he.out with h1 | h1
    ·exact h1.1.trans q1
    ·rw [q1] at h1; exact absurd h1.1 (by decide)
  clear q1 q2 he hr HH K3 KE JE JN
  go_wp2_with fail
  exact bodyPost_ret (v := .tuple #[tkA 0 0, .int .i64 30]) (by simp [results, Tryz.results39, go_sem, z0, z1]) rfl FIN.out
 ·obtain ⟨rfl, rfl⟩ : e2 = 181 ∧ e = 181 := by
   refine ⟨?_, ?_⟩
   ·rcases hr.out with h1 | h1
    ·exact h1.1.trans q1
    ·rw [q1] at h1; exact absurd h1.1 (by decide)
   ·rcases he.out with h1 | h1
    ·exact h1.1.trans q1
    ·rw [q1] at h1; exact absurd h1.1 (by decide)
  clear q1 q2 q3 he hr HH K3 KE JE JN
  go_wp2_with fail
  exact bodyPost_ret (v := .tuple #[tkA 0 0, .int .i64 181]) (by simp [results, Tryz.results39, go_sem, z0, z1]) rfl FIN.out
 ·obtain ⟨rfl, rfl, hi, hv⟩ : e2 = 0 ∧ e = 1 ∧ (i < 0 ∨ ((tr (a, b)).cnt : Int) ≤ i) ∧ v7 = ((tr (a, b)).cnt : Int) := by
   rcases hr.out with h1 | ⟨_, h2, h3, _, h5, h6⟩
   ·exact absurd (h1.1.trans q1) h1.2.1
   ·rcases he.out with g1 | g1
    ·exact absurd (g1.1.trans q1) g1.2
    ·refine ⟨h2, g1.2.1, g1.2.2, ?_⟩
     have hm := (hT.out _ h3).mem
     cases ht : tr (a, b) with
     | nil => rw [ht] at hm; simp [Sq.T.toks] at hm
     | node l k r => have h7 : v7 = _ := congrArg Nd.count h6; rw [ht] at h7; exact h7
  rw [← hv] at hi
  clear q1 q2 q3 he hr HH K3 KE JE JN hv
  by_cases c : i < 0
  ·go_wp2_with fail
   exact bodyPost_ret (v := .tuple #[tkA 0 0, .int .i64 1]) (by simp [results, Tryz.results39, go_sem, z0, z1]) rfl FIN.out
  ·have hi2 : v7 ≤ i := hi.resolve_left c
   clear hi
   go_wp2_with fail
   exact bodyPost_ret (v := .tuple #[tkA 0 0, .int .i64 1]) (by simp [results, Tryz.results39, go_sem, z0, z1]) rfl FIN.out
end
end Go.Proofs.YtfknjmoekbabcaaGreatDoor
namespace Go.Proofs.YtfknjmoekbabcaaGreatDoor
namespace Sq
structure zfo (m0 m : Option Mp) (all A B : List Tk) (way : List Z.Step) (i : Nat) (L R : T) : Prop where
 ex : ∃ z t, way.drop i = Z.anc z t nob ∧ (∃ s, way[i - 1]? = some s ∧ s.k = t.top) ∧ t ≠ .nil ∧ (z.zcq t).toks.Nodup ∧ (∀ y ∈ (z.zcq t).toks, OkT y) ∧ zgt m0 m all A B z L R
 pos : 0 < i
variable {m0 m m' : Option Mp} {all A B : List Tk} {way : List Z.Step} {i : Nat} {L R t : T}
structure z99 (m0 m : Option Mp) (all A B : List Tk) (way : List Z.Step) (i : Nat) (L R : T) (x rt : Tk) : Prop where
 ex : ∃ s ts ks, rt = s.top ∧ Fr m0 m all (R :: s :: ts) (x :: ks) ∧ R.Bal ∧ s.Bal ∧ ∀ m' t v, Done m0 m' all ts ks R s t x v → zfo m0 m' all A B way (i + 1) L t
structure xaa (m0 m : Option Mp) (all A B : List Tk) (way : List Z.Step) (i : Nat) (L R : T) (x lt : Tk) : Prop where
 ex : ∃ s ts ks, lt = s.top ∧ Fr m0 m all (s :: L :: ts) (x :: ks) ∧ s.Bal ∧ L.Bal ∧ ∀ m' t v, Done m0 m' all ts ks s L t x v → zfo m0 m' all A B way (i + 1) t R
theorem drop_cons {α : Type} {l : List α} {i : Nat} {x : α} {r : List α} (h : l.drop i = x :: r) : l[i]? = some x ∧ l.drop (i + 1) = r := by
 refine ⟨?_, ?_⟩
 ·have : (l.drop i)[0]? = some x := by rw [h]; rfl
  rw [List.getElem?_drop] at this
  exact this
 ·have : (l.drop i).drop 1 = r := by rw [h]; rfl
  rw [List.drop_drop] at this
  exact this
theorem zfo.step (h : zfo m0 m all A B way i L R) (hi : i < way.length) : ∃ p x, way[i - 1]? = some p ∧ way[i]? = some x ∧
  ((p.k = x.n.left ∧ z99 m0 m all A B way i L R x.k x.n.right) ∨ (p.k ≠ x.n.left ∧ xaa m0 m all A B way i L R x.k x.n.left)) := by
 obtain ⟨⟨z, t, h1, ⟨p, h2, h3⟩, h4, h5, h6, h7⟩, pos⟩ := h
 cases z with
 | top =>
  have := congrArg List.length h1
  rw [List.length_drop] at this
  simp only [Z.anc, List.length_nil] at this
  omega
 | inl x s z =>
  obtain ⟨e1, e2⟩ := drop_cons h1
  refine ⟨p, _, h2, e1, .inl ⟨h3, ⟨s, _, _, rfl, h7.frl, h7.balr, h7.balz.1, fun m' t' v d => ⟨⟨z, _, e2, ⟨_, e1, rfl⟩, by simp, h5, h6, h7.inl d⟩, by omega⟩⟩⟩⟩
 | inr s x z =>
  obtain ⟨e1, e2⟩ := drop_cons h1
  refine ⟨p, _, h2, e1, .inr ⟨fun e => ?_, ⟨s, _, _, rfl, h7.frr, h7.balz.1, h7.ball, fun m' t' v d => ⟨⟨z, _, e2, ⟨_, e1, rfl⟩, by simp, h5, h6, h7.inr d⟩, by omega⟩⟩⟩⟩
  have e : t.top = s.top := h3.symm.trans e
  have ht := T.ze1 h4
  have sub : ∀ y ∈ (T.node s x t).toks, y ∈ (Z.zcq (.inr s x z) t).toks := fun y hy => by
   simp only [Z.zcq]
   rw [Z.zbz]
   simp [hy]
  have hn : (T.node s x t).toks.Nodup := by
   simp only [Z.zcq] at h5
   rw [Z.zbz] at h5
   exact (List.nodup_append.1 (List.nodup_append.1 h5).2.1).1
  by_cases hs : s = .nil
  ·subst hs
   have := (T.znn (t := t) fun k hk => h6 k (sub k (by simp [T.toks, hk]))).1 e
   exact h4 this
  ·have h8 := T.ze1 hs
   rw [T.toks] at hn
   exact (List.nodup_append.1 hn).2.2 _ h8 _ (List.mem_cons_of_mem _ ht) e.symm
theorem zfo.fr (h : zfo m0 m all A B way i L R) : ∃ ts ks, Fr m0 m all (L :: R :: ts) ks := by
 obtain ⟨⟨z, t, h1, ⟨p, h2, h3⟩, h4, h5, h6, h7⟩, pos⟩ := h
 exact ⟨_, _, h7.fr⟩
theorem zfo.done (h : zfo m0 m all A B way i L R) (hi : way.length ≤ i) : L.toks = A ∧ R.toks = B ∧ L.Bal ∧ R.Bal ∧ Fr m0 m all [L, R] [] := by
 obtain ⟨⟨z, t, h1, ⟨p, h2, h3⟩, h4, h5, h6, h7⟩, pos⟩ := h
 have : z = .top := by
  rw [List.drop_eq_nil_of_le hi] at h1
  cases z with
  | top => rfl
  | inl x r z => simp [Z.anc] at h1
  | inr l x z => simp [Z.anc] at h1
 subst this
 refine ⟨?_, ?_, h7.ball, h7.balr, h7.fr⟩
 ·have := h7.left; simpa [Z.ahead] using this
 ·have := h7.right; simpa [Z.behind] using this
theorem Fr.nil {ts : List T} {ks : List Tk} (f : Fr m0 m all ts ks) : Fr m0 m all (.nil :: ts) ks := by
 have e : flat (.nil :: ts) = flat ts := by rw [zc5]; rfl
 refine ⟨by rw [e]; exact f.nodup, by rw [e]; exact f.ok, by rw [e]; exact f.cnt, by rw [e]; exact f.sub, fun M hM => ?_⟩
 obtain ⟨M0, e0, a, b, c⟩ := f.own M hM
 refine ⟨M0, e0, fun t ht => ?_, b, c⟩
 rcases List.mem_cons.1 ht with rfl | ht
 ·exact ⟨nob, trivial⟩
 ·exact a t ht
theorem Fr.one {M : Mp} {t : T} (hl : zc0 M t nob) (nd : t.toks.Nodup) (ok : ∀ y ∈ t.toks, OkT y) (hc : t.toks.length ≤ 255) : Fr (some M) (some M) t.toks [t] [] where
 nodup := by rw [zcf, List.append_nil]; exact nd
 ok := fun y hy => by rw [zcf, List.append_nil] at hy; exact ok y hy
 cnt := by rw [zcf, List.append_nil]; exact hc
 sub := fun y hy => by rw [zcf, List.append_nil] at hy; exact hy
 own := fun M' e => by
  cases e
  refine ⟨M, rfl, fun s hs => ?_, fun k hk => by simp at hk, fun _ _ => rfl⟩
  simp only [List.mem_cons, List.not_mem_nil, or_false] at hs
  subst hs
  exact ⟨_, hl⟩
section
variable {M : Mp} {z : Z} {l r : T} {k : Tk}
theorem z7w (h : zga M (z.zcq (.node l k r)) k) : Fr (some M) (some M) (z.zcq (.node l k r)).toks (l :: r :: z.sides) (k :: z.keys) := by
 have h1 := Fr.one h.hold h.nodup h.ok (by have := h.cnt; rw [T.zbl]; omega)
 have h2 := fr_z z _ h1
 simp only [List.append_nil] at h2
 exact h2.open
theorem zl5 (h : zga M (z.zcq (.node l k r)) k) : l.Bal ∧ r.Bal ∧ z.BalZ := ⟨(Z.zhp h.bal).1, (Z.zhp h.bal).2.1, Z.zl6 h.bal⟩
theorem zul (h : zga M (z.zcq (.node l k r)) k) : Fr (some M) (some M) (z.zcq (.node l k r)).toks (.nil :: r :: (l :: z.sides)) (k :: z.keys) :=
 ((z7w h).perm (List.Perm.swap _ _ _) (List.Perm.refl _)).nil
theorem z5f (h : zga M (z.zcq (.node l k r)) k) {t : T} {v : Tk} (d : Done (some M) m' (z.zcq (.node l k r)).toks (l :: z.sides) z.keys .nil r t k v) :
  zfo (some M) m' (z.zcq (.node l k r)).toks (z.ahead ++ l.toks) ((k :: r.toks) ++ z.behind) (z.way l k r nob) 1 l t where
 pos := by omega
 ex := ⟨z, .node l k r, rfl, ⟨_, rfl, rfl⟩, by simp, h.nodup, h.ok,
  ⟨d.2.1.perm (List.Perm.swap _ _ _) (List.Perm.refl _), (zl5 h).1, d.1.bal, (zl5 h).2.2, rfl, by rw [d.1.toks]; rfl⟩⟩
end
end Sq
namespace Sq
def Ls (M : Mp) (L : LL) : Prop := ∃ ts, For M ts ∧ ts.map T.toks = L
variable {M M' : Mp} {L : LL} {k a b : Tk}
theorem Ls.nodup (h : Ls M L) : L.flatten.Nodup := by obtain ⟨ts, f, rfl⟩ := h; exact f.nodup
theorem Ls.ok (h : Ls M L) : ∀ y ∈ L.flatten, OkT y := by obtain ⟨ts, f, rfl⟩ := h; exact f.ok
theorem Ls.there (h : Ls M L) : there L k ↔ M k ≠ none := by
 obtain ⟨ts, f, rfl⟩ := h
 rw [f.here]
 exact zar
theorem Ls.beg (h : Ls M L) (k : Tk) : zgc M k = zds L k := by
 unfold zgc zds
 by_cases h1 : OkT k
 ·rw [if_neg (not_not_intro h1), if_neg (not_not_intro h1)]
  by_cases h2 : M k = none
  ·rw [if_pos h2, if_neg (fun h3 => (h.there.1 h3) h2)]
  ·rw [if_neg h2, if_pos (h.there.2 h2)]
 ·rw [if_pos h1, if_pos h1]
theorem zy2 (L : LL) (a b : Tk) : (two L a b).2 = if ¬ OkT a ∨ ¬ OkT b then 30 else if ¬ there L a ∨ ¬ there L b then 181 else 0 := by
 unfold two zds
 by_cases h1 : OkT a <;> by_cases h2 : OkT b <;> by_cases h3 : Sq.there L a <;> by_cases h4 : Sq.there L b <;> simp [h1, h2, h3, h4]
theorem Ls.beg2 (h : Ls M L) (a b : Tk) : zee M a b = (two L a b).2 := by
 rw [zy2]
 unfold zee
 have ha := h.there (k := a)
 have hb := h.there (k := b)
 by_cases h1 : OkT a <;> by_cases h2 : OkT b <;> by_cases h3 : M a = none <;> by_cases h4 : M b = none <;> simp [h1, h2, h3, h4, ha, hb]
theorem z98 : zds L k = 0 ↔ OkT k ∧ Sq.there L k := by
 unfold zds
 by_cases h1 : OkT k <;> by_cases h2 : Sq.there L k <;> simp [h1, h2]
theorem two0 : (two L a b).2 = 0 ↔ (OkT a ∧ Sq.there L a) ∧ (OkT b ∧ Sq.there L b) := by
 rw [zy2]
 by_cases h1 : OkT a <;> by_cases h2 : OkT b <;> by_cases h3 : Sq.there L a <;> by_cases h4 : Sq.there L b <;> simp [h1, h2, h3, h4]
theorem two1 (h : (two L a b).2 = 0) : (two L a b).1 = decide (fi L a = fi L b) := by
 obtain ⟨⟨h1, h2⟩, h3, h4⟩ := two0.1 h
 unfold two zds
 simp [h1, h2, h3, h4]
theorem Ls.make (h : Ls M L) (ok : OkT k) (hk : M k = none) (h1 : zc0 M' (.node .nil k .nil) nob) (fr : ∀ x, x ≠ k → M' x = M x) : Ls M' (L ++ [[k]]) := by
 obtain ⟨ts, f, rfl⟩ := h
 exact ⟨_, f.make ok (fun h => absurd hk (f.here.2 h)) h1 fr, by simp [T.toks]⟩
theorem For.zhv {ts : List T} (f : For M ts) (ha : a ∈ flat ts) : ∃ (hi : fi (ts.map T.toks) a < ts.length), zd5 ts a = ts[fi (ts.map T.toks) a]'hi ∧ (zd5 ts a).toks = rowOf (ts.map T.toks) a := by
 obtain ⟨hi, hm, e⟩ := f.tree ha
 have e2 : zd5 ts a = ts[fi (ts.map T.toks) a]'hi := by unfold zd5; rw [List.getElem?_eq_getElem hi]; rfl
 exact ⟨hi, e2, by rw [e2, e]⟩
theorem For.zor {ts : List T} (f : For M ts) (ha : a ∈ flat ts) (hb : b ∈ flat ts) : (zd5 ts a).top = (zd5 ts b).top ↔ fi (ts.map T.toks) a = fi (ts.map T.toks) b := by
 obtain ⟨hi, ea, _⟩ := f.zhv ha
 obtain ⟨hj, eb, _⟩ := f.zhv hb
 constructor
 ·intro e
  rw [ea, eb] at e
  have h1 := T.ze1 (f.ne _ (List.getElem_mem hi))
  have h2 := T.ze1 (f.ne _ (List.getElem_mem hj))
  rw [e] at h1
  exact zlf (k := (ts[fi (ts.map T.toks) b]'hj).top) f.z0p (by simpa using hi) (by simpa using hj) (by simpa using h1) (by simpa using h2)
 ·intro e
  unfold zd5
  rw [e]
theorem Ls.zr6 {ts : List T} (f : For M ts) (h : (two (ts.map T.toks) a b).2 = 0) : (zd5 ts a).top = (zd5 ts b).top ↔ (two (ts.map T.toks) a b).1 = true := by
 obtain ⟨⟨h1, h2⟩, h3, h4⟩ := two0.1 h
 rw [two1 h, f.zor (zar.1 h2) (zar.1 h4), decide_eq_true_iff]
theorem row_nodup {L : LL} (hn : L.flatten.Nodup) {a b : Tk} (ha : Sq.there L a) (hb : Sq.there L b) (hne : fi L a ≠ fi L b) : (rowOf L a ++ rowOf L b).Nodup := by
 have h1 := zij ha
 have h2 := zij hb
 rw [List.nodup_append]
 refine ⟨?_, ?_, fun x hx y hy e => ?_⟩
 ·exact hn.sublist (List.sublist_flatten_of_mem (row_in ha))
 ·exact hn.sublist (List.sublist_flatten_of_mem (row_in hb))
 ·subst e
  rw [h1] at hx
  rw [h2] at hy
  exact hne (zlf hn ha hb hx hy)
theorem For.z7k {ts : List T} (f : For M ts) (ha : a ∈ flat ts) (hb : b ∈ flat ts) (hne : fi (ts.map T.toks) a ≠ fi (ts.map T.toks) b) : ((zd5 ts a).toks ++ (zd5 ts b).toks).Nodup ∧ ((zd5 ts a).toks ++ (zd5 ts b).toks).length ≤ (flat ts).length := by
 obtain ⟨hi, ea, e1⟩ := f.zhv ha
 obtain ⟨hj, eb, e2⟩ := f.zhv hb
 have nd := row_nodup f.z0p (zar.2 ha) (zar.2 hb) hne
 rw [e1, e2]
 refine ⟨nd, ?_⟩
 have h1 := (zc4 hi).length_eq
 have hmem : ts[fi (ts.map T.toks) b]'hj ∈ ts.eraseIdx (fi (ts.map T.toks) a) := by
  refine List.mem_iff_getElem.2 ?_
  rcases Nat.lt_or_gt_of_ne hne with c | c
  ·exact ⟨fi (ts.map T.toks) b - 1, by rw [List.length_eraseIdx]; split <;> omega, by rw [List.getElem_eraseIdx]; rw [dif_neg (by omega)]; congr 1; omega⟩
  ·exact ⟨fi (ts.map T.toks) b, by rw [List.length_eraseIdx]; split <;> omega, by rw [List.getElem_eraseIdx]; rw [dif_pos (by omega)]⟩
 have h2 : (ts[fi (ts.map T.toks) b]'hj).toks.length ≤ (flat (ts.eraseIdx (fi (ts.map T.toks) a))).length := (List.sublist_flatten_of_mem (List.mem_map.2 ⟨_, hmem, rfl⟩)).length_le
 rw [← e1, ← e2, ea, eb, List.length_append]
 rw [List.length_append] at h1
 omega
theorem Ls.join {ts : List T} (f : For M ts) (h : (two (ts.map T.toks) a b).2 = 0) (hne : (zd5 ts a).top ≠ (zd5 ts b).top) {t : T} (ht : t.toks = (zd5 ts a).toks ++ (zd5 ts b).toks) (bt : t.Bal) (ot : zc0 M' t nob) (fr : ∀ x, x ∉ t.toks → M' x = M x) : Ls M' (joined (ts.map T.toks) a b) := by
 obtain ⟨⟨h1, h2⟩, h3, h4⟩ := two0.1 h
 obtain ⟨_, _, e1⟩ := f.zhv (zar.1 h2)
 obtain ⟨_, _, e2⟩ := f.zhv (zar.1 h4)
 have := f.join (zar.1 h2) (zar.1 h4) (fun e => hne ((f.zor (zar.1 h2) (zar.1 h4)).2 e)) (by rw [ht, e1, e2]) bt ot fr
 exact this
theorem Ls.remove {ts : List T} (f : For M ts) (h : a ∈ flat ts) (h1 : (rowOf (ts.map T.toks) a).length = 1) : Ls (del M a) ((ts.map T.toks).eraseIdx (fi (ts.map T.toks) a)) := by
 refine ⟨_, f.remove h h1 (M' := del M a) ?_ ?_, zfg _ _ _⟩
 ·simp [del]
 ·intro x hx; simp [del, hx]
theorem For.alone {ts : List T} (f : For M ts) (ha : a ∈ flat ts) {n : Nd} (hn : M a = some n) : (n.count = 1 ∧ n.up = nob) ↔ (rowOf (ts.map T.toks) a).length = 1 := by
 obtain ⟨hi, hm, e⟩ := f.tree ha
 generalize ht : ts[fi (ts.map T.toks) a]'hi = t at *
 have hmem : t ∈ ts := ht ▸ List.getElem_mem hi
 have hold := f.hold t hmem
 rw [e]
 obtain ⟨l, r, z, hz⟩ := Z.find t .top hm
 simp only [Z.zcq] at hz
 rw [hz] at hold
 have h1 := (Z.zgq hold).1
 have h2 : M a = _ := h1.1
 rw [hn] at h2
 have h2 := Option.some.inj h2
 subst h2
 rw [hz, Z.zbz]
 simp only [nod, T.toks, List.length_append, List.length_cons, T.zbl]
 constructor
 ·rintro ⟨c1, c2⟩
  have hz0 : z = .top := by
   cases z with
   | top => rfl
   | inl x s z => exact absurd c2 (f.ok x (zdi.2 ⟨t, hmem, by rw [hz]; simp only [Z.zcq]; rw [Z.zbz]; simp [T.toks]⟩)).ne
   | inr s x z => exact absurd c2 (f.ok x (zdi.2 ⟨t, hmem, by rw [hz]; simp only [Z.zcq]; rw [Z.zbz]; simp [T.toks]⟩)).ne
  subst hz0
  simp only [Z.ahead, Z.behind, List.length_nil]
  omega
 ·intro c
  have h3 : z.ahead = [] := List.length_eq_zero_iff.1 (by omega)
  have h4 : z.behind = [] := List.length_eq_zero_iff.1 (by omega)
  refine ⟨by omega, ?_⟩
  cases z with
  | top => rfl
  | inl x s z => simp [Z.behind] at h4
  | inr s x z => simp [Z.ahead] at h3
end Sq
namespace Sq
variable {M M' : Mp} {L : LL} {k a b : Tk} {ts : List T} {z : Z} {l r A B : T}
theorem For.place (f : For M ts) (ha : a ∈ flat ts) : ∃ l r z, zd5 ts a = Z.zcq z (.node l a r) := by
 obtain ⟨hi, e1, e2⟩ := f.zhv ha
 have hm : a ∈ (zd5 ts a).toks := by rw [e2]; exact row_mem (zar.2 ha)
 obtain ⟨l, r, z, hz⟩ := Z.find (zd5 ts a) .top hm
 exact ⟨l, r, z, hz⟩
theorem For.row (f : For M ts) (ha : a ∈ flat ts) (hz : zd5 ts a = z.zcq (.node l a r)) : rowOf (ts.map T.toks) a = (z.ahead ++ l.toks) ++ a :: (r.toks ++ z.behind) ∧ fj (rowOf (ts.map T.toks) a) a = (z.ahead ++ l.toks).length := by
 obtain ⟨hi, e1, e2⟩ := f.zhv ha
 have e3 : rowOf (ts.map T.toks) a = (z.ahead ++ l.toks) ++ a :: (r.toks ++ z.behind) := by
  rw [← e2, hz, Z.zbz]
  simp [T.toks]
 refine ⟨e3, ?_⟩
 have nd : (rowOf (ts.map T.toks) a).Nodup := by rw [← e2, e1]; exact f.zhc (List.getElem_mem hi)
 rw [e3] at nd ⊢
 refine zsi fun h => ?_
 exact (List.nodup_append.1 nd).2.2 a h a (by simp) rfl
theorem zot {t : T} (h : t.toks ≠ []) : t ≠ .nil := by rintro rfl; exact h rfl
theorem Ls.cut0 (f : For M ts) (ha : a ∈ flat ts) (hz : zd5 ts a = z.zcq (.node l a r)) (hn : fj (rowOf (ts.map T.toks) a) a ≠ 0) (hA : A.toks = z.ahead ++ l.toks) (hB : B.toks = (a :: r.toks) ++ z.behind) (bA : A.Bal) (bB : B.Bal)
  (oA : zc0 M' A nob) (oB : zc0 M' B nob) (fr : ∀ x, x ∉ (z.zcq (.node l a r)).toks → M' x = M x) : Ls M' (cut (ts.map T.toks) a (fj (rowOf (ts.map T.toks) a) a)) := by
 obtain ⟨e1, e2⟩ := f.row ha hz
 obtain ⟨hi, e3, e4⟩ := f.zhv ha
 have h := f.cut (M' := M') (l := A) (r := B) (n := fj (rowOf (ts.map T.toks) a) a) ha (by rw [hA, e2, e1, List.take_left]) (by rw [hB, e2, e1, List.drop_left]; rfl)
  (zot (by rw [hA]; intro e; rw [e2, e] at hn; exact hn rfl)) (zot (by rw [hB]; simp)) bA bB oA oB (by rw [← e4, hz]; exact fr)
 exact ⟨_, h.1, h.2⟩
theorem Ls.cut1 (f : For M ts) (ha : a ∈ flat ts) (hz : zd5 ts a = z.zcq (.node l a r)) (hn : fj (rowOf (ts.map T.toks) a) a + 1 ≠ (rowOf (ts.map T.toks) a).length) (hA : A.toks = z.ahead ++ (l.toks ++ [a])) (hB : B.toks = r.toks ++ z.behind) (bA : A.Bal) (bB : B.Bal)
  (oA : zc0 M' A nob) (oB : zc0 M' B nob) (fr : ∀ x, x ∉ (z.zcq (.node l a r)).toks → M' x = M x) : Ls M' (cut (ts.map T.toks) a (fj (rowOf (ts.map T.toks) a) a + 1)) := by
 obtain ⟨e1, e2⟩ := f.row ha hz
 obtain ⟨hi, e3, e4⟩ := f.zhv ha
 have e5 : rowOf (ts.map T.toks) a = (z.ahead ++ (l.toks ++ [a])) ++ (r.toks ++ z.behind) := by rw [e1]; simp
 have e6 : fj (rowOf (ts.map T.toks) a) a + 1 = (z.ahead ++ (l.toks ++ [a])).length := by rw [e2]; simp; omega
 have h := f.cut (M' := M') (l := A) (r := B) (n := fj (rowOf (ts.map T.toks) a) a + 1) ha (by rw [hA, e6, e5, List.take_left]) (by rw [hB, e6, e5, List.drop_left])
  (zot (by rw [hA]; simp)) (zot (by rw [hB]; intro e; rw [e] at e5; apply hn; rw [e6, e5]; simp)) bA bB oA oB (by rw [← e4, hz]; exact fr)
 exact ⟨_, h.1, h.2⟩
theorem For.treeAt (f : For M ts) (hc : (flat ts).length ≤ 250) (ha : a ∈ flat ts) (hz : zd5 ts a = z.zcq (.node l a r)) : zga M (z.zcq (.node l a r)) a := by
 rw [← hz]
 exact f.tf hc a (f.here.2 ha)
def orErr (m : Option Mp) (e : Int) : Int := match m with
 | some _ => e
 | none => 2
end Sq
namespace Sq
variable {L : LL} {k a b : Tk} {l p want : List Tk}
theorem zf0 (h : k ∈ l) : fi (l :: L) k = 0 := by unfold fi; rw [List.findIdx_cons]; simp [h]
theorem z18 (h : k ∉ l) : fi (l :: L) k = fi L k + 1 := by unfold fi; rw [List.findIdx_cons]; simp [h]
theorem zfs {L : LL} {l : List Tk} (h : l ∈ L) (hk : k ∈ l) : there L k := zgd.2 ⟨l, h, hk⟩
theorem z6w (ok : OkT k) (hn : k ∉ L.flatten) : zh1 L k = (0, L ++ [[k]]) := by
 unfold zh1
 rw [if_neg (not_not_intro ok), if_neg fun h => hn (zar.1 h)]
theorem z1i (hw : a ∈ want) (oa : OkT a) (ok : OkT k) (hk : k ∉ want) : zfh [want, [k]] a k = (0, [want ++ [k]]) := by
 have ha : there [want, [k]] a := zfs (by simp) hw
 have hb : there [want, [k]] k := zfs (l := [k]) (by simp) (by simp)
 have h0 : (two [want, [k]] a k).2 = 0 := two0.2 ⟨⟨oa, ha⟩, ok, hb⟩
 have f1 : fi [want, [k]] a = 0 := zf0 hw
 have f2 : fi [want, [k]] k = 1 := by rw [z18 hk, zf0 (by simp)]
 have f3 : fi [[k]] k = 0 := zf0 (by simp)
 unfold zfh
 rw [if_neg (not_not_intro h0), two1 h0, f1, f2, if_neg (by decide)]
 unfold joined rowOf
 rw [f1, f2]
 simp [f3]
theorem fj_at (nd : want.Nodup) {c : Nat} (hc : c < want.length) : fj want want[c] = c := by
 have h1 := fj_lt (List.getElem_mem hc)
 have h2 := fj_get h1
 have h3 := List.pairwise_iff_getElem.1 nd
 rcases Nat.lt_trichotomy (fj want want[c]) c with q | q | q
 ·exact absurd h2 (h3 _ _ h1 hc q)
 ·exact q
 ·exact absurd h2.symm (h3 _ _ hc h1 q)
theorem z2i (ok : ∀ y ∈ want, OkT y) (nd : want.Nodup) (hc : 0 < want.length) : zpi [want] want[0] 0 = (0, [want]) := by
 have ha : there [want] want[0] := zfs (by simp) (List.getElem_mem hc)
 have h0 : zds [want] want[0] = 0 := z98.2 ⟨ok _ (List.getElem_mem hc), ha⟩
 have f1 : fi [want] want[0] = 0 := zf0 (List.getElem_mem hc)
 have r1 : rowOf [want] want[0] = want := by unfold rowOf; rw [f1]; rfl
 unfold zpi
 rw [if_neg (not_not_intro h0), r1, fj_at nd hc]
 simp
theorem cut_at (ok : ∀ y ∈ want, OkT y) (nd : want.Nodup) {c : Nat} (h0 : 0 < c) (hc : c < want.length) : zpi [want] want[c] 0 = (0, [want.take c, want.drop c]) := by
 have ha : there [want] want[c] := zfs (by simp) (List.getElem_mem hc)
 have h1 : zds [want] want[c] = 0 := z98.2 ⟨ok _ (List.getElem_mem hc), ha⟩
 have f1 : fi [want] want[c] = 0 := zf0 (List.getElem_mem hc)
 have r1 : rowOf [want] want[c] = want := by unfold rowOf; rw [f1]; rfl
 unfold zpi cut
 rw [if_neg (not_not_intro h1), r1, fj_at nd hc, f1, if_neg (by omega)]
 simp
theorem z1f (ok : ∀ y ∈ want, OkT y) (nd : want.Nodup) {c : Nat} (h0 : 0 < c) (hc : c < want.length) : zfh [want.take c, want.drop c] want[c] (want[0]'(by omega)) = (0, [want.drop c ++ want.take c]) := by
 have m0 : want[0]'(by omega) ∈ want.take c := List.mem_take_iff_getElem.2 ⟨0, by omega, rfl⟩
 have mc : want[c] ∈ want.drop c := List.mem_drop_iff_getElem.2 ⟨0, by omega, by simp⟩
 have n0 : want[c] ∉ want.take c := fun h => by
  have nd' := nd
  rw [← List.take_append_drop c want, List.nodup_append] at nd'
  exact nd'.2.2 _ h _ mc rfl
 have ha : there [want.take c, want.drop c] want[c] := zfs (l := want.drop c) (by simp) mc
 have hb : there [want.take c, want.drop c] (want[0]'(by omega)) := zfs (l := want.take c) (by simp) m0
 have h2 : (two [want.take c, want.drop c] want[c] (want[0]'(by omega))).2 = 0 := two0.2 ⟨⟨ok _ (List.getElem_mem hc), ha⟩, ok _ (List.getElem_mem _), hb⟩
 have f1 : fi [want.take c, want.drop c] want[c] = 1 := by rw [z18 n0, zf0 mc]
 have f2 : fi [want.take c, want.drop c] (want[0]'(by omega)) = 0 := zf0 m0
 have f3 : fi [want.take c] (want[0]'(by omega)) = 0 := zf0 m0
 unfold zfh
 rw [if_neg (not_not_intro h2), two1 h2, f1, f2, if_neg (by decide)]
 unfold joined rowOf
 rw [f1, f2]
 simp [f3]
end Sq
end Go.Proofs.YtfknjmoekbabcaaGreatDoor
namespace Go.Proofs.YtfknjmoekbabcaaGreatDoor
open Go.RowKit Go.Lib
open Sq (Tk Nd Mp zcb InT Fr)
namespace Sq
theorem zt6.kid {M : Mp} {t : T} {u res : Tk} {i : Nat} (h : zt6 M t u i res) : ∃ l k r, t = .node l k r ∧ M k = some (nod l r u) := by
 obtain ⟨l, k, r, e⟩ := h.ne
 subst e
 exact ⟨l, k, r, rfl, h.hold.1⟩
end Sq
section
variable {x : Sx} {M : Mp} {F : Asn} {w : World} {R : Ending → World → Prop}
theorem z3f {A B C D : Asn} (H : Sat (A * (B * (C * (D * F)))) w) : Sat (D * (A * (B * (C * F)))) w := H.of_eq (by ac_rfl)
theorem z3g {A B C D : Asn} (H : Sat (D * (A * (B * (C * F)))) w) : Sat (A * (B * (C * (D * F)))) w := H.of_eq (by ac_rfl)
theorem z8w {A B C D : Asn} (H : Sat (A * (B * (C * (D * F)))) w) : Sat (C * (A * (B * (D * F)))) w := H.of_eq (by ac_rfl)
theorem at_nb {A B C D : Asn} (H : Sat (C * (A * (B * (D * F)))) w) : Sat (A * (B * (C * (D * F)))) w := H.of_eq (by ac_rfl)
theorem at_fin {A B C D : Asn} (H : Sat (A * (B * (C * (D * F)))) w) : Sat (B * ((C * D) * (A * F))) w := H.of_eq (by ac_rfl)
theorem xay (tr : Tk → Sq.T) (a b i c1 c2 : Int) (he : Hid (Sq.zgc M (a, b) = 0 ∧ ∃ q : Nat, i = q ∧ (tr (a, b)).toks[q]? = some (c1, c2))) (hT : Hid (Sq.TF M tr)) (hx : Hid x.Ok) (H : Sat (zas x (some M) * F) w)
  (h : ∀ w', Sat (zas x (some M) * F) w' → Io w w' → R (.returned (.tuple #[tkA c1 c2, .int .i64 0])) w') :
  Calls Tryz.prog 39 #[.pointer (some ⟨x.s, 0, none⟩), tkA a b, .int .i64 i] w R := by
 have HH := L_ h
 have FACTS := L_ (zwd H)
 have H1 := (((H.new (.cells #[.int .i64 a, .int .i64 b] 29)).new (.cells #[.int .i64 0, .int .i64 0] 29)).of_eq (show _ = zas x (some M) * (pts w.heap.size (.cells #[.int .i64 a, .int .i64 b] 29 (0, 0)) * (pts (w.alloc (.cells #[.int .i64 a, .int .i64 b] 29)).heap.size (.cells #[.int .i64 0, .int .i64 0] 29 (0, 0)) * F)) from by ac_rfl))
 have I1 := io2 H1 (Io.refl w)
 rw [World.size_alloc] at H1
 clear h H
 go_enter Tryz.func39, Tryz.ntmps39
 go_upto_region 1 with fail
 generalize (w.alloc _).alloc _ = w1 at *
 generalize w.heap.size = bx at *
 obtain ⟨y0, y1⟩ := tk2 H1.right
 go_upto_region 2 with (go_at_call 47; (with_reducible refine zdy tr a b hT hx H1 ?_); intro r1 r2 v1 v2 v3 v4 v5 v6 v7 v8 e2 w2 hr H2 I2; have HA := (H2.new (.cells #[.int .i64 0, .int .i64 0, .int .i64 0, .int .i64 0, .int .i64 0, .int .i64 0, .int .i64 0, .int .i64 0] 85)).of_eq (show _ = pts bx (.cells #[.int .i64 a, .int .i64 b] 29 (0, 0)) * (pts w2.heap.size (.cells #[.int .i64 0, .int .i64 0, .int .i64 0, .int .i64 0, .int .i64 0, .int .i64 0, .int .i64 0, .int .i64 0] 85 (0, 0)) * (zas x (some M) * (pts (bx + 1) (.cells #[.int .i64 0, .int .i64 0] 29 (0, 0)) * F))) from by ac_rfl); obtain ⟨g0, g1⟩ := tk2 HA; obtain ⟨g2, g3⟩ := zfr HA; have KE := z06 (zcu (.int .i64 r1) (.int .i64 r2) HA); have G := zby KE; obtain ⟨j0, j1, j2, j3, j4, j5, j6, j7⟩ := G; have G2 := nd8 KE; obtain ⟨i0, i1, i2, i3, i4, i5, i6, i7⟩ := G2; have KN := zay (.int .i64 v1) (.int .i64 v2) (.int .i64 v3) (.int .i64 v4) (.int .i64 v5) (.int .i64 v6) (.int .i64 v7) (.int .i64 v8) KE; have JN := zac (b := w2.heap.size) (.int .i64 v1) (.int .i64 v2) (.int .i64 v3) (.int .i64 v4) (.int .i64 v5) (.int .i64 v6) (.int .i64 v7) (.int .i64 v8) (zax (b := bx) (.int .i64 r1) (.int .i64 r2) ((I1.trans I2).alloc (.cells #[.int .i64 0, .int .i64 0, .int .i64 0, .int .i64 0, .int .i64 0, .int .i64 0, .int .i64 0, .int .i64 0] 85))))
 clear y0 y1 g0 g1 g2 g3 j0 j1 j2 j3 j4 j5 j6 j7 i0 i1 i2 i3 i4 i5 i6 i7 HA KE H1 I1 H2 I2
 generalize ((((((((((w2.alloc _).setCell ⟨bx, 0, none⟩ (.int .i64 r1)).setCell ⟨bx, 1, none⟩ (.int .i64 r2)).setCell ⟨w2.heap.size, 0, none⟩ (.int .i64 v1)).setCell ⟨w2.heap.size, 1, none⟩ (.int .i64 v2)).setCell ⟨w2.heap.size, 2, none⟩ (.int .i64 v3)).setCell ⟨w2.heap.size, 3, none⟩ (.int .i64 v4)).setCell ⟨w2.heap.size, 4, none⟩ (.int .i64 v5)).setCell ⟨w2.heap.size, 5, none⟩ (.int .i64 v6)).setCell ⟨w2.heap.size, 6, none⟩ (.int .i64 v7)).setCell ⟨w2.heap.size, 7, none⟩ (.int .i64 v8) = w3 at *
 generalize w2.heap.size = b6 at *
 have K3 : Sat (zas x (some M) * (pts (bx + 1) (.cells #[.int .i64 0, .int .i64 0] 29 (0, 0)) * (pts b6 (.cells #[.int .i64 v1, .int .i64 v2, .int .i64 v3, .int .i64 v4, .int .i64 v5, .int .i64 v6, .int .i64 v7, .int .i64 v8] 85 (0, 0)) * (pts bx (.cells #[.int .i64 r1, .int .i64 r2] 29 (0, 0)) * F)))) w3 := KN.of_eq (by ac_rfl)
 clear KN
 obtain ⟨rfl, ST⟩ : e2 = 0 ∧ Hid (∃ (q : Nat) (t : Sq.T), i = q ∧ t = tr (a, b) ∧ Sq.zt6 M t Sq.nob q (c1, c2) ∧ t.ht ≤ 255 ∧ t.cnt ≤ 250 ∧ (r1, r2) = t.top ∧ (⟨(v1, v2), (v3, v4), (v5, v6), v7, v8⟩ : Nd) = t.nd Sq.nob) := by
  rcases hr.out with h1 | ⟨_, h2, h3, _, h5, h6⟩
  ·exact absurd (h1.1.trans he.out.1) h1.2.1
  ·obtain ⟨_, q, hq, hg⟩ := he.out
   have ht := hT.out _ h3
   exact ⟨h2, L_ ⟨q, _, hq, rfl, ⟨ht.hold, ht.ok, hg⟩, by have := (tr (a, b)).zdw; have := ht.cnt; omega, ht.cnt, h5, h6⟩⟩
 obtain ⟨q0, hq0, hlt⟩ : ∃ q0 : Nat, i = q0 ∧ q0 < 250 ∧ (q0 : Int) < v7 := by
  obtain ⟨q, t, h1, _, h3, _, h5, _, h7⟩ := ST.out
  have h8 := List.getElem?_eq_some_iff.1 h3.get
  obtain ⟨h8, _⟩ := h8
  rw [Sq.T.zbl] at h8
  refine ⟨q, h1, by omega, ?_⟩
  obtain ⟨l, k, r, e⟩ := h3.ne
  subst e
  have : v7 = _ := congrArg Nd.count h7
  rw [this]
  exact Int.ofNat_lt.2 h8
 subst hq0
 have hp0 : (0 : Int) ≤ (q0 : Int) := by omega
 have hp1 : (q0 : Int) < 250 := by omega
 have hp2 := hlt.2
 have Z7 : w3.cell? ⟨b6, 6, none⟩ = some (.int .i64 v7) := (nd8 K3.right.right).2.2.2.2.2.2.1
 have START : Hid (∃ l r, Sq.zt6 M (.node l (r1, r2) r) (v1, v2) q0 (c1, c2) ∧ ((Sq.T.node l (r1, r2) r).ht : Int) ≤ 255 ∧ (⟨(v1, v2), (v3, v4), (v5, v6), v7, v8⟩ : Nd) = Sq.nod l r (v1, v2)) := L_ (by
  obtain ⟨q, t, h1, _, h3, h4, h5, h6, h7⟩ := ST.out
  obtain rfl : q = q0 := by omega
  obtain ⟨l, k, r, e⟩ := h3.ne
  subst e
  have e1 : (r1, r2) = k := h6
  subst e1
  have e2 : (⟨(v1, v2), (v3, v4), (v5, v6), v7, v8⟩ : Nd) = Sq.nod l r Sq.nob := h7
  have e3 : (v1, v2) = Sq.nob := congrArg Nd.up e2
  exact ⟨l, r, by rw [e3]; exact h3, by omega, by rw [e3]; rw [e3] at e2; exact e2⟩)
 clear ST hlt he hr
 go_wp2_with fail
 go_loopw [2, 10, 31] (fun xi xa xc wr => ∃ (j q : Nat) (l r : Sq.T) (k1 k2 n1 n2 n3 n4 n5 n6 n7 n8 : Int), Hid (Sq.zt6 M (.node l (k1, k2) r) (n1, n2) q (c1, c2)) ∧ Hid ((j : Int) + ((Sq.T.node l (k1, k2) r).ht : Int) ≤ 255) ∧ Hid ((⟨(n1, n2), (n3, n4), (n5, n6), n7, n8⟩ : Nd) = Sq.nod l r (n1, n2)) ∧ Hid (q < 250) ∧ xi = .int .i64 (q : Int) ∧ xc = .int .i64 (j : Int) ∧ Sat (zas x (some M) * (pts (bx + 1) (.cells #[.int .i64 0, .int .i64 0] 29 (0, 0)) * (pts b6 (.cells #[.int .i64 n1, .int .i64 n2, .int .i64 n3, .int .i64 n4, .int .i64 n5, .int .i64 n6, .int .i64 n7, .int .i64 n8] 85 (0, 0)) * (pts bx (.cells #[.int .i64 k1, .int .i64 k2] 29 (0, 0)) * F)))) wr ∧ Io w wr) (fun _ _ xc _ => 300 - (RowKit.intOf xc).toNat)
 case atStart =>
  obtain ⟨l, r, h1, h2, h3⟩ := START.out
  exact ⟨0, q0, l, r, r1, r2, v1, v2, v3, v4, v5, v6, v7, v8, L_ h1, L_ (by simpa using h2), L_ h3, L_ (by omega), rfl, rfl, K3, JN⟩
 case round =>
  clear K3 JN Z7 hp0 hp1 hp2 START
  obtain ⟨j, q, l, r, k1, k2, n1, n2, n3, n4, n5, n6, n7, n8, hs, hjt, hnd, hq, rfl, rfl, Hk, Ik⟩ := hrel
  have hj0 : (0 : Int) ≤ (j : Int) := by omega
  have hj1 : (j : Int) < 255 := by have := hjt.out; simp only [Sq.T.ht] at this; omega
  have hq0 : (0 : Int) ≤ (q : Int) := by omega
  have hq1 : (q : Int) < 250 := by have := hq.out; omega
  have HC : Hid (Sq.zd1 M (n3, n4) = (l.cnt : Int)) := L_ (by
   have e := congrArg Nd.left hnd.out
   have e : (n3, n4) = l.top := e
   rw [e]
   exact Sq.z2m hs.out.hold.2.1 FACTS.out.1)
  have HL : Hid ((n3, n4) = Sq.nob ∨ ∃ n, M (n3, n4) = some n) := L_ (by
   have e := congrArg Nd.left hnd.out
   have e : (n3, n4) = l.top := e
   rw [e]
   by_cases hl : l = .nil
   ·left; rw [hl]; rfl
   ·right; exact ⟨_, hs.out.hold.2.1.read hl⟩)
  obtain ⟨la, hla⟩ : ∃ la : Int, la = (l.cnt : Int) := ⟨_, rfl⟩
  rw [← hla] at HC
  have hla0 : (0 : Int) ≤ la := by omega
  have hla1 : la < 4294967296 := by
   have h1 := FACTS.out.2 _ _ hs.out.hold.1
   have h1 : zcb ((l.cnt + r.cnt + 1 : Nat) : Int) := h1
   unfold zcb at h1
   omega
  have HLA := L_ hla
  clear hla
  have Z := nd8 (z8w Hk)
  obtain ⟨z0, z1, z2, z3, z4, z5, z6, z7⟩ := Z
  have ag := Tryz.isAgg29
  go_upto_region 10 with (go_at_call 58; (with_reducible refine zq1 n3 n4 la HC (L_ FACTS.out.1) HL hx Hk ?_); intro s1 s2 s3 s4 s5 s6 s8 w4 H4 I4; have FC := fun W => ziz s1 s2 s3 s4 s5 s6 la s8 W)
  have J4 := Ik.trans I4
  clear FC
  clear z0 z1 z2 z3 z4 z5 z6 z7 Hk Ik I4
  have B1 := tk2 H4.right.right.right
  obtain ⟨b0, b1⟩ := B1
  obtain ⟨y0, y1⟩ := zb3 H4
  rcases Int.lt_trichotomy (q : Int) la with hc | hc | hc
  ·have hci : (q : Int) < la := hc
   have hcn : ¬ (q : Int) = la := by omega
   have CH := L_ (hs.out.left (by have := HLA.out; omega))
   obtain ⟨l2, kk, r2, he2, hM⟩ := CH.out.kid
   obtain ⟨k1', k2'⟩ := kk
   obtain ⟨nl, hnl⟩ : ∃ nl, nl = Sq.nod l2 r2 (k1, k2) := ⟨_, rfl⟩
   obtain ⟨⟨m1, m2⟩, ⟨m3, m4⟩, ⟨m5, m6⟩, m7, m8⟩ := nl
   rw [← hnl] at hM
   have HM := L_ hM
   have HT : Hid ((j : Int) + 1 + ((Sq.T.node l2 (k1', k2') r2).ht : Int) ≤ 255) := L_ (by have h1 := hjt.out; have h2 := congrArg Sq.T.ht he2; simp only [Sq.T.ht] at h1 h2 ⊢; omega)
   have HN : Hid ((⟨(m1, m2), (m3, m4), (m5, m6), m7, m8⟩ : Nd) = Sq.nod l2 r2 (m1, m2)) := L_ (by have e : (m1, m2) = (k1, k2) := congrArg Nd.up hnl; rw [e]; rw [e] at hnl; exact hnl)
   have HU : Hid ((k1, k2) = (m1, m2)) := L_ (by have e : (m1, m2) = (k1, k2) := congrArg Nd.up hnl; exact e.symm)
   have EC : (n3, n4) = (k1', k2') := by
    have e : (n3, n4) = _ := congrArg Nd.left hnd.out
    exact e.trans (congrArg Sq.T.top he2)
   obtain ⟨rfl, rfl⟩ : n3 = k1' ∧ n4 = k2' := by simpa using EC
   have CH2 : Hid (Sq.zt6 M (.node l2 (n3, n4) r2) (m1, m2) (q) (c1, c2)) := L_ (by rw [← he2, ← HU.out]; exact CH.out)
   have HQ2 : Hid (q < 250) := L_ (by have := hq.out; omega)
   have HCC := L_ hc
   clear hnl hM EC he2 CH HL HC hs hjt hnd hc
   have Z := nd8 (z8w H4)
   obtain ⟨z0, z1, z2, z3, z4, z5, z6, z7⟩ := Z
   obtain ⟨f0, f1⟩ := zfr H4.right.right.right
   have K5 := z3g (zcu (.int .i64 n3) (.int .i64 n4) (z3f H4))
   have J5 := zax (b := bx) (.int .i64 n3) (.int .i64 n4) J4
   obtain ⟨g0, g1⟩ := tk2 K5.right.right.right
   go_upto_region 15 with (go_at_call 58; (with_reducible refine zdo n3 n4 HM hx K5 ?_); intro w6 H6 I6; have J6 := J5.trans I6; have GF := zby (z8w H6); obtain ⟨p0, p1, p2, p3, p4, p5, p6, p7⟩ := GF; have GC := nd8 (z8w H6); obtain ⟨o0, o1, o2, o3, o4, o5, o6, o7⟩ := GC)
   have KN := at_nb (zay (.int .i64 m1) (.int .i64 m2) (.int .i64 m3) (.int .i64 m4) (.int .i64 m5) (.int .i64 m6) (.int .i64 m7) (.int .i64 m8) (z8w H6))
   have JN := zac (b := b6) (.int .i64 m1) (.int .i64 m2) (.int .i64 m3) (.int .i64 m4) (.int .i64 m5) (.int .i64 m6) (.int .i64 m7) (.int .i64 m8) J6
   clear b0 b1 y0 y1 z0 z1 z2 z3 z4 z5 z6 z7 f0 f1 g0 g1 p0 p1 p2 p3 p4 p5 p6 p7 o0 o1 o2 o3 o4 o5 o6 o7 K5 J5 J6 J4 H4 H6 I6
   generalize ((((((((w6).setCell ⟨b6, 0, none⟩ (.int .i64 m1)).setCell ⟨b6, 1, none⟩ (.int .i64 m2)).setCell ⟨b6, 2, none⟩ (.int .i64 m3)).setCell ⟨b6, 3, none⟩ (.int .i64 m4)).setCell ⟨b6, 4, none⟩ (.int .i64 m5)).setCell ⟨b6, 5, none⟩ (.int .i64 m6)).setCell ⟨b6, 6, none⟩ (.int .i64 m7)).setCell ⟨b6, 7, none⟩ (.int .i64 m8) = w7 at *
   obtain ⟨y0, y1⟩ := zb3 KN
   go_wp2_with fail
   go_roundw
   case rel => exact ⟨j + 1, q, l2, r2, n3, n4, m1, m2, m3, m4, m5, m6, m7, m8, CH2, L_ (by have := HT.out; omega), HN, HQ2, rfl, by go_num, KN, JN⟩
   case measure => simp [RowKit.intOf]; omega
  ·subst hc
   have EQ : Hid ((c1, c2) = (k1, k2)) := L_ (hs.out.here (by have := HLA.out; omega))
   obtain ⟨rfl, rfl⟩ : c1 = k1 ∧ c2 = k2 := by have := EQ.out; simpa using this
   obtain ⟨f0, f1⟩ := zfr H4.right
   obtain ⟨f2, f3⟩ := tk2 H4.right
   have KE := at_fin (z06 (zcu (.int .i64 c1) (.int .i64 c2) (z06 H4)))
   have JE := zax (b := bx + 1) (.int .i64 c1) (.int .i64 c2) J4
   obtain ⟨g0, g1⟩ := tk2 KE
   have FIN := L_ (HH.out _ KE.right.right JE)
   clear EQ HL HC hs hjt hnd FACTS
   go_wp2_with fail
   have hag := Tryz.isAgg29
   have hsz := Tryz.sizeOf29
   exact bodyPost_ret (v := .tuple #[tkA c1 c2, .int .i64 0]) (by simp [results, Tryz.results39, go_sem, g0, g1]) rfl FIN.out
  ·have hci : ¬ (q : Int) < la := by omega
   have hcn : ¬ (q : Int) = la := by omega
   have CH := L_ (hs.out.right (by have := HLA.out; omega))
   obtain ⟨l2, kk, r2, he2, hM⟩ := CH.out.kid
   obtain ⟨k1', k2'⟩ := kk
   obtain ⟨nl, hnl⟩ : ∃ nl, nl = Sq.nod l2 r2 (k1, k2) := ⟨_, rfl⟩
   obtain ⟨⟨m1, m2⟩, ⟨m3, m4⟩, ⟨m5, m6⟩, m7, m8⟩ := nl
   rw [← hnl] at hM
   have HM := L_ hM
   have HT : Hid ((j : Int) + 1 + ((Sq.T.node l2 (k1', k2') r2).ht : Int) ≤ 255) := L_ (by have h1 := hjt.out; have h2 := congrArg Sq.T.ht he2; simp only [Sq.T.ht] at h1 h2 ⊢; omega)
   have HN : Hid ((⟨(m1, m2), (m3, m4), (m5, m6), m7, m8⟩ : Nd) = Sq.nod l2 r2 (m1, m2)) := L_ (by have e : (m1, m2) = (k1, k2) := congrArg Nd.up hnl; rw [e]; rw [e] at hnl; exact hnl)
   have HU : Hid ((k1, k2) = (m1, m2)) := L_ (by have e : (m1, m2) = (k1, k2) := congrArg Nd.up hnl; exact e.symm)
   have EC : (n5, n6) = (k1', k2') := by
    have e : (n5, n6) = _ := congrArg Nd.right hnd.out
    exact e.trans (congrArg Sq.T.top he2)
   obtain ⟨rfl, rfl⟩ : n5 = k1' ∧ n6 = k2' := by simpa using EC
   have CH2 : Hid (Sq.zt6 M (.node l2 (n5, n6) r2) (m1, m2) (q - l.cnt - 1) (c1, c2)) := L_ (by rw [← he2, ← HU.out]; exact CH.out)
   have HQ2 : Hid (q - l.cnt - 1 < 250) := L_ (by have := hq.out; omega)
   have HCC := L_ hc
   clear hnl hM EC he2 CH HL HC hs hjt hnd hc
   have Z := nd8 (z8w H4)
   obtain ⟨z0, z1, z2, z3, z4, z5, z6, z7⟩ := Z
   obtain ⟨f0, f1⟩ := zfr H4.right.right.right
   have K5 := z3g (zcu (.int .i64 n5) (.int .i64 n6) (z3f H4))
   have J5 := zax (b := bx) (.int .i64 n5) (.int .i64 n6) J4
   obtain ⟨g0, g1⟩ := tk2 K5.right.right.right
   go_upto_region 15 with (go_at_call 58; (with_reducible refine zdo n5 n6 HM hx K5 ?_); intro w6 H6 I6; have J6 := J5.trans I6; have GF := zby (z8w H6); obtain ⟨p0, p1, p2, p3, p4, p5, p6, p7⟩ := GF; have GC := nd8 (z8w H6); obtain ⟨o0, o1, o2, o3, o4, o5, o6, o7⟩ := GC)
   have KN := at_nb (zay (.int .i64 m1) (.int .i64 m2) (.int .i64 m3) (.int .i64 m4) (.int .i64 m5) (.int .i64 m6) (.int .i64 m7) (.int .i64 m8) (z8w H6))
   have JN := zac (b := b6) (.int .i64 m1) (.int .i64 m2) (.int .i64 m3) (.int .i64 m4) (.int .i64 m5) (.int .i64 m6) (.int .i64 m7) (.int .i64 m8) J6
   clear b0 b1 y0 y1 z0 z1 z2 z3 z4 z5 z6 z7 f0 f1 g0 g1 p0 p1 p2 p3 p4 p5 p6 p7 o0 o1 o2 o3 o4 o5 o6 o7 K5 J5 J6 J4 H4 H6 I6
   generalize ((((((((w6).setCell ⟨b6, 0, none⟩ (.int .i64 m1)).setCell ⟨b6, 1, none⟩ (.int .i64 m2)).setCell ⟨b6, 2, none⟩ (.int .i64 m3)).setCell ⟨b6, 3, none⟩ (.int .i64 m4)).setCell ⟨b6, 4, none⟩ (.int .i64 m5)).setCell ⟨b6, 5, none⟩ (.int .i64 m6)).setCell ⟨b6, 6, none⟩ (.int .i64 m7)).setCell ⟨b6, 7, none⟩ (.int .i64 m8) = w7 at *
   obtain ⟨y0, y1⟩ := zb3 KN
   go_wp2_with fail
   go_roundw
   case rel => exact ⟨j + 1, q - l.cnt - 1, l2, r2, n5, n6, m1, m2, m3, m4, m5, m6, m7, m8, CH2, L_ (by have := HT.out; omega), HN, HQ2, by have := HLA.out; have := HCC.out; go_num, by go_num, KN, JN⟩
   case measure => simp [RowKit.intOf]; omega
end
end Go.Proofs.YtfknjmoekbabcaaGreatDoor
namespace Go.Proofs.YtfknjmoekbabcaaGreatDoor
open Go.RowKit Go.Lib
open Sq (Tk Nd Mp zcb InT Fr)
open Sq.Z (Step)
theorem nd10 {F : Asn} {w : World} {b : Nat} {t : TypeId} {v0 v1 v2 v3 v4 v5 v6 v7 v8 v9 : Value} (H : Sat (pts b (.cells #[v0, v1, v2, v3, v4, v5, v6, v7, v8, v9] t (0, 0)) * F) w) :
  w.cell? ⟨b, 0, none⟩ = some v0 ∧ w.cell? ⟨b, 1, none⟩ = some v1 ∧ w.cell? ⟨b, 2, none⟩ = some v2 ∧ w.cell? ⟨b, 3, none⟩ = some v3 ∧ w.cell? ⟨b, 4, none⟩ = some v4 ∧ w.cell? ⟨b, 5, none⟩ = some v5 ∧ w.cell? ⟨b, 6, none⟩ = some v6 ∧ w.cell? ⟨b, 7, none⟩ = some v7 ∧ w.cell? ⟨b, 8, none⟩ = some v8 ∧ w.cell? ⟨b, 9, none⟩ = some v9 :=
 ⟨Sat.read H.left.at 0, Sat.read H.left.at 1, Sat.read H.left.at 2, Sat.read H.left.at 3, Sat.read H.left.at 4, Sat.read H.left.at 5, Sat.read H.left.at 6, Sat.read H.left.at 7, Sat.read H.left.at 8, Sat.read H.left.at 9⟩
theorem zhx {g c n : Nat} {l : List Sp} {F : Asn} {w : World} {x1 x2 u1 u2 p1 p2 q1 q2 ct ht : Int} (H : Sat (zc9 (.slice (some ⟨g, 0, none⟩) n c) l * F) w) (k : Nat) (h : l[k]? = some ((x1, x2), ⟨(u1, u2), (p1, p2), (q1, q2), ct, ht⟩)) :
  w.cell? ⟨g, k * 10, none⟩ = some (.int .i64 x1) ∧ w.cell? ⟨g, k * 10 + 1, none⟩ = some (.int .i64 x2) ∧ w.cell? ⟨g, k * 10 + 2, none⟩ = some (.int .i64 u1) ∧ w.cell? ⟨g, k * 10 + 3, none⟩ = some (.int .i64 u2) ∧ w.cell? ⟨g, k * 10 + 4, none⟩ = some (.int .i64 p1) ∧ w.cell? ⟨g, k * 10 + 5, none⟩ = some (.int .i64 p2) ∧ w.cell? ⟨g, k * 10 + 6, none⟩ = some (.int .i64 q1) ∧ w.cell? ⟨g, k * 10 + 7, none⟩ = some (.int .i64 q2) ∧ w.cell? ⟨g, k * 10 + 8, none⟩ = some (.int .i64 ct) ∧ w.cell? ⟨g, k * 10 + 9, none⟩ = some (.int .i64 ht) := by
 obtain ⟨hk, e⟩ := List.getElem?_eq_some_iff.1 h
 exact ⟨za3 zc6 H k hk 0 (by omega) _ (by rw [e]; rfl), za3 zc6 H k hk 1 (by omega) _ (by rw [e]; rfl), za3 zc6 H k hk 2 (by omega) _ (by rw [e]; rfl), za3 zc6 H k hk 3 (by omega) _ (by rw [e]; rfl), za3 zc6 H k hk 4 (by omega) _ (by rw [e]; rfl), za3 zc6 H k hk 5 (by omega) _ (by rw [e]; rfl), za3 zc6 H k hk 6 (by omega) _ (by rw [e]; rfl), za3 zc6 H k hk 7 (by omega) _ (by rw [e]; rfl), za3 zc6 H k hk 8 (by omega) _ (by rw [e]; rfl), za3 zc6 H k hk 9 (by omega) _ (by rw [e]; rfl)⟩
section
variable {x : Sx} {F : Asn} {w : World} {R : Ending → World → Prop} {m0 : Option Mp} {all A B : List Tk}
theorem zhd (k1 k2 : Int) (hx : Hid x.Ok) (H : Sat (zas x none * F) w) (h : ∀ w', Sat (zas x none * F) w' → Io w w' → R (.returned (.tuple #[])) w') :
  Calls Tryz.prog 48 #[.pointer (some ⟨x.s, 0, none⟩), tkA k1 k2] w R := by
 by_cases e : (k1, k2) = Sq.nob
 ·exact zwc k1 k2 (L_ e) H h
 ·exact zqx k1 k2 (L_ e) hx H h
def z8y (m0 m' : Option Mp) (all A B : List Tk) : Prop := ∀ M', m' = some M' → ∃ a b : Sq.T, a.toks = A ∧ b.toks = B ∧ a.Bal ∧ b.Bal ∧ Sq.zc0 M' a Sq.nob ∧ Sq.zc0 M' b Sq.nob ∧ ∃ M0, m0 = some M0 ∧ ∀ y, y ∉ all → M' y = M0 y
theorem zrj : z8y m0 none all A B := fun M' h => nomatch h
theorem xbz {m : Option Mp} {t : Sq.T} {ts : List Sq.T} {ks : List Tk} (f : Fr m0 m all (t :: ts) ks) : Fr m m t.toks [t] [] where
 nodup := by rw [Sq.zcf, List.append_nil]; exact (f.toks (t := t) (by simp)).2.2
 ok := fun y hy => by rw [Sq.zcf, List.append_nil] at hy; exact (f.toks (t := t) (by simp)).1 y hy
 cnt := by rw [Sq.zcf, List.append_nil, Sq.T.zbl]; exact (f.toks (t := t) (by simp)).2.1
 sub := fun y hy => by rw [Sq.zcf, List.append_nil] at hy; exact hy
 own := fun M e => ⟨M, e, fun s hs => by rw [List.mem_singleton] at hs; subst hs; exact f.hold e (by simp), fun k hk => by simp at hk, fun _ _ => rfl⟩
theorem z0i {M : Mp} {L R : Sq.T} {m7 m8 : Option Mp} {way : List Step} {i : Nat} (h : Sq.zfo m0 (some M) all A B way i L R) (hi : way.length ≤ i) (h7 : Fr m0 m7 all (L :: [R]) [] ∧ ∀ M', m7 = some M' → Sq.zc0 M' L Sq.nob) (h8 : Fr m7 m8 R.toks (R :: []) [] ∧ ∀ M', m8 = some M' → Sq.zc0 M' R Sq.nob) : z8y m0 m8 all A B := fun M' e => by
 obtain ⟨h1, h2, h3, h4, h5⟩ := h.done hi
 obtain ⟨M7, e7, _, _, h6⟩ := h8.1.own M' e
 obtain ⟨M0, e0, _, _, h9⟩ := h7.1.own M7 e7
 have nd := h7.1.nodup
 rw [Sq.zd0, List.append_nil, List.nodup_append] at nd
 have hs : ∀ y ∈ R.toks, y ∈ all := fun y hy => h7.1.sub y (by rw [Sq.zd0, List.append_nil]; exact List.mem_append_right _ hy)
 exact ⟨L, R, h1, h2, h3, h4, (h7.2 M7 e7).congr fun y hy => h6 y (fun hn => nd.2.2 _ hy _ hn rfl), h8.2 M' e, M0, e0, fun y hy => (h6 y fun hn => hy (hs y hn)).trans (h9 y hy)⟩
theorem z0j {A B C D : Asn} (H : Sat (A * (B * (C * (D * F)))) w) : Sat (A * (D * F)) w := (H.of_eq (show _ = (B * C) * (A * (D * F)) from by ac_rfl)).right
theorem pa_new {A B C D E : Asn} (H : Sat (E * (A * (B * (C * (D * F))))) w) : Sat (A * (B * (C * (D * (E * F))))) w := H.of_eq (by ac_rfl)
theorem pa_l {A C D : Asn} {b : Nat} {t : TypeId} {z0 z1 : Value} (v0 v1 : Value) (H : Sat (A * (pts b (.cells #[z0, z1] t (0, 0)) * (C * (D * F)))) w) : Sat (A * (pts b (.cells #[v0, v1] t (0, 0)) * (C * (D * F)))) ((w.setCell ⟨b, 0, none⟩ v0).setCell ⟨b, 1, none⟩ v1) :=
 (zcu v0 v1 (H.of_eq (show _ = pts b (.cells #[z0, z1] t (0, 0)) * (A * (C * (D * F))) from by ac_rfl))).of_eq (by ac_rfl)
theorem pa_r {A B D : Asn} {b : Nat} {t : TypeId} {z0 z1 : Value} (v0 v1 : Value) (H : Sat (A * (B * (pts b (.cells #[z0, z1] t (0, 0)) * (D * F)))) w) : Sat (A * (B * (pts b (.cells #[v0, v1] t (0, 0)) * (D * F)))) ((w.setCell ⟨b, 0, none⟩ v0).setCell ⟨b, 1, none⟩ v1) :=
 (zcu v0 v1 (H.of_eq (show _ = pts b (.cells #[z0, z1] t (0, 0)) * (A * (B * (D * F))) from by ac_rfl))).of_eq (by ac_rfl)
theorem z0k {A B C D E : Asn} (H : Sat (A * (B * (C * (D * (E * F))))) w) : Sat (A * (B * (C * (D * F)))) w := (H.of_eq (show _ = E * (A * (B * (C * (D * F)))) from by ac_rfl)).right
theorem zzl {m1 : Option Mp} (way : List Step) (L0 R0 : Sq.T) (l01 l02 r01 r02 : Int) (v : Value) (hl : Hid (Sq.zfo m0 m1 all A B way 1 L0 R0)) (al0 : Hid (∀ M, m1 = some M → (l01, l02) = L0.top ∧ (r01, r02) = R0.top)) (hw : Hid (1 ≤ way.length ∧ way.length ≤ 255)) (hx : Hid x.Ok) (H : Sat (zas x m1 * (zc9 v (way.map zng) * F)) w)
  (h : ∀ m' w', Hid (z8y m0 m' all A B) → Sat (zas x m' * (zc9 v (way.map zng) * F)) w' → Io w w' → R (.returned (.tuple #[])) w') :
  Calls Tryz.prog 51 #[.pointer (some ⟨x.s, 0, none⟩), v, tkA l01 l02, tkA r01 r02] w R := by
 have HH := L_ h
 obtain ⟨g, c, hv⟩ : ∃ g c, v = .slice (some ⟨g, 0, none⟩) (way.map zng).length c := zcp (H.of_eq (show _ = zc9 v (way.map zng) * (zas x m1 * F) from by unfold zc9; ac_rfl)) (by rw [List.length_map]; have := hw.out.1; omega)
 rw [List.length_map] at hv
 subst hv
 obtain ⟨wn, hwn⟩ : ∃ wn : Nat, wn = way.length := ⟨_, rfl⟩
 rw [← hwn] at H h HH ⊢
 have HWN := L_ hwn
 have hwi : (wn : Int) ≤ 255 := by have := hw.out.2; omega
 have hwp : (1 : Int) ≤ (wn : Int) := by have := hw.out.1; omega
 have H1 := ((H.new (.cells #[.int .i64 l01, .int .i64 l02] 29)).new (.cells #[.int .i64 r01, .int .i64 r02] 29)).of_eq (show _ = zas x m1 * (pts w.heap.size (.cells #[.int .i64 l01, .int .i64 l02] 29 (0, 0)) * (pts (w.alloc (.cells #[.int .i64 l01, .int .i64 l02] 29)).heap.size (.cells #[.int .i64 r01, .int .i64 r02] 29 (0, 0)) * (zc9 (.slice (some ⟨g, 0, none⟩) wn c) (way.map zng) * F))) from by unfold zc9; ac_rfl)
 have I1 := io2 H1 (Io.refl w)
 rw [World.size_alloc] at H1
 clear h H hwn
 go_enter Tryz.func51, Tryz.ntmps51
 go_upto_region 1 with fail
 generalize (w.alloc _).alloc _ = w1 at *
 generalize w.heap.size = bx at *
 go_wp2_with fail
 go_loopw [8] (fun xi wr => ∃ (i : Nat) (m : Option Mp) (Lt Rt : Sq.T) (l1 l2 r1 r2 : Int), Hid (Sq.zfo m0 m all A B way i Lt Rt) ∧ Hid (∀ M, m = some M → (l1, l2) = Lt.top ∧ (r1, r2) = Rt.top) ∧ Hid (1 ≤ i ∧ i ≤ wn) ∧ xi = .int .i64 (i : Int) ∧ Sat (zas x m * (pts bx (.cells #[.int .i64 l1, .int .i64 l2] 29 (0, 0)) * (pts (bx + 1) (.cells #[.int .i64 r1, .int .i64 r2] 29 (0, 0)) * (zc9 (.slice (some ⟨g, 0, none⟩) wn c) (way.map zng) * F)))) wr ∧ Io w wr) (fun xi _ => 300 - (RowKit.intOf xi).toNat)
 case atStart => exact ⟨1, m1, L0, R0, l01, l02, r01, r02, hl, al0, L_ (by omega), rfl, H1, I1⟩
 case round =>
  clear H1 I1 hl al0
  obtain ⟨i, m, Lt, Rt, l1, l2, r1, r2, hlp, al, hi, rfl, Hk, Ik⟩ := hrel
  have hi0 : (1 : Int) ≤ (i : Int) := by have := hi.out; omega
  have hi1 : (i : Int) ≤ 255 := by have := hi.out; omega
  obtain ⟨b0, b1⟩ := tk2 Hk.right
  obtain ⟨b2, b3⟩ := tk2 Hk.right.right
  cases m with
  | none =>
   obtain ⟨y0, y1⟩ := znq Hk
   by_cases hlt : (i : Int) < (wn : Int)
   ·go_wp2_with (first
     | (go_at_call 48; (with_reducible refine zhd l1 l2 hx Hk ?_); intro w5 H5 I5; have Z5 := tk2 H5.right.right; obtain ⟨z2, z3⟩ := Z5)
     | (go_at_call 48; (with_reducible refine zhd r1 r2 hx H5 ?_); intro w6 H6 I6)
     | fail)
    go_end0
    exact HH.out none _ (L_ zrj) (z0j H6) ((Ik.trans I5).trans I6)
   ·go_wp2_with (first
     | (go_at_call 48; (with_reducible refine zhd l1 l2 hx Hk ?_); intro w5 H5 I5; have Z5 := tk2 H5.right.right; obtain ⟨z2, z3⟩ := Z5)
     | (go_at_call 48; (with_reducible refine zhd r1 r2 hx H5 ?_); intro w6 H6 I6)
     | fail)
    go_end0
    exact HH.out none _ (L_ zrj) (z0j H6) ((Ik.trans I5).trans I6)
  | some M =>
   obtain ⟨y0, y1⟩ := zb3 Hk
   by_cases hlt : (i : Int) < (wn : Int)
   ·obtain ⟨p, s, hp, hs, D⟩ := hlp.out.step (by have := HWN.out; omega)
    obtain ⟨⟨e1, e2⟩, pn, pf⟩ := p
    obtain ⟨⟨x1, x2⟩, ⟨⟨u1, u2⟩, ⟨p1, p2⟩, ⟨q1, q2⟩, ct, ht⟩, sf⟩ := s
    have D := L_ D
    obtain ⟨j, hj⟩ : ∃ j, i = j + 1 := ⟨i - 1, by have := hi.out; omega⟩
    have hsub : (i : Int) - 1 = (j : Int) := by omega
    have hj0 : (0 : Int) ≤ (j : Int) := by omega
    have hjn : (j : Int) < (wn : Int) := by omega
    have KR : Sat (zc9 (.slice (some ⟨g, 0, none⟩) wn c) (way.map zng) * (zas x (some M) * (pts bx (.cells #[.int .i64 l1, .int .i64 l2] 29 (0, 0)) * (pts (bx + 1) (.cells #[.int .i64 r1, .int .i64 r2] 29 (0, 0)) * F)))) wr := Hk.of_eq (by unfold zc9; ac_rfl)
    have C := zhx KR i (x1 := x1) (x2 := x2) (u1 := u1) (u2 := u2) (p1 := p1) (p2 := p2) (q1 := q1) (q2 := q2) (ct := ct) (ht := ht) (by rw [List.getElem?_map, hs]; rfl)
    obtain ⟨d0, d1, d2, d3, d4, d5, d6, d7, d8, d9⟩ := C
    have KN := pa_new (Hk.new (.cells #[.int .i64 x1, .int .i64 x2, .int .i64 u1, .int .i64 u2, .int .i64 p1, .int .i64 p2, .int .i64 q1, .int .i64 q2, .int .i64 ct, .int .i64 ht] 94))
    have JN := io1 KN Ik
    have HP := L_ hp
    have HJ := L_ hj
    have hs := L_ hs
    clear hp hj KR
    go_upto_region 5 with fail
    clear d0 d1 d2 d3 d4 d5 d6 d7 d8 d9
    clear b0 b1 b2 b3 y0 y1 Hk Ik
    generalize wr.alloc _ = w3 at *
    generalize wr.heap.size = b9 at *
    have KN9 : Sat (pts b9 (.cells #[.int .i64 x1, .int .i64 x2, .int .i64 u1, .int .i64 u2, .int .i64 p1, .int .i64 p2, .int .i64 q1, .int .i64 q2, .int .i64 ct, .int .i64 ht] 94 (0, 0)) * (zc9 (.slice (some ⟨g, 0, none⟩) wn c) (way.map zng) * (zas x (some M) * (pts bx (.cells #[.int .i64 l1, .int .i64 l2] 29 (0, 0)) * (pts (bx + 1) (.cells #[.int .i64 r1, .int .i64 r2] 29 (0, 0)) * F))))) w3 := KN.of_eq (by unfold zc9; ac_rfl)
    have C := nd10 KN9
    obtain ⟨d0, d1, d2, d3, d4, d5, d6, d7, d8, d9⟩ := C
    have C := zhx KN9.right j (x1 := e1) (x2 := e2) (u1 := pn.up.1) (u2 := pn.up.2) (p1 := pn.left.1) (p2 := pn.left.2) (q1 := pn.right.1) (q2 := pn.right.2) (ct := pn.count) (ht := pn.height) (by rw [List.getElem?_map]; have := HP.out; rw [HJ.out, Nat.add_sub_cancel] at this; rw [this]; rfl)
    obtain ⟨a0, a1, -⟩ := C
    obtain ⟨b0, b1⟩ := tk2 KN.right
    obtain ⟨b2, b3⟩ := tk2 KN.right.right
    have Hn := fun n => KN.drewN n
    have In := fun n => JN.drewN n
    have EQ := fun W => zce e1 e2 p1 p2 W
    obtain ⟨eq, heq⟩ : ∃ e, e = decide ((e1, e2) = (p1, p2)) := ⟨_, rfl⟩
    rw [← heq] at EQ
    have HE := L_ heq
    clear heq KN9 KN JN
    cases eq with
    | true =>
     obtain ⟨⟨s, ts, ks, hr, fr, br, bs, nx⟩⟩ : Sq.z99 m0 (some M) all A B way i Lt Rt (x1, x2) (q1, q2) := by
      rcases D.out with ⟨_, h⟩ | ⟨h, _⟩
      ·exact h
      ·exact absurd (of_decide_eq_true HE.out.symm) h
     have HN : Hid ((Rt).ht + (s).ht ≤ (Rt).ht + (s).ht) := L_ (Nat.le_refl _)
     have AL : Hid (∀ M', some M = some M' → ((r1, r2) : Tk) = (Rt).top ∧ ((q1, q2) : Tk) = (s).top) := L_ fun M' e => ⟨(al.out M rfl).2, hr⟩
     have FRR := L_ fr
     have BB : Hid ((Rt).Bal ∧ (s).Bal) := L_ ⟨br, bs⟩
     have NX := L_ nx
     have HI := L_ hi0
     clear hr fr br bs nx HE D
     go_wp2_with fail
     go_quiet (fail)
     go_upto_region 3 with (go_at_call 52; (refine zgf _ (Rt) (s) r1 r2 x1 x2 q1 q2 HN AL FRR BB hx (Hn _) ?_); intro m5 v1 v2 t w5 D5 H5 I5; have J5 := (In _).trans I5; obtain ⟨f0, f1⟩ := zfr H5.right.right; obtain ⟨c0, c1⟩ := tk2 H5.right.right)
     have KE := z0k (pa_r (.int .i64 v1) (.int .i64 v2) H5)
     have JE := zax (b := bx + 1) (.int .i64 v1) (.int .i64 v2) J5
     clear b0 b1 b2 b3 d0 d1 d2 d3 d4 d5 d6 d7 d8 d9 a0 a1 EQ Hn In
     go_wp2_with fail
     go_roundw
     case rel => exact ⟨i + 1, m5, Lt, t, l1, l2, v1, v2, L_ (NX.out m5 t (v1, v2) D5.out), L_ (fun M' e => ⟨(al.out M rfl).1, (D5.out.2.2 M' e).1⟩), L_ (by have := hi.out; omega), by go_num, KE, JE⟩
     case measure => simp [RowKit.intOf]; omega
    | false =>
     obtain ⟨⟨s, ts, ks, hr, fr, br, bs, nx⟩⟩ : Sq.xaa m0 (some M) all A B way i Lt Rt (x1, x2) (p1, p2) := by
      rcases D.out with ⟨h, _⟩ | ⟨_, h⟩
      ·exact absurd h (of_decide_eq_false HE.out.symm)
      ·exact h
     have HN : Hid ((s).ht + (Lt).ht ≤ (s).ht + (Lt).ht) := L_ (Nat.le_refl _)
     have AL : Hid (∀ M', some M = some M' → ((p1, p2) : Tk) = (s).top ∧ ((l1, l2) : Tk) = (Lt).top) := L_ fun M' e => ⟨hr, (al.out M rfl).1⟩
     have FRR := L_ fr
     have BB : Hid ((s).Bal ∧ (Lt).Bal) := L_ ⟨br, bs⟩
     have NX := L_ nx
     have HI := L_ hi0
     clear hr fr br bs nx HE D
     go_wp2_with fail
     go_quiet (fail)
     go_upto_region 3 with (go_at_call 52; (refine zgf _ (s) (Lt) p1 p2 x1 x2 l1 l2 HN AL FRR BB hx (Hn _) ?_); intro m5 v1 v2 t w5 D5 H5 I5; have J5 := (In _).trans I5; obtain ⟨f0, f1⟩ := zfr H5.right; obtain ⟨c0, c1⟩ := tk2 H5.right)
     have KE := z0k (pa_l (.int .i64 v1) (.int .i64 v2) H5)
     have JE := zax (b := bx) (.int .i64 v1) (.int .i64 v2) J5
     clear b0 b1 b2 b3 d0 d1 d2 d3 d4 d5 d6 d7 d8 d9 a0 a1 EQ Hn In
     go_wp2_with fail
     go_roundw
     case rel => exact ⟨i + 1, m5, t, Rt, v1, v2, r1, r2, L_ (NX.out m5 t (v1, v2) D5.out), L_ (fun M' e => ⟨(D5.out.2.2 M' e).1, (al.out M rfl).2⟩), L_ (by have := hi.out; omega), by go_num, KE, JE⟩
     case measure => simp [RowKit.intOf]; omega
   ·have HW : way.length ≤ i := by have := HWN.out; omega
    obtain ⟨h1, h2, h3, h4, h5⟩ := hlp.out.done HW
    have AL1 : Hid (∀ M', some M = some M' → (l1, l2) = Lt.top) := L_ fun M' e => (al.out M' e).1
    have FR1 := L_ h5
    have ER := L_ ((al.out M rfl).2)
    clear h1 h2 h3 h4 h5
    go_wp2_with (first
     | (go_at_call 48; (with_reducible refine zk0 Lt l1 l2 AL1 FR1 hx Hk ?_); intro m5 w5 D5 H5 I5; have Z5 := tk2 H5.right.right; obtain ⟨z2, z3⟩ := Z5; have FR2 := L_ (xbz (D5.out.1.perm (List.Perm.swap _ _ _) (List.Perm.refl _))); have AL2 : Hid (∀ M', m5 = some M' → (r1, r2) = Rt.top) := L_ fun M' e => ER.out)
     | (go_at_call 48; (with_reducible refine zk0 Rt r1 r2 AL2 FR2 hx H5 ?_); intro m6 w6 D6 H6 I6)
     | fail)
    go_end0
    exact HH.out m6 _ (L_ (z0i hlp.out HW D5.out D6.out)) (z0j H6) ((Ik.trans I5).trans I6)
end
end Go.Proofs.YtfknjmoekbabcaaGreatDoor
