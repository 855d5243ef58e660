/-
  A part of a proof. It proves no statement by itself.
-/
import Derived.Test.YtfknjmoekbabcaaGreatDoorA40
import Derived.Test.YtfknjmoekbabcaaGreatDoorA41
import Derived.Test.YtfknjmoekbabcaaGreatDoorA04
import Derived.Test.YtfknjmoekbabcaaGreatDoorA25
set_option linter.unusedSimpArgs false
set_option linter.unusedVariables false
set_option linter.unusedSectionVars false
set_option maxRecDepth 100000
set_option maxHeartbeats 64000000
namespace Go.Proofs.YtfknjmoekbabcaaGreatDoor
open Go.RowKit Go.Lib
open Sq (Tk Nd Mp zcb InT Fr)
open Sq.Z (Step)
namespace Sq
structure zga (M : Mp) (t : T) (k : Tk) : Prop where
 hold : zc0 M t nob
 mem : k ∈ t.toks
 ok : ∀ y ∈ t.toks, OkT y
 cnt : t.cnt ≤ 250
 bal : t.Bal
 nodup : t.toks.Nodup
theorem zio (z : Z) (t : T) : ∀ y ∈ t.toks, y ∈ (z.zcq t).toks := fun y hy => by rw [Z.zbz]; simp [hy]
theorem zh9 {M : Mp} {l r : T} {z : Z} {k : Tk} (h : zga M (z.zcq (.node l k r)) k) : zte M (z.way l k r nob) where
 len := by
  unfold Z.way
  rw [List.length_cons, Z.zv1]
  have h1 := Z.zvf z (.node l k r)
  have h2 := (z.zcq (.node l k r)).zdw
  have h3 := h.cnt
  simp only [T.ht] at h1
  omega
 here := fun s hs => by
  obtain ⟨h1, h2⟩ := Z.zgq h.hold
  unfold Z.way at hs
  rcases List.mem_cons.1 hs with rfl | hs
  ·exact ⟨h1.1, h.ok _ h.mem⟩
  ·exact ⟨Z.zqc h2 s hs, h.ok _ (Z.zqb z _ _ s hs)⟩
 chain := Z.zyx z l k r nob
theorem z4u (z : Z) (l : T) (k : Tk) (r : T) : ∃ s, (z.way l k r nob)[(z.way l k r nob).length - 1]? = some s ∧ s.k = (z.zcq (.node l k r)).top ∧ s.n = (z.zcq (.node l k r)).nd nob := by
 have hne : z.way l k r nob ≠ [] := by unfold Z.way; simp
 refine ⟨(z.way l k r nob).getLast hne, ?_, ?_, ?_⟩
 ·rw [List.getLast_eq_getElem hne]
  exact List.getElem?_eq_getElem _
 ·exact Z.zug z (.node l k r) nob ⟨k, nod l r (z.up nob), nob⟩ rfl
 ·exact Z.zu9 z (.node l k r) nob ⟨k, nod l r (z.up nob), nob⟩ rfl
theorem For.at {M : Mp} {ts : List T} (f : For M ts) (hc : (flat ts).length ≤ 250) {k : Tk} (h : k ∈ flat ts) : ∃ (hi : fi (ts.map T.toks) k < ts.length), zga M (ts[fi (ts.map T.toks) k]'hi) k ∧ rowOf (ts.map T.toks) k = (ts[fi (ts.map T.toks) k]'hi).toks := by
 obtain ⟨hi, hm, e⟩ := f.tree h
 have hmem := List.getElem_mem hi
 exact ⟨hi, ⟨f.hold _ hmem, hm, fun y hy => f.ok y (zdi.2 ⟨_, hmem, hy⟩), by have := f.len_le hmem; omega, f.bal _ hmem, f.zhc hmem⟩, e⟩
def zr2 (way : List Step) : Nat → Nd
 | 0 => nd0
 | i + 1 => match way[i]? with | some s => s.n | none => nd0
theorem zn6 {way : List Step} {i : Nat} {s : Step} (h : way[i]? = some s) : zr2 way (i + 1) = s.n := by
 show (match way[i]? with | some s => s.n | none => nd0) = s.n
 rw [h]
end Sq
section
variable {x : Sx} {M : Mp} {F : Asn} {w : World} {R : Ending → World → Prop}
abbrev ndAt (b : Nat) (n : Nd) : Asn := pts b (.cells #[.int .i64 n.up.1, .int .i64 n.up.2, .int .i64 n.left.1, .int .i64 n.left.2, .int .i64 n.right.1, .int .i64 n.right.2, .int .i64 n.count, .int .i64 n.height] 85 (0, 0))
theorem xcd (args : Array Value) (w : World) : (callFunc 80 args).run Tryz.prog w = .ok (.enter 80 args) w := enters_of Tryz.func80 (by kernel_rfl) rfl args w
theorem te_out {A B C D E : Asn} (H : Sat (A * (B * (C * (D * (E * F))))) w) : Sat (E * (A * F)) w := (H.of_eq (show _ = (B * (C * D)) * (E * (A * F)) from by ac_rfl)).right
theorem tp_in {A B C D : Asn} (H : Sat (A * (B * (C * (D * F)))) w) : Sat (D * (A * (B * (C * F)))) w := H.of_eq (by ac_rfl)
theorem xaj {A : Asn} {b1 b2 : Nat} {t1 t2 : TypeId} {x0 x1 y0 y1 y2 y3 y4 y5 y6 y7 : Value} (H : Sat (A * (pts b2 (.cells #[y0, y1, y2, y3, y4, y5, y6, y7] t2 (0, 0)) * (pts b1 (.cells #[x0, x1] t1 (0, 0)) * F))) w) :
  Sat (A * (pts b2 (.cells #[.int .i64 0, .int .i64 0, .int .i64 0, .int .i64 0, .int .i64 0, .int .i64 0, .int .i64 0, .int .i64 0] t2 (0, 0)) * (pts b1 (.cells #[.int .i64 0, .int .i64 0] t1 (0, 0)) * F))) ((((((((((w.setCell ⟨b1, 0, none⟩ (.int .i64 0)).setCell ⟨b1, 1, none⟩ (.int .i64 0)).setCell ⟨b2, 0, none⟩ (.int .i64 0)).setCell ⟨b2, 1, none⟩ (.int .i64 0)).setCell ⟨b2, 2, none⟩ (.int .i64 0)).setCell ⟨b2, 3, none⟩ (.int .i64 0)).setCell ⟨b2, 4, none⟩ (.int .i64 0)).setCell ⟨b2, 5, none⟩ (.int .i64 0)).setCell ⟨b2, 6, none⟩ (.int .i64 0)).setCell ⟨b2, 7, none⟩ (.int .i64 0)) := by
 have h1 := zcu (.int .i64 0) (.int .i64 0) (H.of_eq (show _ = pts b1 (.cells #[x0, x1] t1 (0, 0)) * (pts b2 (.cells #[y0, y1, y2, y3, y4, y5, y6, y7] t2 (0, 0)) * (A * F)) from by ac_rfl))
 have h2 := zay (.int .i64 0) (.int .i64 0) (.int .i64 0) (.int .i64 0) (.int .i64 0) (.int .i64 0) (.int .i64 0) (.int .i64 0) (zaj h1)
 exact h2.of_eq (by ac_rfl)
theorem zoq {A : Asn} {b9 bl : Nat} {t9 tl : TypeId} {x0 x1 y0 y1 y2 y3 y4 y5 y6 y7 : Value} (H : Sat (pts b9 (.cells #[x0, x1] t9 (0, 0)) * (A * (pts bl (.cells #[y0, y1, y2, y3, y4, y5, y6, y7] tl (0, 0)) * F))) w) :
  (w.cell? ⟨b9, 0, none⟩ = some x0 ∧ w.cell? ⟨b9, 1, none⟩ = some x1) ∧ (w.cell? ⟨bl, 0, none⟩ = some y0 ∧ w.cell? ⟨bl, 1, none⟩ = some y1 ∧ w.cell? ⟨bl, 2, none⟩ = some y2 ∧ w.cell? ⟨bl, 3, none⟩ = some y3 ∧ w.cell? ⟨bl, 4, none⟩ = some y4 ∧ w.cell? ⟨bl, 5, none⟩ = some y5 ∧ w.cell? ⟨bl, 6, none⟩ = some y6 ∧ w.cell? ⟨bl, 7, none⟩ = some y7) := ⟨tk2 H, nd8 H.right.right⟩
theorem xak {A S N : Asn} {b1 b2 : Nat} {t1 t2 : TypeId} {z0 z1 y0 y1 y2 y3 y4 y5 y6 y7 : Value} (x0 x1 u0 u1 u2 u3 u4 u5 u6 u7 : Value) (H : Sat (A * (S * (N * (pts b2 (.cells #[y0, y1, y2, y3, y4, y5, y6, y7] t2 (0, 0)) * (pts b1 (.cells #[z0, z1] t1 (0, 0)) * F))))) w) :
  Sat (A * (S * (N * (pts b2 (.cells #[y0, y1, y2, y3, y4, y5, y6, y7] t2 (0, 0)) * (pts b1 (.cells #[x0, x1] t1 (0, 0)) * F))))) ((w.setCell ⟨b1, 0, none⟩ x0).setCell ⟨b1, 1, none⟩ x1) ∧
  Sat (A * (S * (N * (pts b2 (.cells #[u0, u1, u2, u3, u4, u5, u6, u7] t2 (0, 0)) * (pts b1 (.cells #[x0, x1] t1 (0, 0)) * F))))) ((((((((((w.setCell ⟨b1, 0, none⟩ x0).setCell ⟨b1, 1, none⟩ x1).setCell ⟨b2, 0, none⟩ u0).setCell ⟨b2, 1, none⟩ u1).setCell ⟨b2, 2, none⟩ u2).setCell ⟨b2, 3, none⟩ u3).setCell ⟨b2, 4, none⟩ u4).setCell ⟨b2, 5, none⟩ u5).setCell ⟨b2, 6, none⟩ u6).setCell ⟨b2, 7, none⟩ u7) := by
 have h1 := zcu x0 x1 (H.of_eq (show _ = pts b1 (.cells #[z0, z1] t1 (0, 0)) * (pts b2 (.cells #[y0, y1, y2, y3, y4, y5, y6, y7] t2 (0, 0)) * (A * (S * (N * F)))) from by ac_rfl))
 have h2 := zay u0 u1 u2 u3 u4 u5 u6 u7 (zaj h1)
 exact ⟨h1.of_eq (by ac_rfl), h2.of_eq (by ac_rfl)⟩
theorem xal {A S N B C D : Asn} (H : Sat (A * (S * (N * (B * (C * (D * F)))))) w) : Sat (S * F) w := (H.of_eq (show _ = (A * (N * (B * (C * D)))) * (S * F) from by ac_rfl)).right
theorem tp_end {A B C D : Asn} (H : Sat (A * (B * (C * (D * F)))) w) : Sat (A * F) w := (H.of_eq (show _ = (B * (C * D)) * (A * F) from by ac_rfl)).right
theorem z4z (way : List Step) (bl : Nat) : zt5 x M 80 #[.pointer (some ⟨bl, 0, none⟩)] way (fun i => ndAt bl (Sq.zr2 way i)) := by
 intro F w R i s hs H h
 obtain ⟨⟨k1, k2⟩, ⟨⟨u1, u2⟩, ⟨p1, p2⟩, ⟨q1, q2⟩, ct, ht⟩, ⟨f1, f2⟩⟩ := s
 change Sat (zas x (some M) * (ndAt bl (Sq.zr2 way i) * F)) w at H
 change ∀ w', Sat (zas x (some M) * (ndAt bl (Sq.zr2 way (i + 1)) * F)) w' → Io w w' → R (.returned (.tuple #[])) w' at h
 have HH := L_ h
 generalize Sq.zr2 way i = n0 at *
 obtain ⟨⟨v1, v2⟩, ⟨v3, v4⟩, ⟨v5, v6⟩, v7, v8⟩ := n0
 have e1 : Sq.zr2 way (i + 1) = ⟨(u1, u2), (p1, p2), (q1, q2), ct, ht⟩ := Sq.zn6 hs
 rw [e1] at HH
 have H1 := (((H.new (.cells #[.int .i64 k1, .int .i64 k2] 29)).new (.cells #[.int .i64 u1, .int .i64 u2, .int .i64 p1, .int .i64 p2, .int .i64 q1, .int .i64 q2, .int .i64 ct, .int .i64 ht] 85)).new (.cells #[.int .i64 f1, .int .i64 f2] 29)).of_eq (show _ = pts bl (.cells #[.int .i64 v1, .int .i64 v2, .int .i64 v3, .int .i64 v4, .int .i64 v5, .int .i64 v6, .int .i64 v7, .int .i64 v8] 85 (0, 0)) * (pts (((w.alloc (.cells #[.int .i64 k1, .int .i64 k2] 29)).alloc (.cells #[.int .i64 u1, .int .i64 u2, .int .i64 p1, .int .i64 p2, .int .i64 q1, .int .i64 q2, .int .i64 ct, .int .i64 ht] 85)).heap.size) (.cells #[.int .i64 f1, .int .i64 f2] 29 (0, 0)) * (pts ((w.alloc (.cells #[.int .i64 k1, .int .i64 k2] 29)).heap.size) (.cells #[.int .i64 u1, .int .i64 u2, .int .i64 p1, .int .i64 p2, .int .i64 q1, .int .i64 q2, .int .i64 ct, .int .i64 ht] 85 (0, 0)) * (pts w.heap.size (.cells #[.int .i64 k1, .int .i64 k2] 29 (0, 0)) * (zas x (some M) * F)))) from by ac_rfl)
 have I1 := io3 H1 (Io.refl w)
 simp only [World.size_alloc, Nat.add_assoc, Nat.reduceAdd] at H1
 clear h H e1 hs
 show Calls Tryz.prog 80 #[tkA k1 k2, ndA u1 u2 p1 p2 q1 q2 ct ht, tkA f1 f2, .pointer (some ⟨bl, 0, none⟩)] w R
 go_enter Tryz.func80, Tryz.ntmps80
 go_upto_region 1 with fail
 generalize ((w.alloc _).alloc _).alloc _ = w1 at *
 generalize w.heap.size = bx at *
 have Q := nd8 H1
 obtain ⟨q0, q1', q2', q3, q4, q5, q6, q7⟩ := Q
 have G := zby H1
 obtain ⟨g0, g1, g2, g3, g4, g5, g6, g7⟩ := G
 have P := nd8 H1.right.right
 obtain ⟨r0, r1, r2, r3, r4, r5, r6, r7⟩ := P
 have KE := zay (.int .i64 u1) (.int .i64 u2) (.int .i64 p1) (.int .i64 p2) (.int .i64 q1) (.int .i64 q2) (.int .i64 ct) (.int .i64 ht) H1
 have JE := zac (b := bl) (.int .i64 u1) (.int .i64 u2) (.int .i64 p1) (.int .i64 p2) (.int .i64 q1) (.int .i64 q2) (.int .i64 ct) (.int .i64 ht) I1
 have FIN := L_ (HH.out _ (te_out KE) JE)
 go_wp2_with fail
 go_end0
 exact FIN.out
theorem zzd (a b : Int) {e : Int} (he : Hid (e = Sq.zgc M (a, b))) (hne : Hid (e ≠ 0)) (hx : Hid x.Ok) (H : Sat (zas x (some M) * F) w) (h : ∀ w', Sat (zas x (some M) * F) w' → Io w w' → R (.returned (.tuple #[tkA 0 0, ndA 0 0 0 0 0 0 0 0, .int .i64 e])) w') :
  Calls Tryz.prog 47 #[.pointer (some ⟨x.s, 0, none⟩), tkA a b] w R := by
 have HH := L_ h
 have H1 := tp_in (((H.new (.cells #[.int .i64 a, .int .i64 b] 29)).new (.cells #[.int .i64 0, .int .i64 0] 29)).new (.cells #[.int .i64 0, .int .i64 0, .int .i64 0, .int .i64 0, .int .i64 0, .int .i64 0, .int .i64 0, .int .i64 0] 85))
 have I1 := io3 H1 (Io.refl w)
 simp only [World.size_alloc, Nat.add_assoc, Nat.reduceAdd] at H1
 have K1 := zaj (H1.new (.cells #[.int .i64 a, .int .i64 b] 29))
 have J1 := io1 K1 I1
 clear h H
 go_enter Tryz.func47, Tryz.ntmps47
 go_upto_region 1 with fail
 generalize ((w.alloc _).alloc _).alloc _ = w1 at *
 generalize w.heap.size = bx at *
 obtain ⟨y0, y1⟩ := tk2 H1.right.right.right
 go_upto_region 2 with (go_at_call 44; (with_reducible refine zdq a b he hx K1 ?_); intro w2 H2 I2; have K2 := zc7 H2; have J2 := J1.trans I2)
 clear y0 y1 H1 I1 K1 J1 H2 I2
 have de : decide (e = 0) = false := decide_eq_false hne.out
 have be : (e == 0) = false := by simpa using hne.out
 have bn : (e != 0) = true := by simpa using hne.out
 obtain ⟨f0, f1⟩ := zfr K2.right.right
 obtain ⟨g0, g1⟩ := tk2 K2.right.right
 have G := zby K2.right
 obtain ⟨g2, g3, g4, g5, g6, g7, g8, g9⟩ := G
 have KE := xaj K2
 have Q := nd8 K2.right
 obtain ⟨h0, h1, h2, h3, h4, h5, h6, h7⟩ := Q
 have Z := nd8 KE.right
 obtain ⟨z0, z1, z2, z3, z4, z5, z6, z7⟩ := Z
 obtain ⟨y2, y3⟩ := tk2 KE.right.right
 have JE := zac (b := bx + 2) (.int .i64 0) (.int .i64 0) (.int .i64 0) (.int .i64 0) (.int .i64 0) (.int .i64 0) (.int .i64 0) (.int .i64 0) (zax (b := bx + 1) (.int .i64 0) (.int .i64 0) J2)
 have FIN := L_ (HH.out _ (tp_end KE) JE)
 go_wp2_with fail
 have hag := Tryz.isAgg29
 have hsz := Tryz.sizeOf29
 have hag2 := Tryz.isAgg85
 have hsz2 := Tryz.sizeOf85
 exact bodyPost_ret (v := .tuple #[tkA 0 0, ndA 0 0 0 0 0 0 0 0, .int .i64 e]) (by simp [results, Tryz.results47, go_sem, z0, z1, z2, z3, z4, z5, z6, z7, y2, y3]) rfl FIN.out
theorem z5d (t : Sq.T) (a b : Int) (ht : Hid (Sq.zga M t (a, b))) (hx : Hid x.Ok) (H : Sat (zas x (some M) * F) w)
  (h : ∀ r1 r2 v1 v2 v3 v4 v5 v6 v7 v8 w', Hid ((r1, r2) = t.top ∧ t.nd Sq.nob = ⟨(v1, v2), (v3, v4), (v5, v6), v7, v8⟩) → Sat (zas x (some M) * F) w' → Io w w' → R (.returned (.tuple #[tkA r1 r2, ndA v1 v2 v3 v4 v5 v6 v7 v8, .int .i64 0])) w') :
  Calls Tryz.prog 47 #[.pointer (some ⟨x.s, 0, none⟩), tkA a b] w R := by
 have HH := L_ h
 obtain ⟨l, r, z, hz⟩ := Sq.Z.find t .top ht.out.mem
 have hz' : t = z.zcq (.node l (a, b) r) := hz
 have HZ := L_ hz'
 have HW : Hid (zte M (z.way l (a, b) r Sq.nob)) := L_ (Sq.zh9 (hz' ▸ ht.out))
 have HL := L_ (Sq.z4u z l (a, b) r)
 have H0 : Hid ((z.way l (a, b) r Sq.nob)[0]? = some ⟨(a, b), Sq.nod l r (z.up Sq.nob), Sq.nob⟩ ∧ (⟨(a, b), Sq.nod l r (z.up Sq.nob), Sq.nob⟩ : Step).fr = Sq.nob) := L_ ⟨rfl, rfl⟩
 have HK : Hid ((⟨(a, b), Sq.nod l r (z.up Sq.nob), Sq.nob⟩ : Step).k = (a, b)) := L_ rfl
 generalize z.way l (a, b) r Sq.nob = way at *
 generalize (⟨(a, b), Sq.nod l r (z.up Sq.nob), Sq.nob⟩ : Step) = s0 at *
 obtain ⟨e, hee⟩ : ∃ e : Int, e = 0 := ⟨0, rfl⟩
 have hb0 : Sq.zgc M (a, b) = 0 := by
  unfold Sq.zgc
  rw [if_neg (not_not_intro (ht.out.ok _ ht.out.mem)), if_neg]
  obtain ⟨n, hn⟩ := ht.out.hold.some _ ht.out.mem
  rw [hn]; simp
 have he : Hid (e = Sq.zgc M (a, b)) := L_ (hee.trans hb0.symm)
 clear hb0 hz hz'
 have H1 := tp_in (((H.new (.cells #[.int .i64 a, .int .i64 b] 29)).new (.cells #[.int .i64 0, .int .i64 0] 29)).new (.cells #[.int .i64 0, .int .i64 0, .int .i64 0, .int .i64 0, .int .i64 0, .int .i64 0, .int .i64 0, .int .i64 0] 85))
 have I1 := io3 H1 (Io.refl w)
 simp only [World.size_alloc, Nat.add_assoc, Nat.reduceAdd] at H1
 have K1 := zaj (H1.new (.cells #[.int .i64 a, .int .i64 b] 29))
 have J1 := io1 K1 I1
 clear h H
 go_enter Tryz.func47, Tryz.ntmps47
 go_upto_region 1 with fail
 generalize ((w.alloc _).alloc _).alloc _ = w1 at *
 generalize w.heap.size = bx at *
 obtain ⟨y0, y1⟩ := tk2 H1.right.right.right
 go_upto_region 2 with (go_at_call 44; (with_reducible refine zdq a b he hx K1 ?_); intro w2 H2 I2; have K2 := zc7 H2; have J2 := J1.trans I2)
 clear y0 y1 H1 I1 K1 J1 H2 I2
 subst hee
 go_upto_region 5 with fail
 have K3 := (K2.new (.cells #[.int .i64 0, .int .i64 0, .int .i64 0, .int .i64 0, .int .i64 0, .int .i64 0, .int .i64 0, .int .i64 0] 85))
 have J3 := io1 K3 J2
 generalize w2.alloc _ = w3 at *
 generalize w2.heap.size = bl at *
 obtain ⟨y0, y1⟩ := tk2 K3.right.right.right.right
 have K4 : Sat (zas x (some M) * (ndAt bl (Sq.zr2 way 0) * (pts (bx + 2) (.cells #[.int .i64 0, .int .i64 0, .int .i64 0, .int .i64 0, .int .i64 0, .int .i64 0, .int .i64 0, .int .i64 0] 85 (0, 0)) * (pts (bx + 1) (.cells #[.int .i64 0, .int .i64 0] 29 (0, 0)) * (pts bx (.cells #[.int .i64 a, .int .i64 b] 29 (0, 0)) * F))))) w3 := zaj K3
 go_upto_region 6 with (go_at_call 70; (refine zja xcd (z4z way bl) HW s0 H0 a b HK hx K4 ?_); intro r1 r2 w4 hr H4 I4; have K5 := H4.new (.cells #[.int .i64 r1, .int .i64 r2] 29); have J5 := (J3.trans I4).alloc (.cells #[.int .i64 r1, .int .i64 r2] 29))
 clear y0 y1 K3 J3 K4 K2 J2 I4
 generalize w4.alloc _ = w5 at *
 generalize w4.heap.size = b9 at *
 obtain ⟨sl, hl1, hl2, hl3⟩ := HL.out
 have HR : Hid ((r1, r2) = t.top) := L_ (by
  obtain ⟨s', e1, e2⟩ := hr.out
  rw [hl1] at e1
  cases e1
  rw [← e2, hl2, HZ.out])
 have hlast : Sq.zr2 way way.length = t.nd Sq.nob := by
  obtain ⟨hi, -⟩ := List.getElem?_eq_some_iff.1 hl1
  cases hw : way.length with
  | zero => rw [hw] at hi; omega
  | succ n =>
   have hl4 : way[n]? = some sl := by rw [hw] at hl1; exact hl1
   rw [Sq.zn6 hl4, hl3, HZ.out]
 rw [hlast] at K5
 have HT : Hid (t.nd Sq.nob = t.nd Sq.nob) := L_ rfl
 generalize t.nd Sq.nob = n at *
 obtain ⟨⟨v1, v2⟩, ⟨v3, v4⟩, ⟨v5, v6⟩, v7, v8⟩ := n
 obtain ⟨y0, y1⟩ := zb3 K5.right
 clear H4 HL hl1 hl2 hl3 hr hlast HZ HW H0 HK
 go_upto_region 8 with fail
 clear y0 y1
 have Kd := K5.drew
 have Jd := J5.drew
 clear K5 J5
 have S0 := zoq Kd
 have FL := xak (.int .i64 r1) (.int .i64 r2) (.int .i64 v1) (.int .i64 v2) (.int .i64 v3) (.int .i64 v4) (.int .i64 v5) (.int .i64 v6) (.int .i64 v7) (.int .i64 v8) Kd
 obtain ⟨f0, f1⟩ := zfr Kd.right.right.right.right
 obtain ⟨g0, g1⟩ := tk2 Kd.right.right.right.right
 have G := zby FL.1.right.right.right
 obtain ⟨g2, g3, g4, g5, g6, g7, g8, g9⟩ := G
 have Q := nd8 FL.1.right.right.right
 obtain ⟨h0, h1, h2, h3, h4, h5, h6, h7⟩ := Q
 have JE := zac (b := bx + 2) (.int .i64 v1) (.int .i64 v2) (.int .i64 v3) (.int .i64 v4) (.int .i64 v5) (.int .i64 v6) (.int .i64 v7) (.int .i64 v8) (zax (b := bx + 1) (.int .i64 r1) (.int .i64 r2) Jd)
 refine rh Kd (fun W Kd => zoq Kd) fun hHeld => ?_
 generalize w5.drew = wd at *
 refine tk ?_ ?_ [0, 1] ?_ hHeld ?_; rotate_left 2; exact tt
 refine rd [2] (rc fun K hK => ?_)
 go_simp
 refine hK.out _ _ (by exact zoq FL.1) fun hHeld => ?_
 clear hK K
 try simp only [sp]
 refine rd [3] (rc fun K hK => ?_)
 go_simp
 refine hK.out _ _ (by exact zoq FL.2) fun hHeld => ?_
 clear hK K
 try simp only [sp]
 refine tk ?_ ?_ [4] ?_ hHeld ?_; rotate_left 2; exact tt
 refine wpAnyH_done (by kernel_rfl) ?_ _
 have Z := nd8 FL.2.right.right.right
 obtain ⟨z0, z1, z2, z3, z4, z5, z6, z7⟩ := Z
 obtain ⟨y2, y3⟩ := tk2 FL.2.right.right.right.right
 have FIN := L_ (HH.out r1 r2 v1 v2 v3 v4 v5 v6 v7 v8 _ (L_ ⟨HR.out, HT.out⟩) (xal FL.2) JE)
 go_wp2_with fail
 have hag := Tryz.isAgg29
 have hsz := Tryz.sizeOf29
 have hag2 := Tryz.isAgg85
 have hsz2 := Tryz.sizeOf85
 exact bodyPost_ret (v := .tuple #[tkA r1 r2, ndA v1 v2 v3 v4 v5 v6 v7 v8, .int .i64 0]) (by simp [results, Tryz.results47, go_sem, z0, z1, z2, z3, z4, z5, z6, z7, y2, y3]) rfl FIN.out
end
end Go.Proofs.YtfknjmoekbabcaaGreatDoor
namespace Go.Proofs.YtfknjmoekbabcaaGreatDoor
open Go.RowKit Go.Lib
open Sq (Tk Nd Mp zcb InT Fr)
namespace Sq
def TF (M : Mp) (tr : Tk → T) : Prop := ∀ k, M k ≠ none → zga M (tr k) k
def TopR (M : Mp) (tr : Tk → T) (k r : Tk) (n : Nd) (e : Int) : Prop := (e = zgc M k ∧ e ≠ 0 ∧ r = (0, 0) ∧ n = nd0) ∨ (zgc M k = 0 ∧ e = 0 ∧ M k ≠ none ∧ OkT k ∧ r = (tr k).top ∧ n = (tr k).nd nob)
def zd5 (ts : List T) (k : Tk) : T := ts[fi (ts.map T.toks) k]?.getD .nil
theorem For.tf {M : Mp} {ts : List T} (f : For M ts) (hc : (flat ts).length ≤ 250) : TF M (zd5 ts) := fun k hk => by
 obtain ⟨hi, h1, _⟩ := f.at hc (f.here.1 hk)
 unfold zd5
 rw [List.getElem?_eq_getElem hi]
 exact h1
end Sq
section
variable {x : Sx} {M : Mp} {F : Asn} {w : World} {R : Ending → World → Prop} {tr : Tk → Sq.T}
theorem zdy (tr : Tk → Sq.T) (a b : Int) (hT : Hid (Sq.TF M tr)) (hx : Hid x.Ok) (H : Sat (zas x (some M) * F) w)
  (h : ∀ r1 r2 v1 v2 v3 v4 v5 v6 v7 v8 e w', Hid (Sq.TopR M tr (a, b) (r1, r2) ⟨(v1, v2), (v3, v4), (v5, v6), v7, v8⟩ e) → Sat (zas x (some M) * F) w' → Io w w' → R (.returned (.tuple #[tkA r1 r2, ndA v1 v2 v3 v4 v5 v6 v7 v8, .int .i64 e])) w') :
  Calls Tryz.prog 47 #[.pointer (some ⟨x.s, 0, none⟩), tkA a b] w R := by
 rcases zed M (a, b) with ⟨q1, q2⟩ | ⟨q1, q2, q3⟩ | ⟨q1, q2, q3⟩
 ·exact zzd a b (e := 30) (L_ q1.symm) (L_ (by decide)) hx H fun w' H' I => h 0 0 0 0 0 0 0 0 0 0 30 w' (L_ (.inl ⟨q1.symm, by decide, rfl, rfl⟩)) H' I
 ·exact zzd a b (e := 181) (L_ q1.symm) (L_ (by decide)) hx H fun w' H' I => h 0 0 0 0 0 0 0 0 0 0 181 w' (L_ (.inl ⟨q1.symm, by decide, rfl, rfl⟩)) H' I
 ·exact z5d (tr (a, b)) a b (L_ (hT.out _ q3)) hx H fun r1 r2 v1 v2 v3 v4 v5 v6 v7 v8 w' hr H' I => h r1 r2 v1 v2 v3 v4 v5 v6 v7 v8 0 w' (L_ (.inr ⟨q1, rfl, q3, q2, hr.out.1, hr.out.2.symm⟩)) H' I
theorem wr_in {A B : Asn} {C : Asn} (H : Sat (A * (B * (C * F))) w) : Sat (C * (A * (B * F))) w := H.of_eq (by ac_rfl)
theorem z81 {A B C D : Asn} (H : Sat (A * (B * (C * (D * F)))) w) : Sat (C * F) w := (H.of_eq (show _ = (A * (B * D)) * (C * F) from by ac_rfl)).right
theorem zxj (tr : Tk → Sq.T) (a b : Int) (hT : Hid (Sq.TF M tr)) (hx : Hid x.Ok) (H : Sat (zas x (some M) * F) w)
  (h : ∀ r1 r2 v1 v2 v3 v4 v5 v6 v7 v8 e w', Hid (Sq.TopR M tr (a, b) (r1, r2) ⟨(v1, v2), (v3, v4), (v5, v6), v7, v8⟩ e) → Sat (zas x (some M) * F) w' → Io w w' → R (.returned (.tuple #[.int .i64 v7, .int .i64 e])) w') :
  Calls Tryz.prog 38 #[.pointer (some ⟨x.s, 0, none⟩), tkA a b] w R := by
 have HH := L_ h
 have H1 := zaj (H.new (.cells #[.int .i64 a, .int .i64 b] 29))
 have I1 := io1 H1 (Io.refl w)
 clear h H
 go_enter Tryz.func38, Tryz.ntmps38
 go_upto_region 1 with fail
 generalize w.alloc _ = w1 at *
 generalize w.heap.size = bx at *
 obtain ⟨y0, y1⟩ := tk2 H1.right
 go_upto_region 2 with (go_at_call 47; (with_reducible refine zdy tr a b hT hx H1 ?_); intro r1 r2 v1 v2 v3 v4 v5 v6 v7 v8 e w2 hr H2 I2; have K2 := (H2.new (.cells #[.int .i64 r1, .int .i64 r2] 29)).new (.cells #[.int .i64 v1, .int .i64 v2, .int .i64 v3, .int .i64 v4, .int .i64 v5, .int .i64 v6, .int .i64 v7, .int .i64 v8] 85); have J2 := ((I1.trans I2).alloc (.cells #[.int .i64 r1, .int .i64 r2] 29)).alloc (.cells #[.int .i64 v1, .int .i64 v2, .int .i64 v3, .int .i64 v4, .int .i64 v5, .int .i64 v6, .int .i64 v7, .int .i64 v8] 85))
 rw [World.size_alloc] at K2
 clear y0 y1 H1 I1 H2 I2
 generalize (w2.alloc _).alloc _ = w3 at *
 generalize w2.heap.size = b6 at *
 have Z := nd8 K2
 obtain ⟨-, -, -, -, -, -, z6, z7⟩ := Z
 have FIN := L_ (HH.out r1 r2 v1 v2 v3 v4 v5 v6 v7 v8 e _ hr (z81 K2) J2)
 go_wp2_with fail
 first | exact FIN.out | exact bodyPost_ret (v := .tuple #[.int .i64 v7, .int .i64 e]) (by simp [results, Tryz.results38, go_sem]) rfl FIN.out
theorem zuo (tr : Tk → Sq.T) (a b : Int) (hT : Hid (Sq.TF M tr)) (hx : Hid x.Ok) (H : Sat (zas x (some M) * F) w)
  (h : ∀ r1 r2 v1 v2 v3 v4 v5 v6 v7 v8 e w', Hid (Sq.TopR M tr (a, b) (r1, r2) ⟨(v1, v2), (v3, v4), (v5, v6), v7, v8⟩ e) → Sat (zas x (some M) * F) w' → Io w w' → R (.returned (.tuple #[.int .i64 v8, .int .i64 e])) w') :
  Calls Tryz.prog 18 #[.pointer (some ⟨x.s, 0, none⟩), tkA a b] w R := by
 have HH := L_ h
 have H1 := zaj (H.new (.cells #[.int .i64 a, .int .i64 b] 29))
 have I1 := io1 H1 (Io.refl w)
 clear h H
 go_enter Tryz.func18, Tryz.ntmps18
 go_upto_region 1 with fail
 generalize w.alloc _ = w1 at *
 generalize w.heap.size = bx at *
 obtain ⟨y0, y1⟩ := tk2 H1.right
 go_upto_region 2 with (go_at_call 47; (with_reducible refine zdy tr a b hT hx H1 ?_); intro r1 r2 v1 v2 v3 v4 v5 v6 v7 v8 e w2 hr H2 I2; have K2 := (H2.new (.cells #[.int .i64 r1, .int .i64 r2] 29)).new (.cells #[.int .i64 v1, .int .i64 v2, .int .i64 v3, .int .i64 v4, .int .i64 v5, .int .i64 v6, .int .i64 v7, .int .i64 v8] 85); have J2 := ((I1.trans I2).alloc (.cells #[.int .i64 r1, .int .i64 r2] 29)).alloc (.cells #[.int .i64 v1, .int .i64 v2, .int .i64 v3, .int .i64 v4, .int .i64 v5, .int .i64 v6, .int .i64 v7, .int .i64 v8] 85))
 rw [World.size_alloc] at K2
 clear y0 y1 H1 I1 H2 I2
 generalize (w2.alloc _).alloc _ = w3 at *
 generalize w2.heap.size = b6 at *
 have Z := nd8 K2
 obtain ⟨-, -, -, -, -, -, z6, z7⟩ := Z
 have FIN := L_ (HH.out r1 r2 v1 v2 v3 v4 v5 v6 v7 v8 e _ hr (z81 K2) J2)
 go_wp2_with fail
 first | exact FIN.out | exact bodyPost_ret (v := .tuple #[.int .i64 v8, .int .i64 e]) (by simp [results, Tryz.results18, go_sem]) rfl FIN.out
theorem zjm (M : Mp) (a b : Tk) : (Sq.zee M a b ≠ 0 ∧ (Sq.zee M a b = 30 ∨ Sq.zee M a b = 181)) ∨ (Sq.zee M a b = 0 ∧ Sq.zgc M a = 0 ∧ Sq.zgc M b = 0) := by
 unfold Sq.zee Sq.zgc
 by_cases h1 : Sq.OkT a <;> by_cases h2 : Sq.OkT b <;> by_cases h3 : M a = none <;> by_cases h4 : M b = none <;> simp [h1, h2, h3, h4]
theorem xah {B C D : Asn} (H : Sat (B * (C * (D * F))) w) : Sat (B * F) w := (H.of_eq (show _ = (C * D) * (B * F) from by ac_rfl)).right
theorem sm_fr {A B C D : Asn} (H : Sat (A * (B * (C * (D * F)))) w) : Sat (C * (A * (B * (D * F)))) w := H.of_eq (by ac_rfl)
theorem sm_end {A B C D E G I : Asn} (H : Sat (A * (B * (C * (D * (E * (G * (I * F))))))) w) : Sat (C * F) w := (H.of_eq (show _ = (A * (B * (D * (E * (G * I))))) * (C * F) from by ac_rfl)).right
theorem zid (tr : Tk → Sq.T) (a1 b1 a2 b2 : Int) {d : Bool} {e : Int} (hd : Hid ((d = false ∧ e ≠ 0 ∧ e = Sq.zee M (a1, b1) (a2, b2)) ∨ (Sq.zee M (a1, b1) (a2, b2) = 0 ∧ e = 0 ∧ d = decide ((tr (a1, b1)).top = (tr (a2, b2)).top)))) (hT : Hid (Sq.TF M tr)) (hx : Hid x.Ok) (H : Sat (zas x (some M) * F) w)
  (h : ∀ w', Sat (zas x (some M) * F) w' → Io w w' → R (.returned (.tuple #[.bool d, .int .i64 e])) w') :
  Calls Tryz.prog 27 #[.pointer (some ⟨x.s, 0, none⟩), tkA a1 b1, tkA a2 b2] w R := by
 have HH := L_ h
 have H1 := wr_in (((H.new (.cells #[.int .i64 a1, .int .i64 b1] 29)).new (.cells #[.int .i64 a2, .int .i64 b2] 29)).of_eq (show _ = pts (w.alloc (.cells #[.int .i64 a1, .int .i64 b1] 29)).heap.size (.cells #[.int .i64 a2, .int .i64 b2] 29 (0, 0)) * (pts w.heap.size (.cells #[.int .i64 a1, .int .i64 b1] 29 (0, 0)) * (zas x (some M) * F)) from by ac_rfl))
 have I1 := io2 H1 (Io.refl w)
 rw [World.size_alloc] at H1
 have K1 := zaj (H1.new (.cells #[.int .i64 a1, .int .i64 b1, .int .i64 a2, .int .i64 b2] 29))
 have J1 := io1 K1 I1
 obtain ⟨eb, heb⟩ : ∃ eb, eb = Sq.zee M (a1, b1) (a2, b2) := ⟨_, rfl⟩
 have HEB := L_ heb
 clear h H heb
 go_enter Tryz.func27, Tryz.ntmps27
 go_upto_region 1 with fail
 generalize (w.alloc _).alloc _ = w1 at *
 generalize w.heap.size = bx at *
 obtain ⟨y0, y1⟩ := tk2 H1.right.right
 obtain ⟨y2, y3⟩ := tk2 H1.right
 go_upto_region 2 with (go_at_call 44; (with_reducible refine zq3 a1 b1 a2 b2 HEB hx K1 ?_); intro w2 H2 I2; have K2 := zc7 H2; have J2 := J1.trans I2)
 clear y0 y1 y2 y3 H1 I1 K1 J1 H2 I2
 rcases zjm M (a1, b1) (a2, b2) with ⟨q1, q2⟩ | ⟨q1, q2, q3⟩
 ·obtain ⟨rfl, rfl⟩ : d = false ∧ e = eb := by
   rcases hd.out with ⟨h1, h2, h3⟩ | ⟨h1, _⟩
   ·exact ⟨h1, h3.trans HEB.out.symm⟩
   ·exact absurd h1 q1
  have FIN := L_ (HH.out w2 (xah K2) J2)
  have hq : e = 30 ∨ e = 181 := by rw [HEB.out]; exact q2
  clear q1 q2 HEB hd
  rcases hq with rfl | rfl
  ·go_wp2_with fail
   first | exact FIN.out | exact bodyPost_ret (v := .tuple #[.bool false, .int .i64 30]) (by simp [results, Tryz.results27, go_sem]) rfl FIN.out
  ·go_wp2_with fail
   first | exact FIN.out | exact bodyPost_ret (v := .tuple #[.bool false, .int .i64 181]) (by simp [results, Tryz.results27, go_sem]) rfl FIN.out
 ·obtain ⟨rfl, hdd⟩ : e = 0 ∧ d = decide ((tr (a1, b1)).top = (tr (a2, b2)).top) := by
   rcases hd.out with ⟨h1, h2, h3⟩ | ⟨_, h2, h3⟩
   ·exact absurd (h3.trans q1) h2
   ·exact ⟨h2, h3⟩
  obtain rfl : eb = 0 := HEB.out.trans q1
  have HDD := L_ hdd
  have Q2 := L_ q2
  have Q3 := L_ q3
  obtain ⟨y0, y1⟩ := tk2 K2.right.right
  clear q1 q2 q3 HEB hd hdd
  go_upto_region 5 with (go_at_call 47; (with_reducible refine zdy tr a1 b1 hT hx K2 ?_); intro r1 r2 v1 v2 v3 v4 v5 v6 v7 v8 e1 w3 hr H3 I3; have K3 := (H3.new (.cells #[.int .i64 r1, .int .i64 r2] 29)).new (.cells #[.int .i64 v1, .int .i64 v2, .int .i64 v3, .int .i64 v4, .int .i64 v5, .int .i64 v6, .int .i64 v7, .int .i64 v8] 85); have J3 := ((J2.trans I3).alloc (.cells #[.int .i64 r1, .int .i64 r2] 29)).alloc (.cells #[.int .i64 v1, .int .i64 v2, .int .i64 v3, .int .i64 v4, .int .i64 v5, .int .i64 v6, .int .i64 v7, .int .i64 v8] 85))
  rw [World.size_alloc] at K3
  clear y0 y1 K2 J2 H3 I3
  generalize (w3.alloc _).alloc _ = w4 at *
  generalize w3.heap.size = b9 at *
  obtain ⟨rfl, HR1⟩ : e1 = 0 ∧ Hid ((r1, r2) = (tr (a1, b1)).top) := by
   rcases hr.out with ⟨h1, h2, _⟩ | ⟨_, h2, _, _, h3, _⟩
   ·exact absurd (h1.trans Q2.out) h2
   ·exact ⟨h2, L_ h3⟩
  obtain ⟨y2, y3⟩ := tk2 K3.right.right.right
  go_upto_region 8 with (go_at_call 47; (with_reducible refine zdy tr a2 b2 hT hx (sm_fr K3) ?_); intro s1 s2 u1 u2 u3 u4 u5 u6 u7 u8 e2 w5 hs H5 I5; have K5 := (H5.new (.cells #[.int .i64 s1, .int .i64 s2] 29)).new (.cells #[.int .i64 u1, .int .i64 u2, .int .i64 u3, .int .i64 u4, .int .i64 u5, .int .i64 u6, .int .i64 u7, .int .i64 u8] 85); have J5 := ((J3.trans I5).alloc (.cells #[.int .i64 s1, .int .i64 s2] 29)).alloc (.cells #[.int .i64 u1, .int .i64 u2, .int .i64 u3, .int .i64 u4, .int .i64 u5, .int .i64 u6, .int .i64 u7, .int .i64 u8] 85))
  rw [World.size_alloc] at K5
  clear y2 y3 K3 J3 H5 I5
  generalize (w5.alloc _).alloc _ = w6 at *
  generalize w5.heap.size = b12 at *
  obtain ⟨rfl, HR2⟩ : e2 = 0 ∧ Hid ((s1, s2) = (tr (a2, b2)).top) := by
   rcases hs.out with ⟨h1, h2, _⟩ | ⟨_, h2, _, _, h3, _⟩
   ·exact absurd (h1.trans Q3.out) h2
   ·exact ⟨h2, L_ h3⟩
  have EQ := fun W => zce r1 r2 s1 s2 W
  rw [show decide ((r1, r2) = (s1, s2)) = d from by rw [HDD.out, HR1.out, HR2.out]] at EQ
  obtain ⟨y4, y5⟩ := tk2 K5.right
  obtain ⟨y6, y7⟩ := tk2 K5.right.right.right.right
  have FIN := L_ (HH.out _ (sm_end K5) J5)
  clear hr hs HDD HR1 HR2
  go_wp2_with fail
  first | exact FIN.out | exact bodyPost_ret (v := .tuple #[.bool d, .int .i64 0]) (by simp [results, Tryz.results27, go_sem]) rfl FIN.out
end
end Go.Proofs.YtfknjmoekbabcaaGreatDoor
namespace Go.Proofs.YtfknjmoekbabcaaGreatDoor
open Go.RowKit Go.Lib
open Sq (Tk Nd Mp zcb InT Fr)
open Sq.Z (Step)
namespace Sq
def zd1 (M : Mp) (k : Tk) : Int := match M k with | some n => n.count | none => 0
def zh3 (M : Mp) (s : Step) : Int := if s.fr = nob then zd1 M s.n.left else if s.fr = s.n.right then zd1 M s.n.left + 1 else 0
def rkE (M : Mp) (way : List Step) (i : Nat) : Int := ((way.take i).map (zh3 M)).sum
theorem zwm {M : Mp} {way : List Step} {i : Nat} {s : Step} (h : way[i]? = some s) : rkE M way (i + 1) = rkE M way i + zh3 M s := by
 unfold rkE
 rw [List.take_add_one, h]
 simp
theorem z2m {M : Mp} {t : T} {u : Tk} (h : zc0 M t u) (hn : M nob = none) : zd1 M t.top = t.cnt := by
 cases t with
 | nil => unfold zd1 T.top T.cnt; rw [hn]; rfl
 | node l k r => unfold zd1 T.top; rw [h.1]; rfl
theorem zqd {M : Mp} (hn : M nob = none) : ∀ (z : Z) (t : T) (u : Tk), t ≠ .nil → Z.z4o M z t u → (∀ y ∈ (z.zcq t).toks, OkT y) → (z.zcq t).toks.Nodup → (Z.anc z t u).map (zh3 M) = (Z.gains z).map (Nat.cast : Nat → Int)
 | .top, t, u, _, _, _, _ => rfl
 | .inl x r z, t, u, ht, h, ok, nd => by
  have e1 : (Z.anc z (.node t x r) u).map (zh3 M) = _ := zqd hn z (.node t x r) u (by intro e; cases e) h.2.2 ok nd
  have nt : t.top ≠ nob := (ok _ (zio z _ _ (by simp [T.toks, T.ze1 ht]))).ne
  have nr : t.top ≠ r.top := by
   intro e
   have hr : r ≠ .nil := by rintro rfl; exact nt e
   have nd2 : (T.node t x r).toks.Nodup := by
    have := nd
    rw [Z.zcq, Z.zbz] at this
    exact (List.nodup_append.1 (List.nodup_append.1 this).2.1).1
   rw [T.toks] at nd2
   exact (List.nodup_append.1 nd2).2.2 _ (T.ze1 ht) _ (List.mem_cons_of_mem _ (T.ze1 hr)) e
  simp only [Z.anc, Z.gains, List.map_cons, e1]
  congr 1
  have : zh3 M ⟨x, nod t r (z.up u), t.top⟩ = 0 := (if_neg nt).trans (if_neg nr)
  exact this
 | .inr l x z, t, u, ht, h, ok, nd => by
  have e1 : (Z.anc z (.node l x t) u).map (zh3 M) = _ := zqd hn z (.node l x t) u (by intro e; cases e) h.2.2 ok nd
  have nt : t.top ≠ nob := (ok _ (zio z _ _ (by simp [T.toks, T.ze1 ht]))).ne
  simp only [Z.anc, Z.gains, List.map_cons, e1]
  congr 1
  have e2 : zh3 M ⟨x, nod l t (z.up u), t.top⟩ = zd1 M l.top + 1 := (if_neg nt).trans (if_pos rfl)
  have : zd1 M l.top = l.cnt := z2m h.2.1 hn
  rw [e2, this]; rfl
theorem zzb : ∀ l : List Nat, (l.map (Nat.cast : Nat → Int)).sum = (l.sum : Nat)
 | [] => rfl
 | a :: l => by simp [zzb l]
theorem rk_way {M : Mp} (hn : M nob = none) {l r : T} {z : Z} {k : Tk} (h : zga M (z.zcq (.node l k r)) k) : rkE M (z.way l k r nob) (z.way l k r nob).length = fj (z.zcq (.node l k r)).toks k := by
 unfold rkE
 rw [List.take_length]
 obtain ⟨h1, h2⟩ := Z.zgq h.hold
 unfold Z.way
 rw [List.map_cons, List.sum_cons, zqd hn z _ nob (by intro e; cases e) h2 h.ok h.nodup, zzb, Z.zlv]
 have e : zh3 M ⟨k, nod l r (z.up nob), nob⟩ = l.cnt := by
  unfold zh3
  rw [if_pos rfl]
  exact z2m h1.2.1 hn
 have nd := h.nodup
 rw [Z.zbz] at nd
 have ek : (z.zcq (.node l k r)).toks = (z.ahead ++ l.toks) ++ k :: (r.toks ++ z.behind) := by rw [Z.zbz, T.toks]; simp
 have hk : k ∉ z.ahead ++ l.toks := by
  have := h.nodup
  rw [ek] at this
  intro hm
  exact (List.nodup_append.1 this).2.2 k hm k (List.mem_cons_self ..) rfl
 rw [e, ek, zsi hk, List.length_append, Z.zo6, T.zbl]
 omega
theorem zlp {M : Mp} : ∀ {t : T} {u : Tk}, zc0 M t u → ∀ k ∈ t.toks, ∀ n, M k = some n → n.left = nob ∨ ∃ n', M n.left = some n'
 | .nil, _, _, k, hk, _, _ => by simp [T.toks] at hk
 | .node l x r, u, h, k, hk, n, hn => by
  rw [T.toks, List.mem_append, List.mem_cons] at hk
  rcases hk with hk | rfl | hk
  ·exact zlp h.2.1 k hk n hn
  ·rw [h.1] at hn
   cases hn
   cases l with
   | nil => exact .inl rfl
   | node l1 y l2 => exact .inr ⟨_, h.2.1.1⟩
  ·exact zlp h.2.2 k hk n hn
structure zme (M : Mp) (way : List Step) : Prop where
 len : way.length ≤ 255
 left : ∀ s ∈ way, s.n.left = nob ∨ ∃ n, M s.n.left = some n
 none : M nob = .none
 cnt : ∀ k n, M k = some n → zcb n.count
theorem z5e {M : Mp} {l r : T} {z : Z} {k : Tk} (h : zga M (z.zcq (.node l k r)) k) (hn : M nob = .none) (hc : ∀ k n, M k = some n → zcb n.count) : zme M (z.way l k r nob) where
 len := (zh9 h).len
 left := fun s hs => by
  have h1 := (zh9 h).here s hs
  refine zlp h.hold s.k ?_ s.n h1.1
  unfold Z.way at hs
  rcases List.mem_cons.1 hs with rfl | hs
  ·exact h.mem
  ·exact Z.zqb z _ _ s hs
 none := hn
 cnt := hc
theorem zw2 {M : Mp} {way : List Step} (h : zme M way) (k : Tk) : 0 ≤ zd1 M k ∧ zd1 M k ≤ 4294967295 := by
 unfold zd1
 cases e : M k with
 | none => simp
 | some n => exact h.cnt k n e
theorem z9v {M : Mp} {way : List Step} (h : zme M way) : ∀ i : Nat, 0 ≤ rkE M way i ∧ rkE M way i ≤ 4294967296 * i
 | 0 => by simp [rkE]
 | i + 1 => by
  have ih := z9v h i
  cases e : way[i]? with
  | none =>
   have : rkE M way (i + 1) = rkE M way i := by unfold rkE; rw [List.take_add_one, e]; simp
   rw [this]; omega
  | some s =>
   rw [zwm e]
   have h1 := zw2 h s.n.left
   have : 0 ≤ zh3 M s ∧ zh3 M s ≤ 4294967296 := by unfold zh3; split <;> (try split) <;> omega
   omega
end Sq
section
variable {x : Sx} {M : Mp} {F : Asn} {w : World} {R : Ending → World → Prop}
theorem zq1 (k1 k2 c : Int) (hc : Hid (Sq.zd1 M (k1, k2) = c)) (hn : Hid (M Sq.nob = none)) (hk : Hid ((k1, k2) = Sq.nob ∨ ∃ n, M (k1, k2) = some n)) (hx : Hid x.Ok) (H : Sat (zas x (some M) * F) w)
  (h : ∀ n1 n2 n3 n4 n5 n6 n8 w', Sat (zas x (some M) * F) w' → Io w w' → R (.returned (ndA n1 n2 n3 n4 n5 n6 c n8)) w') :
  Calls Tryz.prog 58 #[.pointer (some ⟨x.s, 0, none⟩), tkA k1 k2] w R := by
 by_cases e : (k1, k2) = Sq.nob
 ·have e2 := hc.out
  rw [e] at e2
  unfold Sq.zd1 at e2
  rw [hn.out] at e2
  unfold Sq.nob at e
  rw [Prod.mk.injEq] at e
  obtain ⟨rfl, rfl⟩ := e
  simp only at e2
  subst e2
  exact zoy H fun w' H' I => h 0 0 0 0 0 0 0 w' H' I
 ·obtain ⟨⟨⟨u1, u2⟩, ⟨l1, l2⟩, ⟨r1, r2⟩, ct, ht⟩, hm⟩ := hk.out.resolve_left e
  have e2 := hc.out
  unfold Sq.zd1 at e2
  rw [hm] at e2
  simp only at e2
  subst e2
  exact zdo k1 k2 (L_ hm) hx H fun w' H' I => h u1 u2 l1 l2 r1 r2 ht w' H' I
theorem ziz (a b c d e f g h : Int) (w : World) : (Instr.field 85 (ndA a b c d e f g h) 3).run Tryz.prog w = .ok (.int .i64 g) w := by kernel_rfl
theorem z8p (args : Array Value) (w : World) : (callFunc 71 args).run Tryz.prog w = .ok (.enter 71 args) w := enters_of Tryz.func71 (by kernel_rfl) rfl args w
theorem za6 {A : Asn} {b1 b2 : Nat} {t1 t2 : TypeId} {x0 x1 y0 y1 y2 y3 y4 y5 y6 y7 : Value} (H : Sat (A * (pts b2 (.cells #[x0, x1] t2 (0, 0)) * (pts b1 (.cells #[y0, y1, y2, y3, y4, y5, y6, y7] t1 (0, 0)) * F))) w) :
  (w.cell? ⟨b2, 0, none⟩ = some x0 ∧ w.cell? ⟨b2, 1, none⟩ = some x1) ∧ (w.cell? ⟨b1, 2, none⟩ = some y2 ∧ w.cell? ⟨b1, 3, none⟩ = some y3) ∧ (w.cell? ⟨b1, 4, none⟩ = some y4 ∧ w.cell? ⟨b1, 5, none⟩ = some y5) :=
 ⟨tk2 H.right, ⟨(nd8 H.right.right).2.2.1, (nd8 H.right.right).2.2.2.1⟩, ⟨(nd8 H.right.right).2.2.2.2.1, (nd8 H.right.right).2.2.2.2.2.1⟩⟩
theorem zcx {A B C : Asn} {rb sb : Nat} {tr ts : TypeId} {v p : Value} (H : Sat (A * (B * (C * (pts rb (.cells #[v] tr (0, 0)) * (pts sb (.cells #[p] ts (0, 0)) * F))))) w) :
  (w.cell? ⟨rb, 0, none⟩ = some v ∧ w.cell? ⟨sb, 0, none⟩ = some p) ∧ w.frozen? ⟨rb, 0, none⟩ = false :=
 ⟨⟨Sat.read H.right.right.right.left.at 0, Sat.read H.right.right.right.right.left.at 0⟩, Sat.free H.right.right.right.left.at 0⟩
theorem znu {A B C D : Asn} {rb : Nat} {tr : TypeId} {v : Value} (v' : Value) (H : Sat (A * (B * (C * (pts rb (.cells #[v] tr (0, 0)) * D)))) w) :
  Sat (A * (B * (C * (pts rb (.cells #[v'] tr (0, 0)) * D)))) (w.setCell ⟨rb, 0, none⟩ v') := by
 have h := (H.of_eq (show _ = pts rb (.cells #[v] tr (0, 0)) * (A * (B * (C * D))) from by ac_rfl)).cell 0 v'
 exact Sat.of_eq h (by show pts rb (.cells #[v'] tr (0, 0)) * (A * (B * (C * D))) = _; ac_rfl)
theorem zq8 {A B C D E G : Asn} (H : Sat (A * (B * (C * (D * (E * (G * F)))))) w) : Sat (A * ((D * E) * F)) w := (H.of_eq (show _ = (B * (C * G)) * (A * ((D * E) * F)) from by ac_rfl)).right
abbrev rkJ (M : Mp) (way : List Step) (s rb sb : Nat) (i : Nat) : Asn := pts rb (.cells #[.int .i64 (Sq.rkE M way i)] 3 (0, 0)) * pts sb (.cells #[.pointer (some ⟨s, 0, none⟩)] 26 (0, 0))
theorem zxs (k1 k2 u1 u2 p1 p2 q1 q2 ct ht f1 f2 : Int) (rb sb : Nat) (v c : Int) (hc : Hid (Sq.zd1 M (p1, p2) = c)) (hcond : Hid ((f1, f2) = Sq.nob)) (hn : Hid (M Sq.nob = none)) (hk : Hid ((p1, p2) = Sq.nob ∨ ∃ n, M (p1, p2) = some n)) (v1 : Int) (hv1 : IntKind.i64.wrap (v + c) = v1) (hx : Hid x.Ok)
  (H : Sat (zas x (some M) * ((pts rb (.cells #[.int .i64 v] 3 (0, 0)) * pts sb (.cells #[.pointer (some ⟨x.s, 0, none⟩)] 26 (0, 0))) * F)) w)
  (h : ∀ w', Sat (zas x (some M) * ((pts rb (.cells #[.int .i64 v1] 3 (0, 0)) * pts sb (.cells #[.pointer (some ⟨x.s, 0, none⟩)] 26 (0, 0))) * F)) w' → Io w w' → R (.returned (.tuple #[])) w') :
  Calls Tryz.prog 71 #[tkA k1 k2, ndA u1 u2 p1 p2 q1 q2 ct ht, tkA f1 f2, .pointer (some ⟨rb, 0, none⟩), .pointer (some ⟨sb, 0, none⟩)] w R := by
 have HH := L_ h
 have H1 := (((H.new (.cells #[.int .i64 k1, .int .i64 k2] 29)).new (.cells #[.int .i64 u1, .int .i64 u2, .int .i64 p1, .int .i64 p2, .int .i64 q1, .int .i64 q2, .int .i64 ct, .int .i64 ht] 85)).new (.cells #[.int .i64 f1, .int .i64 f2] 29)).of_eq (show _ = zas x (some M) * (pts (((w.alloc (.cells #[.int .i64 k1, .int .i64 k2] 29)).alloc (.cells #[.int .i64 u1, .int .i64 u2, .int .i64 p1, .int .i64 p2, .int .i64 q1, .int .i64 q2, .int .i64 ct, .int .i64 ht] 85)).heap.size) (.cells #[.int .i64 f1, .int .i64 f2] 29 (0, 0)) * (pts ((w.alloc (.cells #[.int .i64 k1, .int .i64 k2] 29)).heap.size) (.cells #[.int .i64 u1, .int .i64 u2, .int .i64 p1, .int .i64 p2, .int .i64 q1, .int .i64 q2, .int .i64 ct, .int .i64 ht] 85 (0, 0)) * (pts rb (.cells #[.int .i64 v] 3 (0, 0)) * (pts sb (.cells #[.pointer (some ⟨x.s, 0, none⟩)] 26 (0, 0)) * (pts w.heap.size (.cells #[.int .i64 k1, .int .i64 k2] 29 (0, 0)) * F))))) from by ac_rfl)
 have I1 := io3 H1 (Io.refl w)
 simp only [World.size_alloc, Nat.add_assoc, Nat.reduceAdd] at H1
 clear h H
 go_enter Tryz.func71, Tryz.ntmps71
 go_upto_region 1 with fail
 generalize ((w.alloc _).alloc _).alloc _ = w1 at *
 generalize w.heap.size = bx at *
 have Kd := H1.drew
 have Jd := I1.drew
 clear H1 I1
 have S0 := za6 Kd
 have EQ := fun W => zce f1 f2 4294967295 4294967295 W
 have EN := fun W => zde f1 f2 4294967295 4294967295 W
 have c1 : decide ((f1, f2) = ((4294967295 : Int), (4294967295 : Int))) = true := decide_eq_true hcond.out
 rw [c1] at EQ EN
 simp only [Bool.not_true] at EN
 clear c1
 refine rh Kd (fun W Kd => za6 Kd) fun hHeld => ?_
 refine tk ?_ ?_ [0] ?_ hHeld ?_; rotate_left 2; exact tt
 refine rd [1] (rc fun K hK => ?_)
 go_simp
 go_at_call 46; (with_reducible refine zan Kd ?_); intro w2 H2 I2; have S2 := za6 H2
 refine hK.out _ _ (by exact S2) fun hHeld => ?_
 clear hK K
 try simp only [sp]
 refine tk ?_ ?_ [2, 3, 4, 5, 6, 7, 8] ?_ hHeld ?_; rotate_left 2; exact tt
 refine wpAnyH_done (by kernel_rfl) ?_ _
 have J2 := Jd.trans I2
 clear S0 Kd Jd I2 hHeld
 go_upto_region 2 with fail
 have Kd := H2.drew
 have Jd := J2.drew
 clear H2 J2 S2
 have S0 := And.intro (za6 Kd) (zcx Kd).1
 obtain ⟨⟨x0, x1⟩, -⟩ := zcx Kd
 refine wp_region_held_drew (S := (fun W => ((W.cell? ⟨bx + 1, 2, none⟩ = some (.int .i64 p1) ∧ W.cell? ⟨bx + 1, 3, none⟩ = some (.int .i64 p2)) ∧ W.cell? ⟨sb, 0, none⟩ = some (.pointer (some ⟨x.s, 0, none⟩))))) (by kernel_rfl) (by exact ⟨S0.1.2.1, S0.2.2⟩) (fun hHeld => ?_)
 refine tk ?_ ?_ [1, 2, 3] ?_ hHeld ?_; rotate_left 2; exact tt
 refine rd [0, 4] (rn (fun K hK => ?_) (rc fun K hK => ?_))
 ·go_simp
  refine hK.out _ _ (by exact ⟨S0.1.2.1, S0.2.2⟩) fun hHeld => ?_
  clear hK K
  try simp only [sp]
  refine rd [4] (rc fun K hK => ?_)
  go_simp
  go_at_call 58; (with_reducible refine zq1 p1 p2 c hc hn hk hx Kd ?_); intro n1 n2 n3 n4 n5 n6 n8 w3 H3 I3; have S3 := And.intro (za6 H3) (zcx H3).1; have FC := fun W => ziz n1 n2 n3 n4 n5 n6 c n8 W
  refine hK.out _ _ (by exact ⟨S3.1.2.1, S3.2.2⟩) fun hHeld => ?_
  clear hK K
  try simp only [sp]
  refine tk ?_ ?_ [5, 6] ?_ hHeld ?_; rotate_left 2; exact tt
  have FZ := (zcx H3).2
  have KW := znu (.int .i64 v1) H3
  have JW := (Jd.trans I3).setCell ⟨rb, 0, none⟩ (.int .i64 v1)
  refine rd [7] (rc fun K hK => ?_)
  go_simp
  refine hK.out _ _ (by exact ⟨(za6 KW).2.1, (zcx KW).1.2⟩) fun hHeld => ?_
  clear hK K
  try simp only [sp]
  refine wpAnyH_done (by kernel_rfl) ?_ _
  clear S0 S3 FZ Kd Jd H3 I3 hHeld
  go_upto_region 3 with fail
  have Kd := KW.drew
  have Jd := JW.drew
  clear KW JW
  have S0 := za6 Kd
  refine rh Kd (fun W Kd => za6 Kd) fun hHeld => ?_
  refine tk ?_ ?_ [0] ?_ hHeld ?_; rotate_left 2; exact tt
  refine rd [1] (rc fun K hK => ?_)
  go_simp
  go_at_call 46; (with_reducible refine zan Kd ?_); intro w5 H5 I5; have S5 := za6 H5
  refine hK.out _ _ (by exact S5) fun hHeld => ?_
  clear hK K
  try simp only [sp]
  refine tk ?_ ?_ [2, 3, 4, 5, 6, 7, 8] ?_ hHeld ?_; rotate_left 2; exact tt
  refine wpAnyH_done (by kernel_rfl) ?_ _
  have J5 := Jd.trans I5
  clear S0 Kd Jd I5 hHeld
  have FIN := L_ (HH.out _ (zq8 H5) J5)
  go_wp2_with fail
  go_end0
  exact FIN.out
 ·go_simp
  go_at_call 58; (with_reducible refine zq1 p1 p2 c hc hn hk hx Kd ?_); intro n1 n2 n3 n4 n5 n6 n8 w3 H3 I3; have S3 := And.intro (za6 H3) (zcx H3).1; have FC := fun W => ziz n1 n2 n3 n4 n5 n6 c n8 W
  refine hK.out _ _ (by exact ⟨S3.1.2.1, S3.2.2⟩) fun hHeld => ?_
  clear hK K
  try simp only [sp]
  refine tk ?_ ?_ [5] ?_ hHeld ?_; rotate_left 2; exact tt
  obtain ⟨⟨y0, -⟩, -⟩ := zcx H3
  refine rd [0] (rc fun K hK => ?_)
  go_simp
  refine hK.out _ _ (by exact ⟨S3.1.2.1, S3.2.2⟩) fun hHeld => ?_
  clear hK K
  try simp only [sp]
  refine tk ?_ ?_ [6] ?_ hHeld ?_; rotate_left 2; exact tt
  have FZ := (zcx H3).2
  have KW := znu (.int .i64 v1) H3
  have JW := (Jd.trans I3).setCell ⟨rb, 0, none⟩ (.int .i64 v1)
  refine rd [7] (rc fun K hK => ?_)
  go_simp
  refine hK.out _ _ (by exact ⟨(za6 KW).2.1, (zcx KW).1.2⟩) fun hHeld => ?_
  clear hK K
  try simp only [sp]
  refine wpAnyH_done (by kernel_rfl) ?_ _
  clear S0 S3 FZ Kd Jd H3 I3 hHeld
  go_upto_region 3 with fail
  have Kd := KW.drew
  have Jd := JW.drew
  clear KW JW
  have S0 := za6 Kd
  refine rh Kd (fun W Kd => za6 Kd) fun hHeld => ?_
  refine tk ?_ ?_ [0] ?_ hHeld ?_; rotate_left 2; exact tt
  refine rd [1] (rc fun K hK => ?_)
  go_simp
  go_at_call 46; (with_reducible refine zan Kd ?_); intro w5 H5 I5; have S5 := za6 H5
  refine hK.out _ _ (by exact S5) fun hHeld => ?_
  clear hK K
  try simp only [sp]
  refine tk ?_ ?_ [2, 3, 4, 5, 6, 7, 8] ?_ hHeld ?_; rotate_left 2; exact tt
  refine wpAnyH_done (by kernel_rfl) ?_ _
  have J5 := Jd.trans I5
  clear S0 Kd Jd I5 hHeld
  have FIN := L_ (HH.out _ (zq8 H5) J5)
  go_wp2_with fail
  go_end0
  exact FIN.out
theorem zxr (k1 k2 u1 u2 p1 p2 q1 q2 ct ht f1 f2 : Int) (rb sb : Nat) (v c : Int) (hc : Hid (Sq.zd1 M (p1, p2) = c)) (hcond : Hid ((f1, f2) ≠ Sq.nob ∧ (f1, f2) = (q1, q2))) (hn : Hid (M Sq.nob = none)) (hk : Hid ((p1, p2) = Sq.nob ∨ ∃ n, M (p1, p2) = some n)) (v1 : Int) (hv1 : IntKind.i64.wrap (v + c) = v1) (v2 : Int) (hv2 : IntKind.i64.wrap (v1 + 1) = v2) (hx : Hid x.Ok)
  (H : Sat (zas x (some M) * ((pts rb (.cells #[.int .i64 v] 3 (0, 0)) * pts sb (.cells #[.pointer (some ⟨x.s, 0, none⟩)] 26 (0, 0))) * F)) w)
  (h : ∀ w', Sat (zas x (some M) * ((pts rb (.cells #[.int .i64 v2] 3 (0, 0)) * pts sb (.cells #[.pointer (some ⟨x.s, 0, none⟩)] 26 (0, 0))) * F)) w' → Io w w' → R (.returned (.tuple #[])) w') :
  Calls Tryz.prog 71 #[tkA k1 k2, ndA u1 u2 p1 p2 q1 q2 ct ht, tkA f1 f2, .pointer (some ⟨rb, 0, none⟩), .pointer (some ⟨sb, 0, none⟩)] w R := by
 have HH := L_ h
 have H1 := (((H.new (.cells #[.int .i64 k1, .int .i64 k2] 29)).new (.cells #[.int .i64 u1, .int .i64 u2, .int .i64 p1, .int .i64 p2, .int .i64 q1, .int .i64 q2, .int .i64 ct, .int .i64 ht] 85)).new (.cells #[.int .i64 f1, .int .i64 f2] 29)).of_eq (show _ = zas x (some M) * (pts (((w.alloc (.cells #[.int .i64 k1, .int .i64 k2] 29)).alloc (.cells #[.int .i64 u1, .int .i64 u2, .int .i64 p1, .int .i64 p2, .int .i64 q1, .int .i64 q2, .int .i64 ct, .int .i64 ht] 85)).heap.size) (.cells #[.int .i64 f1, .int .i64 f2] 29 (0, 0)) * (pts ((w.alloc (.cells #[.int .i64 k1, .int .i64 k2] 29)).heap.size) (.cells #[.int .i64 u1, .int .i64 u2, .int .i64 p1, .int .i64 p2, .int .i64 q1, .int .i64 q2, .int .i64 ct, .int .i64 ht] 85 (0, 0)) * (pts rb (.cells #[.int .i64 v] 3 (0, 0)) * (pts sb (.cells #[.pointer (some ⟨x.s, 0, none⟩)] 26 (0, 0)) * (pts w.heap.size (.cells #[.int .i64 k1, .int .i64 k2] 29 (0, 0)) * F))))) from by ac_rfl)
 have I1 := io3 H1 (Io.refl w)
 simp only [World.size_alloc, Nat.add_assoc, Nat.reduceAdd] at H1
 clear h H
 go_enter Tryz.func71, Tryz.ntmps71
 go_upto_region 1 with fail
 generalize ((w.alloc _).alloc _).alloc _ = w1 at *
 generalize w.heap.size = bx at *
 have Kd := H1.drew
 have Jd := I1.drew
 clear H1 I1
 have S0 := za6 Kd
 have EQ := fun W => zce f1 f2 4294967295 4294967295 W
 have EN := fun W => zde f1 f2 4294967295 4294967295 W
 have c1 : decide ((f1, f2) = ((4294967295 : Int), (4294967295 : Int))) = false := decide_eq_false hcond.out.1
 rw [c1] at EQ EN
 simp only [Bool.not_false] at EN
 have ER := fun W => zce f1 f2 q1 q2 W
 have c2 : decide ((f1, f2) = (q1, q2)) = true := decide_eq_true hcond.out.2
 rw [c2] at ER
 clear c1 c2
 refine rh Kd (fun W Kd => za6 Kd) fun hHeld => ?_
 refine tk ?_ ?_ [0] ?_ hHeld ?_; rotate_left 2; exact tt
 refine rd [1] (rc fun K hK => ?_)
 go_simp
 go_at_call 46; (with_reducible refine zan Kd ?_); intro w2 H2 I2; have S2 := za6 H2
 refine hK.out _ _ (by exact S2) fun hHeld => ?_
 clear hK K
 try simp only [sp]
 refine tk ?_ ?_ [2, 3, 4, 5, 6, 7, 8] ?_ hHeld ?_; rotate_left 2; exact tt
 refine wpAnyH_done (by kernel_rfl) ?_ _
 have J2 := Jd.trans I2
 clear S0 Kd Jd I2 hHeld
 go_upto_region 2 with fail
 have Kd := H2.drew
 have Jd := J2.drew
 clear H2 J2 S2
 have S0 := And.intro (za6 Kd) (zcx Kd).1
 obtain ⟨⟨x0, x1⟩, -⟩ := zcx Kd
 refine wp_region_held_drew (S := (fun W => ((W.cell? ⟨bx + 1, 2, none⟩ = some (.int .i64 p1) ∧ W.cell? ⟨bx + 1, 3, none⟩ = some (.int .i64 p2)) ∧ W.cell? ⟨sb, 0, none⟩ = some (.pointer (some ⟨x.s, 0, none⟩))))) (by kernel_rfl) (by exact ⟨S0.1.2.1, S0.2.2⟩) (fun hHeld => ?_)
 refine tk ?_ ?_ [1, 2, 3] ?_ hHeld ?_; rotate_left 2; exact tt
 refine rd [0, 4] (rn (fun K hK => ?_) (rc fun K hK => ?_))
 ·go_simp
  refine hK.out _ _ (by exact ⟨S0.1.2.1, S0.2.2⟩) fun hHeld => ?_
  clear hK K
  try simp only [sp]
  refine rd [4] (rc fun K hK => ?_)
  go_simp
  go_at_call 58; (with_reducible refine zq1 p1 p2 c hc hn hk hx Kd ?_); intro n1 n2 n3 n4 n5 n6 n8 w3 H3 I3; have S3 := And.intro (za6 H3) (zcx H3).1; have FC := fun W => ziz n1 n2 n3 n4 n5 n6 c n8 W
  refine hK.out _ _ (by exact ⟨S3.1.2.1, S3.2.2⟩) fun hHeld => ?_
  clear hK K
  try simp only [sp]
  refine tk ?_ ?_ [5, 6] ?_ hHeld ?_; rotate_left 2; exact tt
  have FZ := (zcx H3).2
  have KW := znu (.int .i64 v1) H3
  have JW := (Jd.trans I3).setCell ⟨rb, 0, none⟩ (.int .i64 v1)
  refine rd [7] (rc fun K hK => ?_)
  go_simp
  refine hK.out _ _ (by exact ⟨(za6 KW).2.1, (zcx KW).1.2⟩) fun hHeld => ?_
  clear hK K
  try simp only [sp]
  refine wpAnyH_done (by kernel_rfl) ?_ _
  clear S0 S3 FZ Kd Jd H3 I3 hHeld
  go_upto_region 3 with fail
  have Kd := KW.drew
  have Jd := JW.drew
  clear KW JW
  have S0 := za6 Kd
  refine rh Kd (fun W Kd => za6 Kd) fun hHeld => ?_
  refine tk ?_ ?_ [0] ?_ hHeld ?_; rotate_left 2; exact tt
  refine rd [1] (rc fun K hK => ?_)
  go_simp
  go_at_call 46; (with_reducible refine zan Kd ?_); intro w5 H5 I5; have S5 := za6 H5
  refine hK.out _ _ (by exact S5) fun hHeld => ?_
  clear hK K
  try simp only [sp]
  refine tk ?_ ?_ [2, 3, 4, 5, 6, 7, 8] ?_ hHeld ?_; rotate_left 2; exact tt
  refine wpAnyH_done (by kernel_rfl) ?_ _
  have J5 := Jd.trans I5
  clear S0 Kd Jd I5 hHeld
  obtain ⟨⟨z0, -⟩, z1⟩ := zcx H5
  have KW := znu (.int .i64 v2) H5
  have JW := J5.setCell ⟨rb, 0, none⟩ (.int .i64 v2)
  have FIN := L_ (HH.out _ (zq8 KW) JW)
  go_wp2_with fail
  go_end0
  exact FIN.out
 ·go_simp
  go_at_call 58; (with_reducible refine zq1 p1 p2 c hc hn hk hx Kd ?_); intro n1 n2 n3 n4 n5 n6 n8 w3 H3 I3; have S3 := And.intro (za6 H3) (zcx H3).1; have FC := fun W => ziz n1 n2 n3 n4 n5 n6 c n8 W
  refine hK.out _ _ (by exact ⟨S3.1.2.1, S3.2.2⟩) fun hHeld => ?_
  clear hK K
  try simp only [sp]
  refine tk ?_ ?_ [5] ?_ hHeld ?_; rotate_left 2; exact tt
  obtain ⟨⟨y0, -⟩, -⟩ := zcx H3
  refine rd [0] (rc fun K hK => ?_)
  go_simp
  refine hK.out _ _ (by exact ⟨S3.1.2.1, S3.2.2⟩) fun hHeld => ?_
  clear hK K
  try simp only [sp]
  refine tk ?_ ?_ [6] ?_ hHeld ?_; rotate_left 2; exact tt
  have FZ := (zcx H3).2
  have KW := znu (.int .i64 v1) H3
  have JW := (Jd.trans I3).setCell ⟨rb, 0, none⟩ (.int .i64 v1)
  refine rd [7] (rc fun K hK => ?_)
  go_simp
  refine hK.out _ _ (by exact ⟨(za6 KW).2.1, (zcx KW).1.2⟩) fun hHeld => ?_
  clear hK K
  try simp only [sp]
  refine wpAnyH_done (by kernel_rfl) ?_ _
  clear S0 S3 FZ Kd Jd H3 I3 hHeld
  go_upto_region 3 with fail
  have Kd := KW.drew
  have Jd := JW.drew
  clear KW JW
  have S0 := za6 Kd
  refine rh Kd (fun W Kd => za6 Kd) fun hHeld => ?_
  refine tk ?_ ?_ [0] ?_ hHeld ?_; rotate_left 2; exact tt
  refine rd [1] (rc fun K hK => ?_)
  go_simp
  go_at_call 46; (with_reducible refine zan Kd ?_); intro w5 H5 I5; have S5 := za6 H5
  refine hK.out _ _ (by exact S5) fun hHeld => ?_
  clear hK K
  try simp only [sp]
  refine tk ?_ ?_ [2, 3, 4, 5, 6, 7, 8] ?_ hHeld ?_; rotate_left 2; exact tt
  refine wpAnyH_done (by kernel_rfl) ?_ _
  have J5 := Jd.trans I5
  clear S0 Kd Jd I5 hHeld
  obtain ⟨⟨z0, -⟩, z1⟩ := zcx H5
  have KW := znu (.int .i64 v2) H5
  have JW := J5.setCell ⟨rb, 0, none⟩ (.int .i64 v2)
  have FIN := L_ (HH.out _ (zq8 KW) JW)
  go_wp2_with fail
  go_end0
  exact FIN.out
theorem zz7 (k1 k2 u1 u2 p1 p2 q1 q2 ct ht f1 f2 : Int) (rb sb : Nat) (v c : Int) (hc : Hid (Sq.zd1 M (p1, p2) = c)) (hcond : Hid ((f1, f2) ≠ Sq.nob ∧ (f1, f2) ≠ (q1, q2))) (hn : Hid (M Sq.nob = none)) (hk : Hid ((p1, p2) = Sq.nob ∨ ∃ n, M (p1, p2) = some n)) (v1 : Int) (hv1 : IntKind.i64.wrap (v + c) = v1) (hx : Hid x.Ok)
  (H : Sat (zas x (some M) * ((pts rb (.cells #[.int .i64 v] 3 (0, 0)) * pts sb (.cells #[.pointer (some ⟨x.s, 0, none⟩)] 26 (0, 0))) * F)) w)
  (h : ∀ w', Sat (zas x (some M) * ((pts rb (.cells #[.int .i64 v] 3 (0, 0)) * pts sb (.cells #[.pointer (some ⟨x.s, 0, none⟩)] 26 (0, 0))) * F)) w' → Io w w' → R (.returned (.tuple #[])) w') :
  Calls Tryz.prog 71 #[tkA k1 k2, ndA u1 u2 p1 p2 q1 q2 ct ht, tkA f1 f2, .pointer (some ⟨rb, 0, none⟩), .pointer (some ⟨sb, 0, none⟩)] w R := by
 have HH := L_ h
 have H1 := (((H.new (.cells #[.int .i64 k1, .int .i64 k2] 29)).new (.cells #[.int .i64 u1, .int .i64 u2, .int .i64 p1, .int .i64 p2, .int .i64 q1, .int .i64 q2, .int .i64 ct, .int .i64 ht] 85)).new (.cells #[.int .i64 f1, .int .i64 f2] 29)).of_eq (show _ = zas x (some M) * (pts (((w.alloc (.cells #[.int .i64 k1, .int .i64 k2] 29)).alloc (.cells #[.int .i64 u1, .int .i64 u2, .int .i64 p1, .int .i64 p2, .int .i64 q1, .int .i64 q2, .int .i64 ct, .int .i64 ht] 85)).heap.size) (.cells #[.int .i64 f1, .int .i64 f2] 29 (0, 0)) * (pts ((w.alloc (.cells #[.int .i64 k1, .int .i64 k2] 29)).heap.size) (.cells #[.int .i64 u1, .int .i64 u2, .int .i64 p1, .int .i64 p2, .int .i64 q1, .int .i64 q2, .int .i64 ct, .int .i64 ht] 85 (0, 0)) * (pts rb (.cells #[.int .i64 v] 3 (0, 0)) * (pts sb (.cells #[.pointer (some ⟨x.s, 0, none⟩)] 26 (0, 0)) * (pts w.heap.size (.cells #[.int .i64 k1, .int .i64 k2] 29 (0, 0)) * F))))) from by ac_rfl)
 have I1 := io3 H1 (Io.refl w)
 simp only [World.size_alloc, Nat.add_assoc, Nat.reduceAdd] at H1
 clear h H
 go_enter Tryz.func71, Tryz.ntmps71
 go_upto_region 1 with fail
 generalize ((w.alloc _).alloc _).alloc _ = w1 at *
 generalize w.heap.size = bx at *
 have Kd := H1.drew
 have Jd := I1.drew
 clear H1 I1
 have S0 := za6 Kd
 have EQ := fun W => zce f1 f2 4294967295 4294967295 W
 have EN := fun W => zde f1 f2 4294967295 4294967295 W
 have c1 : decide ((f1, f2) = ((4294967295 : Int), (4294967295 : Int))) = false := decide_eq_false hcond.out.1
 rw [c1] at EQ EN
 simp only [Bool.not_false] at EN
 have ER := fun W => zce f1 f2 q1 q2 W
 have c2 : decide ((f1, f2) = (q1, q2)) = false := decide_eq_false hcond.out.2
 rw [c2] at ER
 clear c1 c2
 refine rh Kd (fun W Kd => za6 Kd) fun hHeld => ?_
 refine tk ?_ ?_ [0] ?_ hHeld ?_; rotate_left 2; exact tt
 refine rd [1] (rc fun K hK => ?_)
 go_simp
 go_at_call 46; (with_reducible refine zan Kd ?_); intro w2 H2 I2; have S2 := za6 H2
 refine hK.out _ _ (by exact S2) fun hHeld => ?_
 clear hK K
 try simp only [sp]
 refine tk ?_ ?_ [2, 3, 4, 5, 6, 7, 8] ?_ hHeld ?_; rotate_left 2; exact tt
 refine wpAnyH_done (by kernel_rfl) ?_ _
 have J2 := Jd.trans I2
 clear S0 Kd Jd I2 hHeld
 go_upto_region 3 with fail
 have Kd := H2.drew
 have Jd := J2.drew
 clear H2 J2
 have S0 := za6 Kd
 refine rh Kd (fun W Kd => za6 Kd) fun hHeld => ?_
 refine tk ?_ ?_ [0] ?_ hHeld ?_; rotate_left 2; exact tt
 refine rd [1] (rc fun K hK => ?_)
 go_simp
 go_at_call 46; (with_reducible refine zan Kd ?_); intro w5 H5 I5; have S5 := za6 H5
 refine hK.out _ _ (by exact S5) fun hHeld => ?_
 clear hK K
 try simp only [sp]
 refine tk ?_ ?_ [2, 3, 4, 5, 6, 7, 8] ?_ hHeld ?_; rotate_left 2; exact tt
 refine wpAnyH_done (by kernel_rfl) ?_ _
 have J5 := Jd.trans I5
 clear S0 Kd Jd I5 hHeld
 have FIN := L_ (HH.out _ (zq8 H5) J5)
 go_wp2_with fail
 go_end0
 exact FIN.out
theorem zz8 (way : List Step) (hs : Hid (Sq.zme M way)) (hx : Hid x.Ok) (rb sb : Nat) : zt5 x M 71 #[.pointer (some ⟨rb, 0, none⟩), .pointer (some ⟨sb, 0, none⟩)] way (rkJ M way x.s rb sb) := by
 intro F w R i s hi H h
 have hm := List.mem_of_getElem? hi
 have hlt := (List.getElem?_eq_some_iff.1 hi).1
 have B := Sq.z9v hs.out i
 have C := Sq.zw2 hs.out s.n.left
 have L := hs.out.left s hm
 have hl := hs.out.len
 have e := Sq.zwm (M := M) hi
 obtain ⟨⟨k1, k2⟩, ⟨⟨u1, u2⟩, ⟨p1, p2⟩, ⟨q1, q2⟩, ct, ht⟩, ⟨f1, f2⟩⟩ := s
 simp only at C L
 have h' : ∀ w', Sat (zas x (some M) * (rkJ M way x.s rb sb (i + 1) * F)) w' → Io w w' → R (.returned (.tuple #[])) w' := h
 simp only [rkJ, e] at h'
 have H' : Sat (zas x (some M) * (rkJ M way x.s rb sb i * F)) w := H
 have hi2 : i < 255 := by omega
 generalize hv : Sq.rkE M way i = v at *
 by_cases c1 : (f1, f2) = Sq.nob
 ·have eg : Sq.zh3 M ⟨(k1, k2), ⟨(u1, u2), (p1, p2), (q1, q2), ct, ht⟩, (f1, f2)⟩ = Sq.zd1 M (p1, p2) := if_pos c1
  rw [eg] at h'
  simp only [rkJ, hv] at H'
  exact zxs k1 k2 u1 u2 p1 p2 q1 q2 ct ht f1 f2 rb sb v (Sq.zd1 M (p1, p2)) (L_ rfl) (L_ c1) (L_ hs.out.none) (L_ L) _ (by rw [IntKind.wrap_i64]; omega) hx H' h'
 ·by_cases c2 : (f1, f2) = (q1, q2)
  ·have eg : Sq.zh3 M ⟨(k1, k2), ⟨(u1, u2), (p1, p2), (q1, q2), ct, ht⟩, (f1, f2)⟩ = Sq.zd1 M (p1, p2) + 1 := (if_neg c1).trans (if_pos c2)
   rw [eg, ← Int.add_assoc] at h'
   simp only [rkJ, hv] at H'
   exact zxr k1 k2 u1 u2 p1 p2 q1 q2 ct ht f1 f2 rb sb v (Sq.zd1 M (p1, p2)) (L_ rfl) (L_ ⟨c1, c2⟩) (L_ hs.out.none) (L_ L) (v + Sq.zd1 M (p1, p2)) (by rw [IntKind.wrap_i64]; omega) _ (by rw [IntKind.wrap_i64]; omega) hx H' h'
  ·have eg : Sq.zh3 M ⟨(k1, k2), ⟨(u1, u2), (p1, p2), (q1, q2), ct, ht⟩, (f1, f2)⟩ = 0 := (if_neg c1).trans (if_neg c2)
   rw [eg, Int.add_zero] at h'
   simp only [rkJ, hv] at H'
   exact zz7 k1 k2 u1 u2 p1 p2 q1 q2 ct ht f1 f2 rb sb v (Sq.zd1 M (p1, p2)) (L_ rfl) (L_ ⟨c1, c2⟩) (L_ hs.out.none) (L_ L) (v + Sq.zd1 M (p1, p2)) (by rw [IntKind.wrap_i64]; omega) hx H' h'
end
section
variable {x : Sx} {M : Mp} {F : Asn} {w : World} {R : Ending → World → Prop}
theorem zwd (H : Sat (zas x (some M) * F) w) : M Sq.nob = none ∧ ∀ k n, M k = some n → zcb n.count := by
 obtain ⟨es, rep, H⟩ := zb6.1 H
 refine ⟨?_, fun k n h => (rep.okn k n h).count⟩
 cases e : M Sq.nob with
 | none => rfl
 | some n => exact absurd rfl (rep.okm _ _ e).ne
theorem rn_in {A B C : Asn} (H : Sat (A * (B * (C * F))) w) : Sat (C * (A * (B * F))) w := H.of_eq (by ac_rfl)
theorem z9t {A B C : Asn} (H : Sat (C * (A * (B * F))) w) : Sat (C * F) w := (H.of_eq (show _ = (A * B) * (C * F) from by ac_rfl)).right
theorem zie (tr : Tk → Sq.T) (a b : Int) {n e : Int} (hr : Hid ((e = Sq.zgc M (a, b) ∧ e ≠ 0 ∧ n = 0) ∨ (Sq.zgc M (a, b) = 0 ∧ e = 0 ∧ n = (Sq.fj (tr (a, b)).toks (a, b) : Nat)))) (hT : Hid (Sq.TF M tr)) (hx : Hid x.Ok) (H : Sat (zas x (some M) * F) w)
  (h : ∀ w', Sat (zas x (some M) * F) w' → Io w w' → R (.returned (.tuple #[.int .i64 n, .int .i64 e])) w') :
  Calls Tryz.prog 37 #[.pointer (some ⟨x.s, 0, none⟩), tkA a b] w R := by
 have HH := L_ h
 have FACTS := L_ (zwd H)
 have H1 := rn_in (((H.new (.cells #[.pointer (some ⟨x.s, 0, none⟩)] 26)).new (.cells #[.int .i64 a, .int .i64 b] 29)).of_eq (show _ = pts (w.alloc (.cells #[.pointer (some ⟨x.s, 0, none⟩)] 26)).heap.size (.cells #[.int .i64 a, .int .i64 b] 29 (0, 0)) * (pts w.heap.size (.cells #[.pointer (some ⟨x.s, 0, none⟩)] 26 (0, 0)) * (zas x (some M) * F)) from by ac_rfl))
 have I1 := io2 H1 (Io.refl w)
 simp only [World.size_alloc] at H1
 have K1 := zaj (H1.new (.cells #[.int .i64 a, .int .i64 b] 29))
 have J1 := io1 K1 I1
 obtain ⟨eb, heb⟩ : ∃ eb, eb = Sq.zgc M (a, b) := ⟨_, rfl⟩
 have HEB := L_ heb
 clear h H heb
 go_enter Tryz.func37, Tryz.ntmps37
 go_upto_region 1 with fail
 generalize (w.alloc _).alloc _ = w1 at *
 generalize w.heap.size = bx at *
 obtain ⟨y0, y1⟩ := tk2 H1.right
 have y2 : w1.cell? ⟨bx, 0, none⟩ = some (.pointer (some ⟨x.s, 0, none⟩)) := Sat.read H1.right.right.left.at 0
 go_upto_region 2 with (go_at_call 44; (with_reducible refine zdq a b HEB hx K1 ?_); intro w2 H2 I2; have K2 := zc7 H2; have J2 := J1.trans I2)
 clear y0 y1 y2 H1 I1 K1 J1 H2 I2
 rcases zed M (a, b) with ⟨q1, q2⟩ | ⟨q1, q2, q3⟩ | ⟨q1, q2, q3⟩
 ·obtain ⟨rfl, rfl, rfl⟩ : n = 0 ∧ e = 30 ∧ eb = 30 := by
   rcases hr.out with ⟨h1, h2, h3⟩ | ⟨h1, _⟩
   ·exact ⟨h3, h1.trans q1, HEB.out.trans q1⟩
   ·rw [q1] at h1; exact absurd h1 (by decide)
  have FIN := L_ (HH.out w2 (z9t K2) J2)
  clear q1 q2 HEB hr
  go_wp2_with fail
  first | exact FIN.out | exact bodyPost_ret (v := .tuple #[.int .i64 0, .int .i64 30]) (by simp [results, Tryz.results37, go_sem]) rfl FIN.out
 ·obtain ⟨rfl, rfl, rfl⟩ : n = 0 ∧ e = 181 ∧ eb = 181 := by
   rcases hr.out with ⟨h1, h2, h3⟩ | ⟨h1, _⟩
   ·exact ⟨h3, h1.trans q1, HEB.out.trans q1⟩
   ·rw [q1] at h1; exact absurd h1 (by decide)
  have FIN := L_ (HH.out w2 (z9t K2) J2)
  clear q1 q2 q3 HEB hr
  go_wp2_with fail
  first | exact FIN.out | exact bodyPost_ret (v := .tuple #[.int .i64 0, .int .i64 181]) (by simp [results, Tryz.results37, go_sem]) rfl FIN.out
 ·have ht := hT.out _ q3
  obtain ⟨rfl, rfl, hn⟩ : e = 0 ∧ eb = 0 ∧ n = (Sq.fj (tr (a, b)).toks (a, b) : Nat) := by
   rcases hr.out with ⟨h1, h2, h3⟩ | ⟨h1, h2, h3⟩
   ·exact absurd (h1.trans q1) h2
   ·exact ⟨h2, HEB.out.trans q1, h3⟩
  have HN := L_ hn
  clear q1 q2 q3 HEB hr hn
  obtain ⟨l, r, z, hz⟩ := Sq.Z.find (tr (a, b)) .top ht.mem
  have hz' : tr (a, b) = z.zcq (.node l (a, b) r) := hz
  rw [hz'] at ht
  have HW : Hid (zte M (z.way l (a, b) r Sq.nob)) := L_ (Sq.zh9 ht)
  have HS : Hid (Sq.zme M (z.way l (a, b) r Sq.nob)) := L_ (Sq.z5e ht FACTS.out.1 FACTS.out.2)
  have HV : Hid (n = Sq.rkE M (z.way l (a, b) r Sq.nob) (z.way l (a, b) r Sq.nob).length) := L_ (by rw [HN.out, Sq.rk_way FACTS.out.1 ht, hz'])
  have H0 : Hid ((z.way l (a, b) r Sq.nob)[0]? = some ⟨(a, b), Sq.nod l r (z.up Sq.nob), Sq.nob⟩ ∧ (⟨(a, b), Sq.nod l r (z.up Sq.nob), Sq.nob⟩ : Step).fr = Sq.nob) := L_ ⟨rfl, rfl⟩
  have HK : Hid ((⟨(a, b), Sq.nod l r (z.up Sq.nob), Sq.nob⟩ : Step).k = (a, b)) := L_ rfl
  clear hz hz' ht HN
  generalize z.way l (a, b) r Sq.nob = way at *
  generalize (⟨(a, b), Sq.nod l r (z.up Sq.nob), Sq.nob⟩ : Step) = s0 at *
  go_upto_region 5 with fail
  have K3 := K2.new (.cells #[.int .i64 0] 3)
  have J3 := io1 K3 J2
  generalize w2.alloc _ = w3 at *
  generalize w2.heap.size = br at *
  obtain ⟨y0, y1⟩ := tk2 K3.right.right
  have y2 : w3.cell? ⟨bx, 0, none⟩ = some (.pointer (some ⟨x.s, 0, none⟩)) := Sat.read K3.right.right.right.left.at 0
  have K4 : Sat (zas x (some M) * (rkJ M way x.s br bx 0 * (pts (bx + 1) (.cells #[.int .i64 a, .int .i64 b] 29 (0, 0)) * F))) w3 := K3.of_eq (by show pts br (.cells #[.int .i64 0] 3) * (zas x (some M) * (pts (bx + 1) (.cells #[.int .i64 a, .int .i64 b] 29 (0, 0)) * (pts bx (.cells #[.pointer (some ⟨x.s, 0, none⟩)] 26 (0, 0)) * F))) = zas x (some M) * ((pts br (.cells #[.int .i64 0] 3) * pts bx (.cells #[.pointer (some ⟨x.s, 0, none⟩)] 26 (0, 0))) * (pts (bx + 1) (.cells #[.int .i64 a, .int .i64 b] 29 (0, 0)) * F)); ac_rfl)
  go_upto_region 6 with (go_at_call 70; (refine zja z8p (zz8 way HS hx br bx) HW s0 H0 a b HK hx K4 ?_); intro r1 r2 w4 hr H4 I4; have J5 := J3.trans I4)
  clear y0 y1 y2 K3 J3 K4 K2 J2 I4
  simp only [rkJ] at H4
  rw [← HV.out] at H4
  have K5 : Sat (zas x (some M) * (pts br (.cells #[.int .i64 n] 3 (0, 0)) * (pts bx (.cells #[.pointer (some ⟨x.s, 0, none⟩)] 26 (0, 0)) * (pts (bx + 1) (.cells #[.int .i64 a, .int .i64 b] 29 (0, 0)) * F)))) w4 := H4.of_eq (by ac_rfl)
  obtain ⟨y0, y1⟩ := zb3 K5
  have y2 : w4.cell? ⟨bx, 0, none⟩ = some (.pointer (some ⟨x.s, 0, none⟩)) := Sat.read K5.right.right.left.at 0
  have y3 : w4.cell? ⟨br, 0, none⟩ = some (.int .i64 n) := Sat.read K5.right.left.at 0
  have FIN := L_ (HH.out w4 (K5.of_eq (show _ = (pts br (.cells #[.int .i64 n] 3 (0, 0)) * (pts bx (.cells #[.pointer (some ⟨x.s, 0, none⟩)] 26 (0, 0)) * pts (bx + 1) (.cells #[.int .i64 a, .int .i64 b] 29 (0, 0)))) * (zas x (some M) * F) from by ac_rfl)).right J5)
  clear hr HV HS HW H0 HK
  go_wp2_with fail
  first | exact FIN.out | exact bodyPost_ret (v := .tuple #[.int .i64 n, .int .i64 0]) (by simp [results, Tryz.results37, go_sem]) rfl FIN.out
end
def zlx (k : Tk) : List Value := [.int .i64 k.1, .int .i64 k.2]
theorem zca : Enc zlx 2 := ⟨fun _ => rfl, fun x u hu => by
 simp only [zlx, List.mem_cons, List.not_mem_nil, or_false] at hu
 rcases hu with rfl | rfl <;> rfl⟩
theorem zq6 : zjo Tryz.prog 39 29 2 16 := ⟨Tryz.underlying39, ⟨.agg #[.int .i64 0, .int .i64 0], rfl, by kernel_rfl⟩, by decide⟩
abbrev zaw (v : Value) (l : List Tk) : Asn := RowOf 29 2 zlx v l
abbrev Sp := Tk × Nd
def xb3 (s : Sp) : List Value := [.int .i64 s.1.1, .int .i64 s.1.2, .int .i64 s.2.up.1, .int .i64 s.2.up.2, .int .i64 s.2.left.1, .int .i64 s.2.left.2, .int .i64 s.2.right.1, .int .i64 s.2.right.2, .int .i64 s.2.count, .int .i64 s.2.height]
theorem zc6 : Enc xb3 10 := ⟨fun _ => rfl, fun x u hu => by
 simp only [xb3, List.mem_cons, List.not_mem_nil, or_false] at hu
 rcases hu with rfl | rfl | rfl | rfl | rfl | rfl | rfl | rfl | rfl | rfl <;> rfl⟩
theorem rowSp : zjo Tryz.prog 90 94 10 80 := ⟨Tryz.underlying90, ⟨.agg #[.int .i64 0, .int .i64 0, .int .i64 0, .int .i64 0, .int .i64 0, .int .i64 0, .int .i64 0, .int .i64 0, .int .i64 0, .int .i64 0], rfl, by kernel_rfl⟩, by decide⟩
abbrev zc9 (v : Value) (l : List Sp) : Asn := RowOf 94 10 xb3 v l
theorem z5s {α : Type} {enc : α → List Value} {e : TypeId} {sz : Nat} {v : Value} {l : List α} {F : Asn} {w : World} (H : Sat (RowOf e sz enc v l * F) w) : ∃ a n c, v = .slice a n c := by
 obtain ⟨_, ⟨rfl, _⟩ | ⟨g, cap, cur, rfl, _⟩⟩ := za5.1 H
 ·exact ⟨_, _, _, rfl⟩
 ·exact ⟨_, _, _, rfl⟩
def zng (s : Step) : Sp := (s.k, s.n)
section
variable {x : Sx} {M : Mp} {F : Asn} {w : World} {R : Ending → World → Prop}
def ze9 (lb : Nat) (l : List Sp) : Asn := ex fun v : Value => pts lb (.cells #[v] 90 (0, 0)) * zc9 v l
theorem zkm {lb : Nat} {l : List Sp} : Sat (ze9 lb l * F) w ↔ ∃ v, Sat (pts lb (.cells #[v] 90 (0, 0)) * (zc9 v l * F)) w := by
 have e0 : ze9 lb l * F = (ex fun v : Value => pts lb (.cells #[v] 90 (0, 0)) * zc9 v l) * F := rfl
 rw [e0, zeh]
 constructor <;> rintro ⟨v, H⟩ <;> exact ⟨v, H.of_eq (by ac_rfl)⟩
theorem z8q (args : Array Value) (w : World) : (callFunc 82 args).run Tryz.prog w = .ok (.enter 82 args) w := enters_of Tryz.func82 (by kernel_rfl) rfl args w
theorem one1 {b : Nat} {t : TypeId} {v : Value} {G : Asn} (H : Sat (pts b (.cells #[v] t (0, 0)) * G) w) : w.cell? ⟨b, 0, none⟩ = some v ∧ w.frozen? ⟨b, 0, none⟩ = false := ⟨Sat.read H.left.at 0, Sat.free H.left.at 0⟩
theorem pt_out {A B C D E G : Asn} (H : Sat (D * (C * (A * (B * (E * (G * F)))))) w) : Sat (G * ((D * C) * F)) w := (H.of_eq (show _ = (A * (B * E)) * (G * ((D * C) * F)) from by ac_rfl)).right
theorem z0h (way : List Step) (hw : Hid (way.length ≤ 255)) (lb : Nat) : zt5 x M 82 #[.pointer (some ⟨lb, 0, none⟩)] way (fun i => ze9 lb ((way.take i).map zng)) := by
 intro F w R i s hs H h
 obtain ⟨⟨k1, k2⟩, ⟨⟨u1, u2⟩, ⟨p1, p2⟩, ⟨q1, q2⟩, ct, ht⟩, ⟨f1, f2⟩⟩ := s
 change Sat (zas x (some M) * (ze9 lb ((way.take i).map zng) * F)) w at H
 change ∀ w', Sat (zas x (some M) * (ze9 lb ((way.take (i + 1)).map zng) * F)) w' → Io w w' → R (.returned (.tuple #[])) w' at h
 have e1 : (way.take (i + 1)).map zng = (way.take i).map zng ++ [((k1, k2), ⟨(u1, u2), (p1, p2), (q1, q2), ct, ht⟩)] := by
  rw [List.take_add_one, hs]; simp [zng]
 rw [e1] at h
 have HH := L_ h
 have HL : Hid (((way.take i).map zng).length ≤ 255) := L_ (by rw [List.length_map, List.length_take]; have := hw.out; omega)
 generalize (way.take i).map zng = l0 at *
 obtain ⟨vv, H⟩ := zkm.1 (H.of_eq (show _ = ze9 lb l0 * (zas x (some M) * F) from by ac_rfl))
 have H1 := (((H.new (.cells #[.int .i64 k1, .int .i64 k2] 29)).new (.cells #[.int .i64 u1, .int .i64 u2, .int .i64 p1, .int .i64 p2, .int .i64 q1, .int .i64 q2, .int .i64 ct, .int .i64 ht] 85)).new (.cells #[.int .i64 f1, .int .i64 f2] 29)).of_eq (show _ = zc9 vv l0 * (pts lb (.cells #[vv] 90 (0, 0)) * (pts w.heap.size (.cells #[.int .i64 k1, .int .i64 k2] 29 (0, 0)) * (pts ((w.alloc (.cells #[.int .i64 k1, .int .i64 k2] 29)).heap.size) (.cells #[.int .i64 u1, .int .i64 u2, .int .i64 p1, .int .i64 p2, .int .i64 q1, .int .i64 q2, .int .i64 ct, .int .i64 ht] 85 (0, 0)) * (pts (((w.alloc (.cells #[.int .i64 k1, .int .i64 k2] 29)).alloc (.cells #[.int .i64 u1, .int .i64 u2, .int .i64 p1, .int .i64 p2, .int .i64 q1, .int .i64 q2, .int .i64 ct, .int .i64 ht] 85)).heap.size) (.cells #[.int .i64 f1, .int .i64 f2] 29 (0, 0)) * (zas x (some M) * F))))) from by ac_rfl)
 have I1 := io3 H1 (Io.refl w)
 simp only [World.size_alloc, Nat.add_assoc, Nat.reduceAdd] at H1
 clear h H e1 hs
 show Calls Tryz.prog 82 #[tkA k1 k2, ndA u1 u2 p1 p2 q1 q2 ct ht, tkA f1 f2, .pointer (some ⟨lb, 0, none⟩)] w R
 go_enter Tryz.func82, Tryz.ntmps82
 go_upto_region 1 with fail
 generalize ((w.alloc _).alloc _).alloc _ = w1 at *
 generalize w.heap.size = bx at *
 obtain ⟨y0, y1⟩ := tk2 H1.right.right
 obtain ⟨z0, z1⟩ := one1 H1.right
 have Q := nd8 H1.right.right.right
 obtain ⟨q0, q1', q2', q3, q4, q5, q6, q7⟩ := Q
 have hag := Tryz.isAgg29
 have hsz := Tryz.sizeOf29
 have hag2 := Tryz.isAgg85
 have hsz2 := Tryz.sizeOf85
 go_wp2_with (at_builtin; refine za4 rowSp zc6 rfl (.tmp 7) (.tmp 11) rfl rfl H1 (by have := HL.out; omega) ((k1, k2), ⟨(u1, u2), (p1, p2), (q1, q2), ct, ht⟩) rfl rfl ?_; intro v3 w3 H3 I3; have H4 := H3.of_eq (show _ = pts lb (.cells #[vv] 90 (0, 0)) * (zc9 v3 (l0 ++ [((k1, k2), ⟨(u1, u2), (p1, p2), (q1, q2), ct, ht⟩)]) * (pts bx (.cells #[.int .i64 k1, .int .i64 k2] 29 (0, 0)) * (pts (bx + 1) (.cells #[.int .i64 u1, .int .i64 u2, .int .i64 p1, .int .i64 p2, .int .i64 q1, .int .i64 q2, .int .i64 ct, .int .i64 ht] 85 (0, 0)) * (pts (bx + 2) (.cells #[.int .i64 f1, .int .i64 f2] 29 (0, 0)) * (zas x (some M) * F))))) from by unfold zc9; ac_rfl); obtain ⟨g0, g1⟩ := one1 H4; obtain ⟨a3, n3, c3, rfl⟩ := z5s H3)
 have H5 : Sat (zas x (some M) * ((pts lb (.cells #[.slice a3 n3 c3] 90 (0, 0)) * zc9 (.slice a3 n3 c3) (l0 ++ [((k1, k2), ⟨(u1, u2), (p1, p2), (q1, q2), ct, ht⟩)])) * F)) _ := pt_out (H4.cell 0 (.slice a3 n3 c3))
 have H6 : Sat (ze9 lb (l0 ++ [((k1, k2), ⟨(u1, u2), (p1, p2), (q1, q2), ct, ht⟩)]) * (zas x (some M) * F)) _ := zkm.2 ⟨_, H5.of_eq (show _ = pts lb (.cells #[.slice a3 n3 c3] 90 (0, 0)) * (zc9 (.slice a3 n3 c3) (l0 ++ [((k1, k2), ⟨(u1, u2), (p1, p2), (q1, q2), ct, ht⟩)]) * (zas x (some M) * F)) from by ac_rfl)⟩
 go_end0
 exact HH.out _ (H6.of_eq (by ac_rfl)) ((I1.trans I3).setCell _ _)
theorem zzk (way : List Step) (hw : Hid (zte M way)) (s0 : Step) (h0 : Hid (way[0]? = some s0 ∧ s0.fr = Sq.nob)) (k1 k2 : Int) (hk : Hid (s0.k = (k1, k2))) (hx : Hid x.Ok) (H : Sat (zas x (some M) * F) w)
  (h : ∀ v w', Sat (zc9 v (way.map zng) * (zas x (some M) * F)) w' → Io w w' → R (.returned v) w') :
  Calls Tryz.prog 50 #[.pointer (some ⟨x.s, 0, none⟩), tkA k1 k2] w R := by
 have HH := L_ h
 have HL : Hid (way.length ≤ 255) := L_ hw.out.len
 have H1 := zaj ((H.new (.cells #[.int .i64 k1, .int .i64 k2] 29)).of_eq (show _ = pts w.heap.size (.cells #[.int .i64 k1, .int .i64 k2] 29 (0, 0)) * (zas x (some M) * F) from rfl))
 have I1 := io1 H1 (Io.refl w)
 clear h H
 go_enter Tryz.func50, Tryz.ntmps50
 go_upto_region 1 with fail
 generalize w.alloc _ = w1 at *
 generalize w.heap.size = bx at *
 go_upto_region 2 with fail
 have K3 := H1.new (.cells #[.slice none 0 0] 90)
 have J3 := io1 K3 I1
 generalize w1.alloc _ = w3 at *
 generalize w1.heap.size = bl at *
 obtain ⟨y0, y1⟩ := tk2 K3.right.right
 have K4 : Sat (ze9 bl [] * (zas x (some M) * (pts bx (.cells #[.int .i64 k1, .int .i64 k2] 29 (0, 0)) * F))) w3 := zkm.2 ⟨_, (zbd K3).of_eq (show _ = pts bl (.cells #[.slice none 0 0] 90 (0, 0)) * (zc9 (.slice none 0 0) [] * (zas x (some M) * (pts bx (.cells #[.int .i64 k1, .int .i64 k2] 29 (0, 0)) * F))) from by unfold zc9; ac_rfl)⟩
 have K5 : Sat (zas x (some M) * (ze9 bl ((way.take 0).map zng) * (pts bx (.cells #[.int .i64 k1, .int .i64 k2] 29 (0, 0)) * F))) w3 := K4.of_eq (by rw [List.take_zero, List.map_nil]; ac_rfl)
 go_upto_region 3 with (go_at_call 70; (refine zja z8q (z0h way HL bl) hw s0 h0 k1 k2 hk hx K5 ?_); intro r1 r2 w4 hr H4 I4; have J5 := J3.trans I4)
 rw [List.take_length] at H4
 clear y0 y1 H1 I1 K3 J3 K4 K5 I4 hr
 obtain ⟨v, H5⟩ := zkm.1 (H4.of_eq (show _ = ze9 bl (way.map zng) * (zas x (some M) * (pts bx (.cells #[.int .i64 k1, .int .i64 k2] 29 (0, 0)) * F)) from by ac_rfl))
 obtain ⟨z0, -⟩ := one1 H5
 have FIN := L_ (HH.out v w4 (H5.of_eq (show _ = (pts bl (.cells #[v] 90 (0, 0)) * pts bx (.cells #[.int .i64 k1, .int .i64 k2] 29 (0, 0))) * (zc9 v (way.map zng) * (zas x (some M) * F)) from by ac_rfl)).right J5)
 go_wp2_with fail
 first | exact FIN.out | exact bodyPost_ret (v := v) (by simp [results, Tryz.results50, go_sem]) rfl FIN.out
end
structure z8z (M : Mp) (t : Sq.T) (u : Tk) (l : List Tk) (d : Int) : Prop where
 hold : Sq.zc0 M t u
 ok : ∀ y ∈ t.toks, Sq.OkT y
 len : l.length + t.cnt ≤ 1000
 lo : 0 ≤ d
 hi : d + t.ht ≤ 254
abbrev zh6 (x : Sx) (M : Mp) (t : Sq.T) : Prop := ∀ {F : Asn} {w : World} {R : Ending → World → Prop} (u : Tk) (k1 k2 d : Int) (v : Value) (l : List Tk), Hid ((k1, k2) = t.top) → Hid (z8z M t u l d) → Sat (zaw v l * (zas x (some M) * F)) w →
 (∀ v' w', Sat (zaw v' (l ++ t.toks) * (zas x (some M) * F)) w' → Io w w' → R (.returned v') w') →
 Calls Tryz.prog 53 #[.pointer (some ⟨x.s, 0, none⟩), v, tkA k1 k2, .int .i64 d] w R
theorem z5w {b : Nat} {t : TypeId} {k1 k2 : Int} {G : Asn} : Reads zlx (pts b (.cells #[.int .i64 k1, .int .i64 k2] t (0, 0)) * G) (.slice (some ⟨b, 0, none⟩) 1 1) [(k1, k2)] := by
 refine ⟨some ⟨b, 0, none⟩, 1, rfl, by simp, .inr ⟨b, 0, rfl, fun w hw j u hu => ?_⟩⟩
 obtain ⟨h0, h1⟩ := tk2 hw
 have e : cellsOf zlx [(k1, k2)] = [.int .i64 k1, .int .i64 k2] := rfl
 rw [e] at hu
 match j, hu with
 | 0, hu => cases hu; exact h0
 | 1, hu => cases hu; exact h1
section
variable {x : Sx} {M : Mp} {F : Asn} {w : World} {R : Ending → World → Prop}
theorem bl_in {A B C : Asn} (H : Sat (A * (B * (C * F))) w) : Sat (B * (C * (A * F))) w := H.of_eq (by ac_rfl)
theorem bl_end {A B C : Asn} (H : Sat (B * (C * (A * F))) w) : Sat (B * (C * F)) w := (H.of_eq (show _ = A * (B * (C * F)) from by ac_rfl)).right
theorem z2v (hx : Hid x.Ok) : zh6 x M .nil := by
 intro F w R u k1 k2 d v l hk hb H h
 have HH := L_ h
 obtain ⟨rfl, rfl⟩ : k1 = 4294967295 ∧ k2 = 4294967295 := by have := hk.out; unfold Sq.T.top Sq.nob at this; rw [Prod.mk.injEq] at this; exact this
 have hge : ¬ (255 ≤ d) := by have := hb.out.hi; omega
 have hlt : d < 255 := by omega
 have H1 := bl_in (H.new (.cells #[.int .i64 4294967295, .int .i64 4294967295] 29))
 have I1 := io1 H1 (Io.refl w)
 clear h H hk
 go_enter Tryz.func53, Tryz.ntmps53
 go_upto_region 3 with fail
 generalize w.alloc _ = w1 at *
 generalize w.heap.size = bx at *
 have Kd := H1.drew
 have Jd := I1.drew
 clear H1 I1
 have S0 := tk2 Kd.right.right
 have EQ := fun W => zce 4294967295 4294967295 4294967295 4294967295 W
 simp only [decide_true] at EQ
 refine rh Kd (fun W Kd => tk2 Kd.right.right) fun hHeld => ?_
 refine tk ?_ ?_ [0] ?_ hHeld ?_; rotate_left 2; exact tt
 refine rd [1] (rc fun K hK => ?_)
 go_simp
 go_at_call 46; (with_reducible refine zan Kd ?_); intro w2 H2 I2; have S1 := tk2 H2.right.right
 refine hK.out _ _ (by exact S1) fun hHeld => ?_
 clear hK K
 try simp only [sp]
 refine tk ?_ ?_ [2, 3, 4, 5, 6, 7, 8, 9] ?_ hHeld ?_; rotate_left 2; exact tt
 refine wpAnyH_done (by kernel_rfl) ?_ _
 have FIN := L_ (HH.out v w2 (by rw [show l ++ Sq.T.nil.toks = l from List.append_nil l]; exact bl_end H2) (Jd.trans I2))
 clear hge hlt
 go_wp2_with fail
 first | exact FIN.out | exact bodyPost_ret (v := v) (by simp [results, Tryz.results53, go_sem]) rfl FIN.out
theorem zyo (hx : Hid x.Ok) (lt rt : Sq.T) (kk : Tk) (hl : zh6 x M lt) (hr : zh6 x M rt) : zh6 x M (.node lt kk rt) := by
 intro F w R u k1 k2 d v l hk hb H h
 obtain rfl : (k1, k2) = kk := hk.out
 have HH := L_ h
 have HL : Hid (zh6 x M lt) := L_ hl
 have HR : Hid (zh6 x M rt) := L_ hr
 have hge : ¬ (255 ≤ d) := by have := hb.out.hi; omega
 have hlt : d < 255 := by omega
 have hne : (k1, k2) ≠ Sq.nob := (hb.out.ok _ (by simp [Sq.T.toks])).ne
 obtain ⟨p1, p2, EA⟩ : ∃ p1 p2, Hid ((p1, p2) = lt.top) := ⟨_, _, L_ rfl⟩
 obtain ⟨q1, q2, EB⟩ : ∃ q1 q2, Hid ((q1, q2) = rt.top) := ⟨_, _, L_ rfl⟩
 obtain ⟨u1, u2, ct, ht, HM⟩ : ∃ u1 u2 ct ht, Hid (M (k1, k2) = some ⟨(u1, u2), (p1, p2), (q1, q2), ct, ht⟩) := ⟨u.1, u.2, _, _, L_ (by rw [hb.out.hold.1, EA.out, EB.out]; rfl)⟩
 have BL : Hid (z8z M lt (k1, k2) l (d + 1)) := L_ (by
  obtain ⟨h1, h2, h3, h4, h5⟩ := hb.out
  refine ⟨h1.2.1, fun y hy => h2 y (by simp [Sq.T.toks, hy]), ?_, by omega, ?_⟩
  ·simp only [Sq.T.cnt] at h3; omega
  ·simp only [Sq.T.ht] at h5; omega)
 have BR : Hid (z8z M rt (k1, k2) (l ++ lt.toks ++ [(k1, k2)]) (d + 1)) := L_ (by
  obtain ⟨h1, h2, h3, h4, h5⟩ := hb.out
  refine ⟨h1.2.2, fun y hy => h2 y (by simp [Sq.T.toks, hy]), ?_, by omega, ?_⟩
  ·have := lt.zbl; simp only [Sq.T.cnt] at h3; simp only [List.length_append, List.length_singleton]; omega
  ·simp only [Sq.T.ht] at h5; omega)
 have LN : Hid ((l ++ lt.toks).length ≤ 1000000) := L_ (by have h3 := hb.out.len; have := lt.zbl; simp only [Sq.T.cnt] at h3; rw [List.length_append]; omega)
 have wr1 : IntKind.i64.wrap (d + 1) = d + 1 := wrap_in (by have := hb.out.lo; omega) (by omega)
 have H1 := (bl_in (H.new (.cells #[.int .i64 k1, .int .i64 k2] 29))).of_eq (show _ = zas x (some M) * (pts w.heap.size (.cells #[.int .i64 k1, .int .i64 k2] 29 (0, 0)) * (zaw v l * F)) from by unfold zaw; ac_rfl)
 have I1 := io1 H1 (Io.refl w)
 clear h H hk hb hl hr
 go_enter Tryz.func53, Tryz.ntmps53
 go_upto_region 3 with fail
 generalize w.alloc _ = w1 at *
 generalize w.heap.size = bx at *
 clear hge hlt
 have Kd := H1.drew
 have Jd := I1.drew
 clear H1 I1
 have S0 := And.intro (tk2 Kd.right) (zb3 Kd)
 have EQ := fun W => zce k1 k2 4294967295 4294967295 W
 rw [show decide ((k1, k2) = ((4294967295 : Int), (4294967295 : Int))) = false from decide_eq_false hne] at EQ
 refine rh Kd (fun W Kd => And.intro (tk2 Kd.right) (zb3 Kd)) fun hHeld => ?_
 refine tk ?_ ?_ [0] ?_ hHeld ?_; rotate_left 2; exact tt
 refine rd [1] (rc fun K hK => ?_)
 go_simp
 go_at_call 46; (with_reducible refine zan Kd ?_); intro w2 H2 I2; have S1 := And.intro (tk2 H2.right) (zb3 H2)
 refine hK.out _ _ (by exact S1) fun hHeld => ?_
 clear hK K
 try simp only [sp]
 refine tk ?_ ?_ [2, 3, 4, 5, 6, 7, 8, 9] ?_ hHeld ?_; rotate_left 2; exact tt
 refine wpAnyH_done (by kernel_rfl) ?_ _
 have J2 := Jd.trans I2
 clear S0 S1 Kd Jd I2 hHeld EQ hne
 obtain ⟨y0, y1⟩ := tk2 H2.right
 go_upto_region 6 with (go_at_call 58; (with_reducible refine zdo k1 k2 HM hx H2 ?_); intro w4 H4 I4; have K4 := H4.new (.cells #[.int .i64 u1, .int .i64 u2, .int .i64 p1, .int .i64 p2, .int .i64 q1, .int .i64 q2, .int .i64 ct, .int .i64 ht] 85); have J4 := (J2.trans I4).alloc (.cells #[.int .i64 u1, .int .i64 u2, .int .i64 p1, .int .i64 p2, .int .i64 q1, .int .i64 q2, .int .i64 ct, .int .i64 ht] 85))
 clear y0 y1 H2 J2 H4 I4
 generalize w4.alloc _ = w5 at *
 generalize w4.heap.size = bn at *
 have Kd := K4.drew
 have Jd := J4.drew
 clear K4 J4
 have S0 := And.intro (tk2 Kd.right.right) (And.intro (nd8 Kd).2.2.1 (nd8 Kd).2.2.2.1)
 skip
 refine rh Kd (fun W Kd => And.intro (tk2 Kd.right.right) (And.intro (nd8 Kd).2.2.1 (nd8 Kd).2.2.2.1)) fun hHeld => ?_
 refine tk ?_ ?_ [0, 1, 2, 3, 4, 5, 7] ?_ hHeld ?_; rotate_left 2; exact tt
 refine rd [6, 8] (rn (fun K hK => ?_) (rc fun K hK => ?_))
 ·go_simp
  go_at_call 53; (refine HL.out (k1, k2) p1 p2 (d + 1) v l EA BL (Kd.of_eq (show _ = zaw v l * (zas x (some M) * (pts bn (.cells #[.int .i64 u1, .int .i64 u2, .int .i64 p1, .int .i64 p2, .int .i64 q1, .int .i64 q2, .int .i64 ct, .int .i64 ht] 85 (0, 0)) * (pts bx (.cells #[.int .i64 k1, .int .i64 k2] 29 (0, 0)) * F))) from by unfold zaw; ac_rfl)) ?_); intro v6 w6 H6 I6
  have S1 := And.intro (tk2 H6.right.right.right) (And.intro (nd8 H6.right.right).2.2.1 (nd8 H6.right.right).2.2.2.1)
  refine hK.out _ _ (by exact S1) fun hHeld => ?_
  clear hK K
  try simp only [sp]
  refine rd [8] (rc fun K hK => ?_)
  go_simp
  have HN := H6.new (.cells #[.int .i64 k1, .int .i64 k2] 29)
  have S2 := And.intro (tk2 HN.right.right.right.right) (And.intro (nd8 HN.right.right.right).2.2.1 (nd8 HN.right.right.right).2.2.2.1)
  refine hK.out _ _ (by exact S2) fun hHeld => ?_
  clear hK K
  try simp only [sp]
  refine rd [9] (rc fun K hK => ?_)
  refine zcg zq6 zca rfl (.tmp 35) (.tmp 37) rfl rfl H6 LN.out (k1, k2) rfl rfl ?_
  intro v7 w8 H8 I8
  have S3 := And.intro (tk2 H8.right.right.right) (And.intro (nd8 H8.right.right).2.2.1 (nd8 H8.right.right).2.2.2.1)
  refine hK.out _ _ (by exact S3) fun hHeld => ?_
  clear hK K
  try simp only [sp]
  have CB : w8.cell? ⟨bn, 4, none⟩ = some (.int .i64 q1) ∧ w8.cell? ⟨bn, 5, none⟩ = some (.int .i64 q2) := ⟨(nd8 H8.right.right).2.2.2.2.1, (nd8 H8.right.right).2.2.2.2.2.1⟩
  have J8 := (Jd.trans I6).trans I8
  clear Kd Jd H6 I6 HN I8 S1 S2
  have EN9 : ∀ (v9 : Value) (w9 : World) (m : List Tk), Sat (zaw v9 m * (zas x (some M) * (pts bn (.cells #[.int .i64 u1, .int .i64 u2, .int .i64 p1, .int .i64 p2, .int .i64 q1, .int .i64 q2, .int .i64 ct, .int .i64 ht] 85 (0, 0)) * (pts bx (.cells #[.int .i64 k1, .int .i64 k2] 29 (0, 0)) * F)))) w9 → Sat (zaw v9 m * (zas x (some M) * F)) w9 := fun _ _ _ H => (H.of_eq (show _ = (pts bn (.cells #[.int .i64 u1, .int .i64 u2, .int .i64 p1, .int .i64 p2, .int .i64 q1, .int .i64 q2, .int .i64 ct, .int .i64 ht] 85 (0, 0)) * pts bx (.cells #[.int .i64 k1, .int .i64 k2] 29 (0, 0))) * (zaw _ _ * (zas x (some M) * F)) from by unfold zaw; ac_rfl)).right
  have EN9 := L_ EN9
  refine rd [10] (rc fun K hK => ?_)
  go_simp
  refine hK.out _ _ (by exact S3) fun hHeld => ?_
  clear hK K
  try simp only [sp]
  refine wpAnyH_done (by kernel_rfl) ?_ _
  clear S0 hHeld S3
  obtain ⟨y0, y1⟩ := CB
  go_wp2_with (go_at_call 53; (refine HR.out (k1, k2) q1 q2 (d + 1) v7 (l ++ lt.toks ++ [(k1, k2)]) EB BR H8 ?_); intro v9 w9 H9 I9)
  have FIN := L_ (HH.out v9 w9 (by rw [show l ++ (Sq.T.node lt (k1, k2) rt).toks = l ++ lt.toks ++ [(k1, k2)] ++ rt.toks from by simp [Sq.T.toks]]; exact EN9.out _ _ _ H9) (J8.trans I9))
  first | exact FIN.out | exact bodyPost_ret (v := v9) (by simp [results, Tryz.results53, go_sem]) rfl FIN.out
 ·go_simp
  have HN := Kd.new (.cells #[.int .i64 k1, .int .i64 k2] 29)
  have S1 := And.intro (tk2 HN.right.right.right) (And.intro (nd8 HN.right).2.2.1 (nd8 HN.right).2.2.2.1)
  refine hK.out _ _ (by exact S1) fun hHeld => ?_
  clear hK K
  try simp only [sp]
  skip
  refine rd [6] (rc fun K hK => ?_)
  go_simp
  go_at_call 53; (refine HL.out (k1, k2) p1 p2 (d + 1) v l EA BL (HN.of_eq (show _ = zaw v l * (zas x (some M) * (pts w5.drew.heap.size (.cells #[.int .i64 k1, .int .i64 k2] 29 (0, 0)) * (pts bn (.cells #[.int .i64 u1, .int .i64 u2, .int .i64 p1, .int .i64 p2, .int .i64 q1, .int .i64 q2, .int .i64 ct, .int .i64 ht] 85 (0, 0)) * (pts bx (.cells #[.int .i64 k1, .int .i64 k2] 29 (0, 0)) * F)))) from by unfold zaw; ac_rfl)) ?_); intro v6 w6 H6 I6
  have S2 := And.intro (tk2 H6.right.right.right.right) (And.intro (nd8 H6.right.right.right).2.2.1 (nd8 H6.right.right.right).2.2.2.1)
  refine hK.out _ _ (by exact S2) fun hHeld => ?_
  clear hK K
  try simp only [sp]
  refine rd [9] (rc fun K hK => ?_)
  refine zf8 zq6 zca rfl (.tmp 35) (.tmp 37) rfl rfl H6 LN.out (by simp) rfl (z5w.imp (F := pts w5.drew.heap.size (.cells #[.int .i64 k1, .int .i64 k2] 29 (0, 0)) * (zas x (some M) * (pts bn (.cells #[.int .i64 u1, .int .i64 u2, .int .i64 p1, .int .i64 p2, .int .i64 q1, .int .i64 q2, .int .i64 ct, .int .i64 ht] 85 (0, 0)) * (pts bx (.cells #[.int .i64 k1, .int .i64 k2] 29 (0, 0)) * F)))) (fun _ hw => hw.of_eq (by ac_rfl))) ?_
  intro v7 w8 H8 I8
  have S3 := And.intro (tk2 H8.right.right.right.right) (And.intro (nd8 H8.right.right.right).2.2.1 (nd8 H8.right.right.right).2.2.2.1)
  refine hK.out _ _ (by exact S3) fun hHeld => ?_
  clear hK K
  try simp only [sp]
  have CB : w8.cell? ⟨bn, 4, none⟩ = some (.int .i64 q1) ∧ w8.cell? ⟨bn, 5, none⟩ = some (.int .i64 q2) := ⟨(nd8 H8.right.right.right).2.2.2.2.1, (nd8 H8.right.right.right).2.2.2.2.2.1⟩
  have J8 := ((Jd.alloc (.cells #[.int .i64 k1, .int .i64 k2] 29)).trans I6).trans I8
  have EN9 : ∀ (v9 : Value) (w9 : World) (m : List Tk), Sat (zaw v9 m * (zas x (some M) * (pts w5.drew.heap.size (.cells #[.int .i64 k1, .int .i64 k2] 29 (0, 0)) * (pts bn (.cells #[.int .i64 u1, .int .i64 u2, .int .i64 p1, .int .i64 p2, .int .i64 q1, .int .i64 q2, .int .i64 ct, .int .i64 ht] 85 (0, 0)) * (pts bx (.cells #[.int .i64 k1, .int .i64 k2] 29 (0, 0)) * F))))) w9 → Sat (zaw v9 m * (zas x (some M) * F)) w9 := fun _ _ _ H => (H.of_eq (show _ = (pts w5.drew.heap.size (.cells #[.int .i64 k1, .int .i64 k2] 29 (0, 0)) * (pts bn (.cells #[.int .i64 u1, .int .i64 u2, .int .i64 p1, .int .i64 p2, .int .i64 q1, .int .i64 q2, .int .i64 ct, .int .i64 ht] 85 (0, 0)) * pts bx (.cells #[.int .i64 k1, .int .i64 k2] 29 (0, 0)))) * (zaw _ _ * (zas x (some M) * F)) from by unfold zaw; ac_rfl)).right
  have EN9 := L_ EN9
  clear Kd Jd H6 I6 HN I8 S1 S2
  refine rd [10] (rc fun K hK => ?_)
  go_simp
  refine hK.out _ _ (by exact S3) fun hHeld => ?_
  clear hK K
  try simp only [sp]
  refine wpAnyH_done (by kernel_rfl) ?_ _
  clear S0 hHeld S3
  obtain ⟨y0, y1⟩ := CB
  go_wp2_with (go_at_call 53; (refine HR.out (k1, k2) q1 q2 (d + 1) v7 (l ++ lt.toks ++ [(k1, k2)]) EB BR H8 ?_); intro v9 w9 H9 I9)
  have FIN := L_ (HH.out v9 w9 (by rw [show l ++ (Sq.T.node lt (k1, k2) rt).toks = l ++ lt.toks ++ [(k1, k2)] ++ rt.toks from by simp [Sq.T.toks]]; exact EN9.out _ _ _ H9) (J8.trans I9))
  first | exact FIN.out | exact bodyPost_ret (v := v9) (by simp [results, Tryz.results53, go_sem]) rfl FIN.out
end
end Go.Proofs.YtfknjmoekbabcaaGreatDoor
namespace Go.Proofs.YtfknjmoekbabcaaGreatDoor
open Go.RowKit Go.Lib
open Sq (Tk Nd Mp zcb InT Fr)
section
variable {x : Sx} {M : Mp} {F : Asn} {w : World} {R : Ending → World → Prop}
theorem z2w (hx : Hid x.Ok) (t : Sq.T) : zh6 x M t := by
 induction t with
 | nil => exact z2v hx
 | node l k r hl hr => exact zyo hx l r k hl hr
theorem z95 {A : Asn} (H : Sat (A * F) w) : Sat (A * F) w := H
theorem z06 {A B : Asn} (H : Sat (A * (B * F)) w) : Sat (B * (A * F)) w := H.of_eq (by ac_rfl)
theorem li_in {A B : Asn} (H : Sat (A * (B * F)) w) : Sat (B * (A * F)) w := H.of_eq (by ac_rfl)
theorem zzm (tr : Tk → Sq.T) (a b : Int) (hT : Hid (Sq.TF M tr)) (hx : Hid x.Ok) (H : Sat (zas x (some M) * F) w)
  (h : ∀ v l e w', Hid ((e = Sq.zgc M (a, b) ∧ e ≠ 0 ∧ l = []) ∨ (Sq.zgc M (a, b) = 0 ∧ e = 0 ∧ l = (tr (a, b)).toks)) → Sat (zaw v l * (zas x (some M) * F)) w' → Io w w' → R (.returned (.tuple #[v, .int .i64 e])) w') :
  Calls Tryz.prog 17 #[.pointer (some ⟨x.s, 0, none⟩), tkA a b] w R := by
 have HH := L_ h
 have H1 := li_in (H.new (.cells #[.int .i64 a, .int .i64 b] 29))
 have I1 := io1 H1 (Io.refl w)
 clear h H
 go_enter Tryz.func17, Tryz.ntmps17
 go_upto_region 1 with fail
 generalize w.alloc _ = w1 at *
 generalize w.heap.size = bx at *
 obtain ⟨y0, y1⟩ := tk2 H1.right
 obtain ⟨f0, f1⟩ := zfr H1.right
 go_upto_region 2 with (go_at_call 47; (with_reducible refine zdy tr a b hT hx H1 ?_); intro r1 r2 v1 v2 v3 v4 v5 v6 v7 v8 e w2 hr H2 I2; have HA := (H2.new (.cells #[.int .i64 0, .int .i64 0, .int .i64 0, .int .i64 0, .int .i64 0, .int .i64 0, .int .i64 0, .int .i64 0] 85)).of_eq (show _ = pts bx (.cells #[.int .i64 a, .int .i64 b] 29 (0, 0)) * (pts w2.heap.size (.cells #[.int .i64 0, .int .i64 0, .int .i64 0, .int .i64 0, .int .i64 0, .int .i64 0, .int .i64 0, .int .i64 0] 85 (0, 0)) * (zas x (some M) * F)) from by ac_rfl); obtain ⟨g0, g1⟩ := tk2 HA; obtain ⟨g2, g3⟩ := zfr HA; have KE := z06 (zcu (.int .i64 r1) (.int .i64 r2) HA); have G := zby (z95 KE); obtain ⟨j0, j1, j2, j3, j4, j5, j6, j7⟩ := G; have G2 := nd8 KE; obtain ⟨i0, i1, i2, i3, i4, i5, i6, i7⟩ := G2; have KN := zay (.int .i64 v1) (.int .i64 v2) (.int .i64 v3) (.int .i64 v4) (.int .i64 v5) (.int .i64 v6) (.int .i64 v7) (.int .i64 v8) (z95 KE); have JN := zac (b := w2.heap.size) (.int .i64 v1) (.int .i64 v2) (.int .i64 v3) (.int .i64 v4) (.int .i64 v5) (.int .i64 v6) (.int .i64 v7) (.int .i64 v8) (zax (b := bx) (.int .i64 r1) (.int .i64 r2) ((I1.trans I2).alloc (.cells #[.int .i64 0, .int .i64 0, .int .i64 0, .int .i64 0, .int .i64 0, .int .i64 0, .int .i64 0, .int .i64 0] 85))))
 clear y0 y1 f0 f1 g0 g1 g2 g3 j0 j1 j2 j3 j4 j5 j6 j7 i0 i1 i2 i3 i4 i5 i6 i7 HA KE H1 I1 H2 I2
 generalize ((((((((((w2.alloc _).setCell ⟨bx, 0, none⟩ (.int .i64 r1)).setCell ⟨bx, 1, none⟩ (.int .i64 r2)).setCell ⟨w2.heap.size, 0, none⟩ (.int .i64 v1)).setCell ⟨w2.heap.size, 1, none⟩ (.int .i64 v2)).setCell ⟨w2.heap.size, 2, none⟩ (.int .i64 v3)).setCell ⟨w2.heap.size, 3, none⟩ (.int .i64 v4)).setCell ⟨w2.heap.size, 4, none⟩ (.int .i64 v5)).setCell ⟨w2.heap.size, 5, none⟩ (.int .i64 v6)).setCell ⟨w2.heap.size, 6, none⟩ (.int .i64 v7)).setCell ⟨w2.heap.size, 7, none⟩ (.int .i64 v8) = w3 at *
 generalize w2.heap.size = b6 at *
 have K3 : Sat (zas x (some M) * (pts b6 (.cells #[.int .i64 v1, .int .i64 v2, .int .i64 v3, .int .i64 v4, .int .i64 v5, .int .i64 v6, .int .i64 v7, .int .i64 v8] 85 (0, 0)) * (pts bx (.cells #[.int .i64 r1, .int .i64 r2] 29 (0, 0)) * F))) w3 := KN.of_eq (by ac_rfl)
 clear KN
 rcases hr.out with ⟨h1, h2, h3, h4⟩ | ⟨h1, h2, h3, h4, h5, h6⟩
 ·have FIN := L_ (HH.out (.slice none 0 0) [] e w3 (L_ (.inl ⟨h1, h2, rfl⟩)) (zbd (K3.of_eq (show _ = (pts b6 (.cells #[.int .i64 v1, .int .i64 v2, .int .i64 v3, .int .i64 v4, .int .i64 v5, .int .i64 v6, .int .i64 v7, .int .i64 v8] 85 (0, 0)) * pts bx (.cells #[.int .i64 r1, .int .i64 r2] 29 (0, 0))) * (zas x (some M) * F) from by ac_rfl)).right) JN)
  have he : e = 30 ∨ e = 181 := by
   rcases zed M (a, b) with ⟨q1, q2⟩ | ⟨q1, q2, q3⟩ | ⟨q1, q2, q3⟩
   ·exact .inl (h1.trans q1)
   ·exact .inr (h1.trans q1)
   ·exact absurd (h1.trans q1) h2
  clear h1 h2 h3 h4 hr HH K3 JN
  rcases he with rfl | rfl
  ·go_wp2_with fail
   first | exact FIN.out | exact bodyPost_ret (v := .tuple #[.slice none 0 0, .int .i64 30]) (by simp [results, Tryz.results17, go_sem]) rfl FIN.out
  ·go_wp2_with fail
   first | exact FIN.out | exact bodyPost_ret (v := .tuple #[.slice none 0 0, .int .i64 181]) (by simp [results, Tryz.results17, go_sem]) rfl FIN.out
 ·subst h2
  have ht := hT.out _ h3
  have HR : Hid ((r1, r2) = (tr (a, b)).top) := L_ h5
  have BS : Hid (z8z M (tr (a, b)) Sq.nob [] 0) := L_ ⟨ht.hold, ht.ok, by have := ht.cnt; simp only [List.length_nil]; omega, by omega, by have := ht.cnt; have := (tr (a, b)).zdw; omega⟩
  have HB := L_ h1
  have HK := zbd (sz := 2) (enc := zlx) (e := 29) K3
  obtain ⟨y0, y1⟩ := tk2 K3.right.right
  clear h1 h3 h4 h5 h6 hr ht
  go_upto_region 5 with (go_at_call 53; (refine z2w hx (tr (a, b)) Sq.nob r1 r2 0 (.slice none 0 0) [] HR BS HK ?_); intro v9 w9 H9 I9)
  clear y0 y1 HK K3
  obtain ⟨y0, y1⟩ := zb3 H9.right
  have FIN := L_ (HH.out v9 _ 0 w9 (L_ (.inr ⟨HB.out, rfl, rfl⟩)) ((H9.of_eq (show _ = (pts b6 (.cells #[.int .i64 v1, .int .i64 v2, .int .i64 v3, .int .i64 v4, .int .i64 v5, .int .i64 v6, .int .i64 v7, .int .i64 v8] 85 (0, 0)) * pts bx (.cells #[.int .i64 r1, .int .i64 r2] 29 (0, 0))) * (zaw v9 (tr (a, b)).toks * (zas x (some M) * F)) from by rw [List.nil_append]; unfold zaw; ac_rfl)).right) (JN.trans I9))
  go_wp2_with fail
  first | exact FIN.out | exact bodyPost_ret (v := .tuple #[v9, .int .i64 0]) (by simp [results, Tryz.results17, go_sem]) rfl FIN.out
end
end Go.Proofs.YtfknjmoekbabcaaGreatDoor
