/-
  A part of a proof. It proves no statement by itself.
-/
import Derived.Test.YtfknjmoekbabcaaGreatDoorA43
set_option linter.unusedSimpArgs false
set_option linter.unusedVariables false
set_option linter.unusedSectionVars false
set_option maxRecDepth 100000
set_option maxHeartbeats 64000000
namespace Go.Proofs.YtfknjmoekbabcaaGreatDoor
open Go.RowKit Go.Lib
open Sq (Tk Nd Mp zcb InT Fr)
open Sq.Z (Step)
section
variable {x : Sx} {M : Mp} {F : Asn} {w : World} {R : Ending → World → Prop}
theorem zk3 {A : Asn} {g wn c bx : Nat} {tk : TypeId} {l : List Sp} {a b u1 u2 p1 p2 q1 q2 ct ht : Int} (h : l[0]? = some ((a, b), ⟨(u1, u2), (p1, p2), (q1, q2), ct, ht⟩)) (H : Sat (A * (zc9 (.slice (some ⟨g, 0, none⟩) wn c) l * (pts bx (.cells #[.int .i64 a, .int .i64 b] tk (0, 0)) * F))) w) :
  (w.cell? ⟨bx, 0, none⟩ = some (.int .i64 a) ∧ w.cell? ⟨bx, 1, none⟩ = some (.int .i64 b)) ∧ (w.cell? ⟨g, 4, none⟩ = some (.int .i64 p1) ∧ w.cell? ⟨g, 5, none⟩ = some (.int .i64 p2)) ∧ (w.cell? ⟨g, 6, none⟩ = some (.int .i64 q1) ∧ w.cell? ⟨g, 7, none⟩ = some (.int .i64 q2)) := by
 obtain ⟨_, _, _, _, c4, c5, c6, c7, _, _⟩ := zhx H.right 0 h
 exact ⟨tk2 H.right.right, ⟨c4, c5⟩, ⟨c6, c7⟩⟩
theorem xas {A B : Asn} (H : Sat (A * (B * F)) w) : Sat (B * (A * F)) w := H.of_eq (by ac_rfl)
theorem sp_row {A B : Asn} {v : Value} {l : List Sp} (H : Sat (zc9 v l * (A * (B * F))) w) : Sat (A * (zc9 v l * (B * F))) w := H.of_eq (by unfold zc9; ac_rfl)
theorem sp_end {A B C : Asn} (H : Sat (A * (B * (C * F))) w) : Sat (A * F) w := (H.of_eq (show _ = (B * C) * (A * F) from by ac_rfl)).right
theorem zqw (tr : Tk → Sq.T) (a b : Int) {n e : Int} (hr : Hid ((e = Sq.zgc M (a, b) ∧ e ≠ 0 ∧ n = 0) ∨ (Sq.zgc M (a, b) = 0 ∧ e = 0 ∧ n = (Sq.fj (tr (a, b)).toks (a, b) : Nat)))) (hno : Hid (e ≠ 0 ∨ n = 0)) (hT : Hid (Sq.TF M tr)) (hx : Hid x.Ok) (H : Sat (zas x (some M) * F) w)
  (h : ∀ w', Sat (zas x (some M) * F) w' → Io w w' → R (.returned (.int .i64 e)) w') :
  Calls Tryz.prog 15 #[.pointer (some ⟨x.s, 0, none⟩), tkA a b] w R := by
 have HH := L_ h
 have H1 := xas (H.new (.cells #[.int .i64 a, .int .i64 b] 29))
 have I1 := io1 H1 (Io.refl w)
 clear h H
 go_enter Tryz.func15, Tryz.ntmps15
 go_upto_region 1 with fail
 generalize w.alloc _ = w1 at *
 generalize w.heap.size = bx at *
 obtain ⟨y0, y1⟩ := tk2 H1.right
 go_upto_region 2 with (go_at_call 37; (with_reducible refine zie tr a b hr hT hx H1 ?_); intro w2 H2 I2; have J2 := I1.trans I2)
 clear y0 y1 H1 I1 I2
 have he : e = 30 ∨ e = 181 ∨ (e = 0 ∧ n = 0) := by
  rcases hr.out with ⟨h1, h2, h3⟩ | ⟨h1, h2, h3⟩
  ·rcases zed M (a, b) with ⟨q1, q2⟩ | ⟨q1, q2, q3⟩ | ⟨q1, q2, q3⟩
   ·exact .inl (h1.trans q1)
   ·exact .inr (.inl (h1.trans q1))
   ·exact absurd (h1.trans q1) h2
  ·rcases hno.out with h | h
   ·exact absurd h2 h
   ·exact .inr (.inr ⟨h2, h⟩)
 have FIN := L_ (HH.out w2 (xas H2).right J2)
 clear HH hr hno
 rcases he with rfl | rfl | ⟨rfl, rfl⟩
 ·go_wp2_with fail
  first | exact FIN.out | exact bodyPost_ret (v := .int .i64 30) (by simp [results, Tryz.results15, go_sem]) rfl FIN.out
 ·go_wp2_with fail
  first | exact FIN.out | exact bodyPost_ret (v := .int .i64 181) (by simp [results, Tryz.results15, go_sem]) rfl FIN.out
 ·go_wp2_with fail
  first | exact FIN.out | exact bodyPost_ret (v := .int .i64 0) (by simp [results, Tryz.results15, go_sem]) rfl FIN.out
theorem zxc (tr : Tk → Sq.T) (a b : Int) {l r : Sq.T} {z : Sq.Z} (ht : Hid (tr (a, b) = z.zcq (.node l (a, b) r))) (hta : Hid (Sq.zga M (z.zcq (.node l (a, b) r)) (a, b))) (he : Hid (Sq.zgc M (a, b) = 0)) (hno : Hid (Sq.fj (tr (a, b)).toks (a, b) ≠ 0)) (hT : Hid (Sq.TF M tr)) (hx : Hid x.Ok) (H : Sat (zas x (some M) * F) w)
  (h : ∀ m' w', Hid (z8y (some M) m' (z.zcq (.node l (a, b) r)).toks (z.ahead ++ l.toks) (((a, b) :: r.toks) ++ z.behind)) → Sat (zas x m' * F) w' → Io w w' → R (.returned (.int .i64 (zk1 m'))) w') :
  Calls Tryz.prog 15 #[.pointer (some ⟨x.s, 0, none⟩), tkA a b] w R := by
 have HH := L_ h
 have H1 := xas (H.new (.cells #[.int .i64 a, .int .i64 b] 29))
 have I1 := io1 H1 (Io.refl w)
 obtain ⟨n, hn⟩ : ∃ n : Nat, n = Sq.fj (tr (a, b)).toks (a, b) := ⟨_, rfl⟩
 have HR : Hid (((0 : Int) = Sq.zgc M (a, b) ∧ (0 : Int) ≠ 0 ∧ (n : Int) = 0) ∨ (Sq.zgc M (a, b) = 0 ∧ (0 : Int) = 0 ∧ (n : Int) = (Sq.fj (tr (a, b)).toks (a, b) : Nat))) := L_ (.inr ⟨he.out, rfl, by rw [hn]⟩)
 rw [← hn] at hno
 have hn0 : ¬ (n : Int) = 0 := by have := hno.out; omega
 clear h H hn
 go_enter Tryz.func15, Tryz.ntmps15
 go_upto_region 1 with fail
 generalize w.alloc _ = w1 at *
 generalize w.heap.size = bx at *
 obtain ⟨y0, y1⟩ := tk2 H1.right
 go_upto_region 2 with (go_at_call 37; (with_reducible refine zie tr a b HR hT hx H1 ?_); intro w2 H2 I2; have J2 := I1.trans I2)
 clear y0 y1 H1 I1 I2 HR
 obtain ⟨y0, y1⟩ := tk2 H2.right
 obtain ⟨way, hway⟩ : ∃ way, way = z.way l (a, b) r Sq.nob := ⟨_, rfl⟩
 obtain ⟨⟨u1, u2⟩, hu⟩ : ∃ u : Tk, u = z.up Sq.nob := ⟨_, rfl⟩
 obtain ⟨⟨p1, p2⟩, hp⟩ : ∃ u : Tk, u = l.top := ⟨_, rfl⟩
 obtain ⟨⟨q1, q2⟩, hq⟩ : ∃ u : Tk, u = r.top := ⟨_, rfl⟩
 obtain ⟨ct, hct⟩ : ∃ u : Int, u = ((l.cnt + r.cnt + 1 : Nat) : Int) := ⟨_, rfl⟩
 obtain ⟨hh, hht⟩ : ∃ u : Int, u = ((max l.ht r.ht + 1 : Nat) : Int) := ⟨_, rfl⟩
 have W0 : Hid (way[0]? = some ⟨(a, b), ⟨(u1, u2), (p1, p2), (q1, q2), ct, hh⟩, Sq.nob⟩) := L_ (by rw [hway, hu, hp, hq, hct, hht]; rfl)
 have HP := L_ hp
 have HQ := L_ hq
 have HW : Hid (zte M way) := L_ (by rw [hway]; exact Sq.zh9 hta.out)
 have HWL : Hid (1 ≤ way.length ∧ way.length ≤ 255) := L_ ⟨by have := W0.out; have := (List.getElem?_eq_some_iff.1 this).1; omega, HW.out.len⟩
 have HWAY := L_ hway
 have H0 : Hid (way[0]? = some ⟨(a, b), ⟨(u1, u2), (p1, p2), (q1, q2), ct, hh⟩, Sq.nob⟩ ∧ (⟨(a, b), ⟨(u1, u2), (p1, p2), (q1, q2), ct, hh⟩, Sq.nob⟩ : Step).fr = Sq.nob) := L_ ⟨W0.out, rfl⟩
 have HK : Hid ((⟨(a, b), ⟨(u1, u2), (p1, p2), (q1, q2), ct, hh⟩, Sq.nob⟩ : Step).k = (a, b)) := L_ rfl
 clear hway hu hp hq hct hht
 go_upto_region 5 with (go_at_call 50; (with_reducible refine zzk way HW _ H0 a b HK hx H2 ?_); intro v w3 H3 I3; have J3 := J2.trans I3)
 obtain ⟨g, c, hv⟩ : ∃ g c, v = .slice (some ⟨g, 0, none⟩) (way.map zng).length c := zcp H3 (by rw [List.length_map]; have := HWL.out.1; omega)
 rw [List.length_map] at hv
 subst hv
 obtain ⟨wn, hwn⟩ : ∃ wn : Nat, wn = way.length := ⟨_, rfl⟩
 rw [← hwn] at H3
 have hwi : (0 : Int) < (wn : Int) := by have := HWL.out.1; omega
 have hw0 : 0 < wn := by have := HWL.out.1; omega
 have EW : Hid (wn = way.length) := L_ hwn
 rw [← hwn]
 have K3 := sp_row H3
 clear y0 y1 H2 J2 I3 H3 hwn HW H0 HK
 obtain ⟨y0, y1⟩ := zb3 K3
 go_upto_region 6 with fail
 clear y0 y1
 have Kd := K3.drew
 have Jd := J3.drew
 clear K3 J3
 have M0 : Hid ((way.map zng)[0]? = some ((a, b), ⟨(u1, u2), (p1, p2), (q1, q2), ct, hh⟩)) := L_ (by rw [List.getElem?_map, W0.out]; rfl)
 have S0 := zk3 M0.out Kd
 refine rh Kd (fun W Kd => zk3 M0.out Kd) fun hHeld => ?_
 refine tk ?_ ?_ [0, 1, 2, 3, 4, 5, 6, 7, 9, 10, 11, 12, 13, 14] ?_ hHeld ?_; rotate_left 2; exact tt
 refine rd [8] (rc fun K hK => ?_)
 go_simp
 go_at_call 46; (with_reducible refine zan Kd ?_); intro w5 H5 I5; have S5 := zk3 M0.out H5
 refine hK.out _ _ (by exact S5) fun hHeld => ?_
 clear hK K
 try simp only [sp]
 refine rd [15] (rc fun K hK => ?_)
 go_simp
 have FR := L_ (Sq.zul hta.out); have HN : Hid ((Sq.T.nil).ht + (r).ht ≤ (Sq.T.nil).ht + (r).ht) := L_ (Nat.le_refl _); have AL : Hid (∀ M', some M = some M' → ((4294967295, 4294967295) : Tk) = (Sq.T.nil).top ∧ ((q1, q2) : Tk) = (r).top) := L_ (fun _ _ => ⟨rfl, HQ.out⟩); have BB : Hid ((Sq.T.nil).Bal ∧ (r).Bal) := L_ ⟨trivial, (Sq.zl5 hta.out).2.1⟩; go_at_call 52; (refine zgf _ (Sq.T.nil) (r) 4294967295 4294967295 a b q1 q2 HN AL FR BB hx H5 ?_); intro m1 v1 v2 t w6 D6 H6 I6; have S6 := zk3 M0.out H6
 refine hK.out _ _ (by exact S6) fun hHeld => ?_
 clear hK K
 try simp only [sp]
 refine rd [16] (rc fun K hK => ?_)
 go_simp
 have HLP : Hid (Sq.zfo (some M) m1 _ _ _ way 1 l t) := L_ (by rw [HWAY.out]; exact Sq.z5f hta.out D6.out); have AL2 : Hid (∀ M', m1 = some M' → ((p1, p2) : Tk) = (l).top ∧ ((v1, v2) : Tk) = (t).top) := L_ (fun M' e => ⟨HP.out, (D6.out.2.2 M' e).1⟩); go_at_call 51; (refine zzl way l t p1 p2 v1 v2 _ HLP AL2 HWL hx H6 ?_); intro m7 w7 D7 H7 I7; have S7 := zk3 M0.out H7
 refine hK.out _ _ (by exact S7) fun hHeld => ?_
 clear hK K
 try simp only [sp]
 refine wpAnyH_done (by kernel_rfl) ?_ _
 have JE := ((Jd.trans I5).trans I6).trans I7
 clear S0 hHeld
 obtain ⟨⟨y0, y1⟩, -⟩ := zeg H7
 have FIN := L_ (HH.out m7 w7 D7 (sp_end H7) JE)
 go_wp2_with fail
 first | exact FIN.out | exact bodyPost_ret (v := .int .i64 (zk1 m7)) (by simp [results, Tryz.results15, go_sem]) rfl FIN.out
end
end Go.Proofs.YtfknjmoekbabcaaGreatDoor
namespace Go.Proofs.YtfknjmoekbabcaaGreatDoor
open Go.RowKit Go.Lib
open Sq (Tk Nd Mp LL)
def SqL (x : Sx) (L : LL) : Asn := ex fun M : {M : Mp // Sq.Ls M L} => zas x (some M.1)
def SqO (x : Sx) : Option LL → Asn
 | some L => SqL x L
 | none => zas x none
def oErr (o : Option LL) (e : Int) : Int := match o with
 | some _ => e
 | none => 2
section
variable {x : Sx} {L : LL} {F : Asn} {w : World} {R : Ending → World → Prop}
theorem zbq : Sat (SqL x L * F) w ↔ ∃ M, Sq.Ls M L ∧ Sat (zas x (some M) * F) w := by
 have e0 : SqL x L * F = (ex fun M : {M : Mp // Sq.Ls M L} => zas x (some M.1)) * F := rfl
 rw [e0, zeh]
 constructor
 ·rintro ⟨⟨M, h⟩, k⟩; exact ⟨M, h, k⟩
 ·rintro ⟨M, h, k⟩; exact ⟨⟨M, h⟩, k⟩
theorem zzg {m : Option Mp} {o : LL} (hm : ∀ M, m = some M → Sq.Ls M o) (H : Sat (zas x m * F) w) : Sat (SqO x (m.map fun _ => o) * F) w := by
 cases m with
 | none => exact H
 | some M => exact zbq.2 ⟨M, hm M rfl, H⟩
theorem zuy (m : Option Mp) (o : LL) (e : Int) : oErr (m.map fun _ => o) e = Sq.orErr m e := by cases m <;> rfl
theorem zow {o : Option LL} {L' : LL} (ho : o = some L' ∨ o = none) (room : ¬ x.full) (H : Sat (SqO x o * F) w) : o = some L' := by
 rcases ho with h | h
 ·exact h
 ·subst h
  exact absurd (zif.1 H).1 room
theorem omap {m : Option Mp} {o : LL} : (m.map fun _ => o) = some o ∨ (m.map fun _ => o) = none := by cases m <;> simp
theorem xbn (a b : Int) (hx : Hid x.Ok) (H : Sat (SqL x L * F) w)
  (h : ∀ o w', Hid (o = some (Sq.zh1 L (a, b)).2 ∨ o = none) → Sat (SqO (x.grow 40) o * F) w' → Io w w' → R (.returned (.int .i64 (oErr o (Sq.zh1 L (a, b)).1))) w') :
  Calls Tryz.prog 13 #[.pointer (some ⟨x.s, 0, none⟩), tkA a b] w R := by
 have HS := zbq.1 H
 clear H
 obtain ⟨M, hl, H⟩ := HS
 refine zxf a b hx H fun e m' w' he H' I => ?_
 have HE : (∀ M', m' = some M' → Sq.Ls M' (Sq.zh1 L (a, b)).2) ∧ e = Sq.orErr m' (Sq.zh1 L (a, b)).1 := by
  unfold Sq.zh1
  rcases he.out with ⟨h1, h2, h3⟩ | ⟨h1, h2, h3, h4⟩ | ⟨h1, h2, h3, h4⟩
  ·subst h3
   rw [if_pos h2]
   exact ⟨fun M' e => by cases e; exact hl, h1⟩
  ·subst h4
   rw [if_neg (not_not_intro h2), if_pos (hl.there.2 h3)]
   exact ⟨fun M' e => by cases e; exact hl, h1⟩
  ·rw [if_neg (not_not_intro h1), if_neg (fun h => (hl.there.1 h) h2)]
   refine ⟨fun M' e => hl.make h1 h2 (h4 M' e).1 (h4 M' e).2, ?_⟩
   rw [h3]
   cases m' <;> rfl
 rw [HE.2, ← zuy m' (Sq.zh1 L (a, b)).2]
 exact h _ w' (L_ omap) (zzg HE.1 H') I
theorem xbo (a1 b1 a2 b2 : Int) (hc : Hid (L.flatten.length ≤ 250)) (hx : Hid x.Ok) (H : Sat (SqL x L * F) w)
  (h : ∀ o w', Hid (o = some (Sq.zfh L (a1, b1) (a2, b2)).2 ∨ o = none) → Sat (SqO x o * F) w' → Io w w' → R (.returned (.int .i64 (oErr o (Sq.zfh L (a1, b1) (a2, b2)).1))) w') :
  Calls Tryz.prog 14 #[.pointer (some ⟨x.s, 0, none⟩), tkA a1 b1, tkA a2 b2] w R := by
 have HS := zbq.1 H
 clear H
 obtain ⟨M, hl, H⟩ := HS
 obtain ⟨ts, f, rfl⟩ := id hl
 have hc' : (Sq.flat ts).length ≤ 250 := hc.out
 have tf := L_ (f.tf hc')
 by_cases h0 : (Sq.two (ts.map Sq.T.toks) (a1, b1) (a2, b2)).2 = 0
 ·have hb : Sq.zee M (a1, b1) (a2, b2) = 0 := (hl.beg2 _ _).trans h0
  obtain ⟨⟨_, h1⟩, _, h2⟩ := Sq.two0.1 h0
  by_cases hs : (Sq.zd5 ts (a1, b1)).top = (Sq.zd5 ts (a2, b2)).top
  ·have e : Sq.zfh (ts.map Sq.T.toks) (a1, b1) (a2, b2) = (1, ts.map Sq.T.toks) := by
    unfold Sq.zfh
    rw [if_neg (not_not_intro h0), if_pos ((Sq.Ls.zr6 f h0).1 hs)]
   refine zwg (Sq.zd5 ts) a1 b1 a2 b2 (e := 1) (L_ (.inr ⟨hb, rfl, hs⟩)) tf hx H fun w' H' I => ?_
   exact h (some (ts.map Sq.T.toks)) w' (L_ (by rw [e]; exact .inl rfl)) (zbq.2 ⟨M, hl, H'⟩) I |> fun k => by rw [e] at k; exact k
  ·have e : Sq.zfh (ts.map Sq.T.toks) (a1, b1) (a2, b2) = (0, Sq.joined (ts.map Sq.T.toks) (a1, b1) (a2, b2)) := by
    unfold Sq.zfh
    rw [if_neg (not_not_intro h0), if_neg (fun k => hs ((Sq.Ls.zr6 f h0).2 k))]
   have hne : Sq.fi (ts.map Sq.T.toks) (a1, b1) ≠ Sq.fi (ts.map Sq.T.toks) (a2, b2) := fun k => hs ((f.zor (Sq.zar.1 h1) (Sq.zar.1 h2)).2 k)
   have jl := f.z7k (Sq.zar.1 h1) (Sq.zar.1 h2) hne
   refine zzo (Sq.zd5 ts) a1 b1 a2 b2 (L_ ⟨hb, hs⟩) (L_ ⟨jl.1, by omega⟩) tf hx H fun m' t w' hd H' I => ?_
   have HE : ∀ M', m' = some M' → Sq.Ls M' (Sq.zfh (ts.map Sq.T.toks) (a1, b1) (a2, b2)).2 := fun M' e' => by
    rw [e]
    obtain ⟨g1, g2, g3⟩ := hd.out
    exact Sq.Ls.join f h0 hs g1 g2 (g3 M' e').1 (g3 M' e').2
   have hr : zk1 m' = oErr (m'.map fun _ => (Sq.zfh (ts.map Sq.T.toks) (a1, b1) (a2, b2)).2) (Sq.zfh (ts.map Sq.T.toks) (a1, b1) (a2, b2)).1 := by
    rw [zuy, e]; cases m' <;> rfl
   rw [hr]
   exact h _ w' (L_ omap) (zzg HE H') I
 ·have e : Sq.zfh (ts.map Sq.T.toks) (a1, b1) (a2, b2) = ((Sq.two (ts.map Sq.T.toks) (a1, b1) (a2, b2)).2, ts.map Sq.T.toks) := by
   unfold Sq.zfh
   rw [if_pos h0]
  refine zwg (Sq.zd5 ts) a1 b1 a2 b2 (e := (Sq.two (ts.map Sq.T.toks) (a1, b1) (a2, b2)).2) (L_ (.inl ⟨h0, (hl.beg2 _ _).symm⟩)) tf hx H fun w' H' I => ?_
  exact h (some (ts.map Sq.T.toks)) w' (L_ (by rw [e]; exact .inl rfl)) (zbq.2 ⟨M, hl, H'⟩) I |> fun k => by rw [e] at k; exact k
theorem z7c (a b : Int) (hc : Hid (L.flatten.length ≤ 250)) (hx : Hid x.Ok) (H : Sat (SqL x L * F) w)
  (h : ∀ o w', Hid (o = some (Sq.zpi L (a, b) 0).2 ∨ o = none) → Sat (SqO x o * F) w' → Io w w' → R (.returned (.int .i64 (oErr o (Sq.zpi L (a, b) 0).1))) w') :
  Calls Tryz.prog 15 #[.pointer (some ⟨x.s, 0, none⟩), tkA a b] w R := by
 have HS := zbq.1 H
 clear H
 obtain ⟨M, hl, H⟩ := HS
 obtain ⟨ts, f, rfl⟩ := id hl
 have hc' : (Sq.flat ts).length ≤ 250 := hc.out
 have tf := L_ (f.tf hc')
 have hb := hl.beg (a, b)
 by_cases h0 : Sq.zds (ts.map Sq.T.toks) (a, b) = 0
 ·obtain ⟨hok, hth⟩ := Sq.z98.1 h0
  have ha := Sq.zar.1 hth
  obtain ⟨hi, e1, e2⟩ := f.zhv ha
  by_cases hn : Sq.fj (Sq.rowOf (ts.map Sq.T.toks) (a, b)) (a, b) = 0
  ·have e : Sq.zpi (ts.map Sq.T.toks) (a, b) 0 = (0, ts.map Sq.T.toks) := by
    unfold Sq.zpi
    rw [if_neg (not_not_intro h0), if_pos (.inl (by omega))]
   refine zqw (Sq.zd5 ts) a b (n := 0) (e := 0) (L_ (.inr ⟨hb.trans h0, rfl, by rw [e2, hn]; rfl⟩)) (L_ (.inr rfl)) tf hx H fun w' H' I => ?_
   exact h (some (ts.map Sq.T.toks)) w' (L_ (by rw [e]; exact .inl rfl)) (zbq.2 ⟨M, hl, H'⟩) I |> fun k => by rw [e] at k; exact k
  ·obtain ⟨l, r, z, hz⟩ := f.place ha
   have hlt := Sq.fj_lt (Sq.row_mem hth)
   have e : Sq.zpi (ts.map Sq.T.toks) (a, b) 0 = (0, Sq.cut (ts.map Sq.T.toks) (a, b) (Sq.fj (Sq.rowOf (ts.map Sq.T.toks) (a, b)) (a, b))) := by
    unfold Sq.zpi
    rw [if_neg (not_not_intro h0), if_neg (by omega)]
    rfl
   refine zxc (Sq.zd5 ts) a b (l := l) (r := r) (z := z) (L_ hz) (L_ (f.treeAt hc' ha hz)) (L_ (hb.trans h0)) (L_ (by rw [e2]; exact hn)) tf hx H fun m' w' hp H' I => ?_
   have HE : ∀ M', m' = some M' → Sq.Ls M' (Sq.zpi (ts.map Sq.T.toks) (a, b) 0).2 := fun M' e' => by
    rw [e]
    obtain ⟨A, B, g1, g2, g3, g4, g5, g6, M0, g7, g8⟩ := hp.out M' e'
    cases g7
    exact Sq.Ls.cut0 f ha hz hn g1 g2 g3 g4 g5 g6 g8
   have hr : zk1 m' = oErr (m'.map fun _ => (Sq.zpi (ts.map Sq.T.toks) (a, b) 0).2) (Sq.zpi (ts.map Sq.T.toks) (a, b) 0).1 := by
    rw [zuy, e]; cases m' <;> rfl
   rw [hr]
   exact h _ w' (L_ omap) (zzg HE H') I
 ·have e : Sq.zpi (ts.map Sq.T.toks) (a, b) 0 = (Sq.zds (ts.map Sq.T.toks) (a, b), ts.map Sq.T.toks) := by
   unfold Sq.zpi
   rw [if_pos h0]
  refine zqw (Sq.zd5 ts) a b (n := 0) (e := Sq.zds (ts.map Sq.T.toks) (a, b)) (L_ (.inl ⟨hb.symm, h0, rfl⟩)) (L_ (.inl h0)) tf hx H fun w' H' I => ?_
  exact h (some (ts.map Sq.T.toks)) w' (L_ (by rw [e]; exact .inl rfl)) (zbq.2 ⟨M, hl, H'⟩) I |> fun k => by rw [e] at k; exact k
theorem z04 (a b : Int) (hx : Hid x.Ok) (room : Hid (¬ x.full)) (H : Sat (SqL x L * F) w)
  (h : ∀ w', Sat (SqL x (Sq.zh0 L (a, b)).2 * F) w' → Io w w' → R (.returned (.int .i64 (Sq.zh0 L (a, b)).1)) w') :
  Calls Tryz.prog 25 #[.pointer (some ⟨x.s, 0, none⟩), tkA a b] w R := by
 have HS := zbq.1 H
 clear H
 obtain ⟨M, hl, H⟩ := HS
 obtain ⟨ts, f, rfl⟩ := id hl
 refine zzf a b hx (L_ (Int.not_le.1 room.out)) H fun e M' w' he H' I => ?_
 have hb := hl.beg (a, b)
 have HE : e = (Sq.zh0 (ts.map Sq.T.toks) (a, b)).1 ∧ Sq.Ls M' (Sq.zh0 (ts.map Sq.T.toks) (a, b)).2 := by
  unfold Sq.zh0
  rcases he.out with ⟨h1, h2, h3⟩ | ⟨h1, n, h2, h3⟩
  ·rw [hb] at h1
   rw [if_pos (by rw [← h1]; exact h2)]
   exact ⟨h1, h3 ▸ hl⟩
  ·have hth : Sq.there (ts.map Sq.T.toks) (a, b) := hl.there.2 (by rw [h2]; simp)
   have h0 := Sq.z98.2 ⟨h1, hth⟩
   have al := f.alone (Sq.zar.1 hth) h2
   rw [if_neg (not_not_intro h0)]
   rcases h3 with ⟨g1, g2, g3⟩ | ⟨g1, g2, g3, g4⟩
   ·rw [if_pos (fun k => g2 (al.2 k))]
    exact ⟨g1, g3 ▸ hl⟩
   ·rw [if_neg (not_not_intro (al.1 ⟨g2, g3⟩))]
    exact ⟨g1, g4 ▸ Sq.Ls.remove f (Sq.zar.1 hth) (al.1 ⟨g2, g3⟩)⟩
 rw [HE.1]
 exact h w' (zbq.2 ⟨M', HE.2, H'⟩) I
end
namespace Sq
def lst (L : LL) (k : Tk) : List Tk := if zds L k = 0 then rowOf L k else []
theorem z94 {L : LL} {k : Tk} (h : zds L k ≠ 0) : lst L k = [] := if_neg h
theorem zpk {L : LL} {k : Tk} (h : zds L k = 0) : lst L k = rowOf L k := if_pos h
theorem z9p {M : Mp} {ts : List T} (f : For M ts) {k r : Tk} {n : Nd} {e : Int} (h : TopR M (zd5 ts) k r n e) :
  e = zds (ts.map T.toks) k ∧ n.count = (lst (ts.map T.toks) k).length ∧ (e ≠ 0 → r = (0, 0) ∧ n.height = 0) ∧ (e = 0 → r ∈ rowOf (ts.map T.toks) k ∧ ∃ q : Nat, n.height = q ∧ 1 ≤ q ∧ q ≤ (rowOf (ts.map T.toks) k).length ∧ least q ≤ (rowOf (ts.map T.toks) k).length) := by
 have hl : Ls M (ts.map T.toks) := ⟨ts, f, rfl⟩
 rcases h with ⟨h1, h2, h3, h4⟩ | ⟨h1, h2, h3, h4, h5, h6⟩
 ·rw [hl.beg] at h1
  subst h4
  refine ⟨h1, ?_, fun _ => ⟨h3, rfl⟩, fun h => absurd h h2⟩
  rw [z94 (h1 ▸ h2)]
  rfl
 ·rw [hl.beg] at h1
  have ha : k ∈ flat ts := f.here.1 h3
  obtain ⟨hi, e1, e2⟩ := f.zhv ha
  have hne : zd5 ts k ≠ .nil := by rw [e1]; exact f.ne _ (List.getElem_mem hi)
  have hb : (zd5 ts k).Bal := by rw [e1]; exact f.bal _ (List.getElem_mem hi)
  subst h6
  refine ⟨h2.trans h1.symm, ?_, fun h => absurd h2 h, fun _ => ⟨by rw [← e2, h5]; exact T.ze1 hne, (zd5 ts k).ht, T.nd_ht _ _, ?_, ?_, ?_⟩⟩
  ·rw [zpk h1, T.z90, ← e2, T.zbl]
  ·revert hne
   cases zd5 ts k with
   | nil => intro h; exact absurd rfl h
   | node l x r => intro _; simp [T.ht]
  ·rw [← e2, T.zbl]
   exact T.zdw _
  ·rw [← e2, T.zbl]
   exact zlo _ hb
end Sq
section
variable {x : Sx} {L : LL} {F : Asn} {w : World} {R : Ending → World → Prop}
theorem xbl (a b : Int) (hc : Hid (L.flatten.length ≤ 250)) (hx : Hid x.Ok) (H : Sat (SqL x L * F) w)
  (h : ∀ v w', Sat (zaw v (Sq.lst L (a, b)) * (SqL x L * F)) w' → Io w w' → R (.returned (.tuple #[v, .int .i64 (Sq.zds L (a, b))])) w') :
  Calls Tryz.prog 17 #[.pointer (some ⟨x.s, 0, none⟩), tkA a b] w R := by
 have HS := zbq.1 H
 clear H
 obtain ⟨M, hl, H⟩ := HS
 obtain ⟨ts, f, rfl⟩ := id hl
 have hc' : (Sq.flat ts).length ≤ 250 := hc.out
 refine zzm (Sq.zd5 ts) a b (L_ (f.tf hc')) hx H fun v l e w' he H' I => ?_
 have HE : e = Sq.zds (ts.map Sq.T.toks) (a, b) ∧ l = Sq.lst (ts.map Sq.T.toks) (a, b) := by
  rcases he.out with ⟨h1, h2, h3⟩ | ⟨h1, h2, h3⟩
  ·rw [hl.beg] at h1
   exact ⟨h1, by rw [Sq.z94 (h1 ▸ h2), h3]⟩
  ·rw [hl.beg] at h1
   obtain ⟨_, _, e2⟩ := f.zhv (Sq.zar.1 (Sq.z98.1 h1).2)
   exact ⟨h2.trans h1.symm, by rw [Sq.zpk h1, h3, e2]⟩
 rw [HE.1]
 refine h v w' ?_ I
 rw [← HE.2]
 have K : Sat (zas x (some M) * (zaw v l * F)) w' := H'.of_eq (by unfold zaw; ac_rfl)
 have K2 : Sat (SqL x (ts.map Sq.T.toks) * (zaw v l * F)) w' := zbq.2 ⟨M, hl, K⟩
 exact K2.of_eq (by unfold zaw; ac_rfl)
theorem z6z (a b : Int) (hc : Hid (L.flatten.length ≤ 250)) (hx : Hid x.Ok) (H : Sat (SqL x L * F) w)
  (h : ∀ w', Sat (SqL x L * F) w' → Io w w' → R (.returned (.tuple #[.int .i64 ((Sq.lst L (a, b)).length : Nat), .int .i64 (Sq.zds L (a, b))])) w') :
  Calls Tryz.prog 38 #[.pointer (some ⟨x.s, 0, none⟩), tkA a b] w R := by
 have HS := zbq.1 H
 clear H
 obtain ⟨M, hl, H⟩ := HS
 obtain ⟨ts, f, rfl⟩ := id hl
 have hc' : (Sq.flat ts).length ≤ 250 := hc.out
 refine zxj (Sq.zd5 ts) a b (L_ (f.tf hc')) hx H fun r1 r2 v1 v2 v3 v4 v5 v6 v7 v8 e w' he H' I => ?_
 obtain ⟨h1, h2, _⟩ := Sq.z9p f he.out
 have h2 : v7 = _ := h2
 rw [h1, h2]
 exact h w' (zbq.2 ⟨M, hl, H'⟩) I
theorem z01 (a b : Int) (hc : Hid (L.flatten.length ≤ 250)) (hx : Hid x.Ok) (H : Sat (SqL x L * F) w)
  (h : ∀ q w', Hid ((Sq.zds L (a, b) ≠ 0 → q = 0) ∧ (Sq.zds L (a, b) = 0 → 1 ≤ q ∧ q ≤ (Sq.rowOf L (a, b)).length ∧ Sq.least q ≤ (Sq.rowOf L (a, b)).length)) → Sat (SqL x L * F) w' → Io w w' → R (.returned (.tuple #[.int .i64 (q : Nat), .int .i64 (Sq.zds L (a, b))])) w') :
  Calls Tryz.prog 18 #[.pointer (some ⟨x.s, 0, none⟩), tkA a b] w R := by
 have HS := zbq.1 H
 clear H
 obtain ⟨M, hl, H⟩ := HS
 obtain ⟨ts, f, rfl⟩ := id hl
 have hc' : (Sq.flat ts).length ≤ 250 := hc.out
 refine zuo (Sq.zd5 ts) a b (L_ (f.tf hc')) hx H fun r1 r2 v1 v2 v3 v4 v5 v6 v7 v8 e w' he H' I => ?_
 obtain ⟨h1, _, h3, h4⟩ := Sq.z9p f he.out
 by_cases h0 : e = 0
 ·obtain ⟨_, q, h5, h6, h7, h8⟩ := h4 h0
  have h5 : v8 = _ := h5
  rw [h5, h1]
  exact h q w' (L_ ⟨fun k => absurd (h1.symm.trans h0) k, fun _ => ⟨h6, h7, h8⟩⟩) (zbq.2 ⟨M, hl, H'⟩) I
 ·have h5 : v8 = _ := (h3 h0).2
  rw [h5, h1]
  exact h 0 w' (L_ ⟨fun _ => rfl, fun k => absurd (h1.trans k) h0⟩) (zbq.2 ⟨M, hl, H'⟩) I
theorem xbk (a b : Int) (hc : Hid (L.flatten.length ≤ 250)) (hx : Hid x.Ok) (H : Sat (SqL x L * F) w)
  (h : ∀ w', Sat (SqL x L * F) w' → Io w w' → R (.returned (.tuple #[.int .i64 (if Sq.zds L (a, b) = 0 then (Sq.fj (Sq.rowOf L (a, b)) (a, b) : Int) else 0), .int .i64 (Sq.zds L (a, b))])) w') :
  Calls Tryz.prog 37 #[.pointer (some ⟨x.s, 0, none⟩), tkA a b] w R := by
 have HS := zbq.1 H
 clear H
 obtain ⟨M, hl, H⟩ := HS
 obtain ⟨ts, f, rfl⟩ := id hl
 have hc' : (Sq.flat ts).length ≤ 250 := hc.out
 have tf := L_ (f.tf hc')
 by_cases h0 : Sq.zds (ts.map Sq.T.toks) (a, b) = 0
 ·obtain ⟨_, _, e2⟩ := f.zhv (Sq.zar.1 (Sq.z98.1 h0).2)
  rw [if_pos h0, h0] at h
  exact zie (Sq.zd5 ts) a b (e := 0) (L_ (.inr ⟨(hl.beg _).trans h0, rfl, by rw [e2]⟩)) tf hx H fun w' H' I => h w' (zbq.2 ⟨M, hl, H'⟩) I
 ·rw [if_neg h0] at h
  exact zie (Sq.zd5 ts) a b (L_ (.inl ⟨(hl.beg _).symm, h0, rfl⟩)) tf hx H fun w' H' I => h w' (zbq.2 ⟨M, hl, H'⟩) I
def atE (L : LL) (k : Tk) (i : Int) : Int := if Sq.zds L k ≠ 0 then Sq.zds L k else if 0 ≤ i ∧ i < ((Sq.rowOf L k).length : Int) then 0 else 1
def atT (L : LL) (k : Tk) (i : Int) : Tk := if atE L k i = 0 then (Sq.rowOf L k)[i.toNat]?.getD (0, 0) else (0, 0)
theorem lq_at (a b i : Int) (hc : Hid (L.flatten.length ≤ 250)) (hx : Hid x.Ok) (H : Sat (SqL x L * F) w)
  (h : ∀ w', Sat (SqL x L * F) w' → Io w w' → R (.returned (.tuple #[tkA (atT L (a, b) i).1 (atT L (a, b) i).2, .int .i64 (atE L (a, b) i)])) w') :
  Calls Tryz.prog 39 #[.pointer (some ⟨x.s, 0, none⟩), tkA a b, .int .i64 i] w R := by
 have HS := zbq.1 H
 clear H
 obtain ⟨M, hl, H⟩ := HS
 obtain ⟨ts, f, rfl⟩ := id hl
 have hc' : (Sq.flat ts).length ≤ 250 := hc.out
 have tf := L_ (f.tf hc')
 by_cases h0 : Sq.zds (ts.map Sq.T.toks) (a, b) = 0
 ·obtain ⟨_, _, e2⟩ := f.zhv (Sq.zar.1 (Sq.z98.1 h0).2)
  by_cases h1 : 0 ≤ i ∧ i < ((Sq.rowOf (ts.map Sq.T.toks) (a, b)).length : Int)
  ·have e : atE (ts.map Sq.T.toks) (a, b) i = 0 := by unfold atE; rw [if_neg (not_not_intro h0), if_pos h1]
   have hlt : i.toNat < (Sq.rowOf (ts.map Sq.T.toks) (a, b)).length := by omega
   obtain ⟨c1, c2, hcc⟩ : ∃ c1 c2, (Sq.rowOf (ts.map Sq.T.toks) (a, b))[i.toNat] = (c1, c2) := ⟨_, _, rfl⟩
   have et : atT (ts.map Sq.T.toks) (a, b) i = (c1, c2) := by unfold atT; rw [if_pos e, List.getElem?_eq_getElem hlt, hcc]; rfl
   rw [e, et] at h
   exact xay (Sq.zd5 ts) a b i c1 c2 (L_ ⟨(hl.beg _).trans h0, i.toNat, by omega, by rw [e2, List.getElem?_eq_getElem hlt, hcc]⟩) tf hx H fun w' H' I => h w' (zbq.2 ⟨M, hl, H'⟩) I
  ·have e : atE (ts.map Sq.T.toks) (a, b) i = 1 := by unfold atE; rw [if_neg (not_not_intro h0), if_neg h1]
   have et : atT (ts.map Sq.T.toks) (a, b) i = (0, 0) := by unfold atT; rw [if_neg (by rw [e]; decide)]
   rw [e, et] at h
   exact z9r (Sq.zd5 ts) a b i (e := 1) (L_ (.inr ⟨(hl.beg _).trans h0, rfl, by rw [← Sq.T.zbl, e2]; omega⟩)) tf hx H fun w' H' I => h w' (zbq.2 ⟨M, hl, H'⟩) I
 ·have e : atE (ts.map Sq.T.toks) (a, b) i = Sq.zds (ts.map Sq.T.toks) (a, b) := by unfold atE; rw [if_pos h0]
  have et : atT (ts.map Sq.T.toks) (a, b) i = (0, 0) := by unfold atT; rw [if_neg (by rw [e]; exact h0)]
  rw [e, et] at h
  exact z9r (Sq.zd5 ts) a b i (L_ (.inl ⟨(hl.beg _).symm, h0⟩)) tf hx H fun w' H' I => h w' (zbq.2 ⟨M, hl, H'⟩) I
end
end Go.Proofs.YtfknjmoekbabcaaGreatDoor
