/-
  A part of a proof. It proves no statement by itself.
-/
import Derived.Test.YtfknjmoekbabcaaGreatDoorA37
set_option linter.unusedSimpArgs false
set_option linter.unusedVariables false
set_option linter.unusedSectionVars false
set_option maxRecDepth 100000
set_option maxHeartbeats 64000000
namespace Go.Proofs.YtfknjmoekbabcaaGreatDoor
open Go.RowKit Go.Lib
open Sq (Tk Nd Mp zcb InT Fr)
abbrev ztg (n : Nat) : Prop := ∀ {x : Sx} {F : Asn} {w : World} {R : Ending → World → Prop} {m0 m : Option Mp} {all : List Tk} {ts : List Sq.T} {ks : List Tk} (l r : Sq.T) (l1 l2 k1 k2 r1 r2 : Int) (hn : Hid (l.ht + r.ht ≤ n)) (al : Hid (∀ M, m = some M → (l1, l2) = l.top ∧ (r1, r2) = r.top)) (fr : Hid (Fr m0 m all (l :: r :: ts) ((k1, k2) :: ks))) (bal : Hid (l.Bal ∧ r.Bal)) (hx : Hid x.Ok) (H : Sat (zas x m * F) w)
  (h : ∀ m' v1 v2 t w', Hid (Sq.Done m0 m' all ts ks l r t (k1, k2) (v1, v2)) → Sat (zas x m' * F) w' → Io w w' → R (.returned (tkA v1 v2)) w'),
  Calls Tryz.prog 52 #[.pointer (some ⟨x.s, 0, none⟩), tkA l1 l2, tkA k1 k2, tkA r1 r2] w R
theorem z05 {m0 m1 m2 : Option Mp} {all : List Tk} {ts : List Sq.T} {ks : List Tk} {a b r t1 t : Sq.T} {xx k v1 v : Tk} (bl : (Sq.T.node a xx b).Bal) (h : r.ht + 1 < (Sq.T.node a xx b).ht) (d1 : Sq.Done m0 m1 all (a :: ts) (xx :: ks) b r t1 k v1) (d2 : Sq.Done m0 m2 all ts ks a t1 t xx v) : Sq.Done m0 m2 all ts ks (.node a xx b) r t k v :=
 ⟨Sq.Lk.zqv bl h d1.1 d2.1, d2.2.1, d2.2.2⟩
theorem zx2 {m0 m1 m2 : Option Mp} {all : List Tk} {ts : List Sq.T} {ks : List Tk} {l a b t1 t : Sq.T} {xx k v1 v : Tk} (br : (Sq.T.node a xx b).Bal) (h : l.ht + 1 < (Sq.T.node a xx b).ht) (d1 : Sq.Done m0 m1 all (b :: ts) (xx :: ks) l a t1 k v1) (d2 : Sq.Done m0 m2 all ts ks t1 b t xx v) : Sq.Done m0 m2 all ts ks l (.node a xx b) t k v :=
 ⟨Sq.Lk.znp br h d1.1 d2.1, d2.2.1, d2.2.2⟩
section
variable {x : Sx} {M : Mp} {F : Asn} {w : World} {R : Ending → World → Prop} {m0 : Option Mp} {all : List Tk} {ts : List Sq.T} {ks : List Tk}
theorem zxg (n : Nat) (ih : ∀ n', n' < n → ztg n') : ztg n := by
 intro x F w R m0 m all ts ks l r l1 l2 k1 k2 r1 r2 hn al fr bal hx H h
 have HH := L_ h
 have IH := L_ ih
 have AL : Hid (Sq.zki m l (l1, l2)) := L_ fun M hM => (fr.out.arg (by simp) (al.out M hM).1) M hM
 have AR : Hid (Sq.zki m r (r1, r2)) := L_ fun M hM => (fr.out.arg (by simp) (al.out M hM).2) M hM
 clear ih
 have H1 := zzs ((((H.new (.cells #[.int .i64 l1, .int .i64 l2] 29)).new (.cells #[.int .i64 k1, .int .i64 k2] 29)).new (.cells #[.int .i64 r1, .int .i64 r2] 29)).new (.cells #[.int .i64 0, .int .i64 0] 29))
 have I1 := io4 H1 (Io.refl w)
 simp only [World.size_alloc, Nat.add_assoc, Nat.reduceAdd] at H1
 clear h H
 go_enter Tryz.func52, Tryz.ntmps52
 go_upto_region 1 with fail
 generalize (((w.alloc _).alloc _).alloc _).alloc _ = w1 at *
 generalize w.heap.size = bx at *
 go_cut [9, 10] from 11 to 16 (fun p q wc => ∃ b9 b10 a1 a2 a3 a4 a5 a6 a7 a8 c1 c2 c3 c4 c5 c6 c7 c8, p = .pointer (some ⟨b9, 0, none⟩) ∧ q = .pointer (some ⟨b10, 0, none⟩) ∧ Hid (Sq.z4r m l ⟨(a1, a2), (a3, a4), (a5, a6), a7, a8⟩) ∧ Hid (Sq.z4r m r ⟨(c1, c2), (c3, c4), (c5, c6), c7, c8⟩) ∧ Sat (pts b9 (.cells #[.int .i64 a1, .int .i64 a2, .int .i64 a3, .int .i64 a4, .int .i64 a5, .int .i64 a6, .int .i64 a7, .int .i64 a8] 85 (0, 0)) * (pts b10 (.cells #[.int .i64 c1, .int .i64 c2, .int .i64 c3, .int .i64 c4, .int .i64 c5, .int .i64 c6, .int .i64 c7, .int .i64 c8] 85 (0, 0)) * (zas x m * (pts (bx + 3) (.cells #[.int .i64 0, .int .i64 0] 29 (0, 0)) * (pts (bx + 2) (.cells #[.int .i64 r1, .int .i64 r2] 29 (0, 0)) * (pts (bx + 1) (.cells #[.int .i64 k1, .int .i64 k2] 29 (0, 0)) * (pts bx (.cells #[.int .i64 l1, .int .i64 l2] 29 (0, 0)) * F))))))) wc ∧ Io w wc)
 case first =>
  have Kd := H1.drew
  have Jd := I1.drew
  clear H1 I1
  refine rh Kd (fun W Kd => zaa Kd) fun hHeld => ?_
  refine tk ?_ ?_ [0, 1, 3, 4] ?_ hHeld ?_; rotate_left 2; exact tt
  generalize w1.drew = wd at *
  refine rd [2, 6, 7] (rn (fun K hK => ?_) ?_)
  ·go_simp
   go_at_call 58; (with_reducible refine zav l l1 l2 AL hx Kd ?_); intro a1 a2 a3 a4 a5 a6 a7 a8 wpc hA Xpc IXpc
   have Hpc := Xpc
   have Jpc := (Jd).trans IXpc
   refine hK.out _ _ (by exact zaa Hpc) fun hHeld => ?_
   clear hK K
   try simp only [sp]
   refine rd [5, 6, 7] (rn (fun K hK => ?_) ?_)
   ·go_simp
    go_at_call 58; (with_reducible refine zav r r1 r2 AR hx Hpc ?_); intro c1 c2 c3 c4 c5 c6 c7 c8 zv6 hB Xpcc z4g
    have z4j := Xpcc
    have xab := (Jpc).trans z4g
    refine hK.out _ _ (by exact zaa z4j) fun hHeld => ?_
    clear hK K
    try simp only [sp]
    refine rd [6, 7] (rn (fun K hK => ?_) ?_)
    ·go_simp
     have zna := z4j.new (.cells #[.int .i64 0, .int .i64 0, .int .i64 0, .int .i64 0, .int .i64 0, .int .i64 0, .int .i64 0, .int .i64 0] 85)
     have z3u := io1 zna xab
     refine hK.out _ _ (by exact zaa (zna.right)) fun hHeld => ?_
     clear hK K
     try simp only [sp]
     generalize World.alloc zv6 (.cells #[.int .i64 0, .int .i64 0, .int .i64 0, .int .i64 0, .int .i64 0, .int .i64 0, .int .i64 0, .int .i64 0] 85) = zqi at *
     generalize zv6.heap.size = zs3 at *
     refine rd [7] (rc fun K hK => ?_)
     go_simp
     have zgv := zna.new (.cells #[.int .i64 0, .int .i64 0, .int .i64 0, .int .i64 0, .int .i64 0, .int .i64 0, .int .i64 0, .int .i64 0] 85)
     have zti := io1 zgv z3u
     refine hK.out _ _ (by exact zaa (zgv.right.right)) fun hHeld => ?_
     clear hK K
     try simp only [sp]
     generalize World.alloc zqi (.cells #[.int .i64 0, .int .i64 0, .int .i64 0, .int .i64 0, .int .i64 0, .int .i64 0, .int .i64 0, .int .i64 0] 85) = z9a at *
     generalize zqi.heap.size = zl7 at *
     have zg1 := (zaj zgv)
     have FA := zby zg1
     obtain ⟨f0, f1, f2, f3, f4, f5, f6, f7⟩ := FA
     have QA := nd8 zg1
     obtain ⟨q0, q1, q2, q3, q4, q5, q6, q7⟩ := QA
     have zeq := zay (.int .i64 a1) (.int .i64 a2) (.int .i64 a3) (.int .i64 a4) (.int .i64 a5) (.int .i64 a6) (.int .i64 a7) (.int .i64 a8) zg1
     have FB := zby zeq.right
     obtain ⟨g0, g1, g2, g3, g4, g5, g6, g7⟩ := FB
     have QB := nd8 zeq.right
     obtain ⟨r0, r1', r2', r3, r4, r5, r6, r7⟩ := QB
     have zj4 := zaj (zay (.int .i64 c1) (.int .i64 c2) (.int .i64 c3) (.int .i64 c4) (.int .i64 c5) (.int .i64 c6) (.int .i64 c7) (.int .i64 c8) (zaj zeq))
     have zms := zac (b := zs3) (.int .i64 a1) (.int .i64 a2) (.int .i64 a3) (.int .i64 a4) (.int .i64 a5) (.int .i64 a6) (.int .i64 a7) (.int .i64 a8) (zti)
     have zmg := zac (b := zl7) (.int .i64 c1) (.int .i64 c2) (.int .i64 c3) (.int .i64 c4) (.int .i64 c5) (.int .i64 c6) (.int .i64 c7) (.int .i64 c8) zms
     refine rd [8] (rc fun K hK => ?_)
     go_simp
     refine hK.out _ _ (by exact zaa (zeq.right.right)) fun hHeld => ?_
     clear hK K
     try simp only [sp]
     refine rd [9] (rc fun K hK => ?_)
     go_simp
     refine hK.out _ _ (by exact zaa (zj4.right.right)) fun hHeld => ?_
     clear hK K
     try simp only [sp]
     refine wpAnyH_done (by kernel_rfl) ?_ _
     go_wp2_with fail
     go_meet
     exact ⟨_, _, a1, a2, a3, a4, a5, a6, a7, a8, c1, c2, c3, c4, c5, c6, c7, c8, rfl, rfl, hA, hB, zj4, zmg⟩
    refine rc fun K hK => ?_
    go_simp
    have zm9 := z4j.new (.cells #[.int .i64 0, .int .i64 0, .int .i64 0, .int .i64 0, .int .i64 0, .int .i64 0, .int .i64 0, .int .i64 0] 85)
    have z3t := io1 zm9 xab
    refine hK.out _ _ (by exact zaa (zm9.right)) fun hHeld => ?_
    clear hK K
    try simp only [sp]
    generalize World.alloc zv6 (.cells #[.int .i64 0, .int .i64 0, .int .i64 0, .int .i64 0, .int .i64 0, .int .i64 0, .int .i64 0, .int .i64 0] 85) = zqh at *
    generalize zv6.heap.size = zsw at *
    refine rd [6] (rc fun K hK => ?_)
    go_simp
    have zgu := zm9.new (.cells #[.int .i64 0, .int .i64 0, .int .i64 0, .int .i64 0, .int .i64 0, .int .i64 0, .int .i64 0, .int .i64 0] 85)
    have zth := io1 zgu z3t
    refine hK.out _ _ (by exact zaa (zgu.right.right)) fun hHeld => ?_
    clear hK K
    try simp only [sp]
    generalize World.alloc zqh (.cells #[.int .i64 0, .int .i64 0, .int .i64 0, .int .i64 0, .int .i64 0, .int .i64 0, .int .i64 0, .int .i64 0] 85) = z88 at *
    generalize zqh.heap.size = zma at *
    have zg0 := zgu
    have FA := zby zg0
    obtain ⟨f0, f1, f2, f3, f4, f5, f6, f7⟩ := FA
    have QA := nd8 zg0
    obtain ⟨q0, q1, q2, q3, q4, q5, q6, q7⟩ := QA
    have zep := zay (.int .i64 a1) (.int .i64 a2) (.int .i64 a3) (.int .i64 a4) (.int .i64 a5) (.int .i64 a6) (.int .i64 a7) (.int .i64 a8) zg0
    have FB := zby zep.right
    obtain ⟨g0, g1, g2, g3, g4, g5, g6, g7⟩ := FB
    have QB := nd8 zep.right
    obtain ⟨r0, r1', r2', r3, r4, r5, r6, r7⟩ := QB
    have zj3 := zaj (zay (.int .i64 c1) (.int .i64 c2) (.int .i64 c3) (.int .i64 c4) (.int .i64 c5) (.int .i64 c6) (.int .i64 c7) (.int .i64 c8) (zaj zep))
    have zmr := zac (b := zma) (.int .i64 a1) (.int .i64 a2) (.int .i64 a3) (.int .i64 a4) (.int .i64 a5) (.int .i64 a6) (.int .i64 a7) (.int .i64 a8) (zth)
    have zmf := zac (b := zsw) (.int .i64 c1) (.int .i64 c2) (.int .i64 c3) (.int .i64 c4) (.int .i64 c5) (.int .i64 c6) (.int .i64 c7) (.int .i64 c8) zmr
    refine rd [8] (rc fun K hK => ?_)
    go_simp
    refine hK.out _ _ (by exact zaa (zep.right.right)) fun hHeld => ?_
    clear hK K
    try simp only [sp]
    refine rd [9] (rc fun K hK => ?_)
    go_simp
    refine hK.out _ _ (by exact zaa (zj3.right.right)) fun hHeld => ?_
    clear hK K
    try simp only [sp]
    refine wpAnyH_done (by kernel_rfl) ?_ _
    go_wp2_with fail
    go_meet
    exact ⟨_, _, a1, a2, a3, a4, a5, a6, a7, a8, c1, c2, c3, c4, c5, c6, c7, c8, rfl, rfl, hA, hB, zj3, zmf⟩
   refine rn (fun K hK => ?_) ?_
   ·go_simp
    have zw9 := Hpc.new (.cells #[.int .i64 0, .int .i64 0, .int .i64 0, .int .i64 0, .int .i64 0, .int .i64 0, .int .i64 0, .int .i64 0] 85)
    have xad := io1 zw9 Jpc
    refine hK.out _ _ (by exact zaa (zw9.right)) fun hHeld => ?_
    clear hK K
    try simp only [sp]
    generalize World.alloc wpc (.cells #[.int .i64 0, .int .i64 0, .int .i64 0, .int .i64 0, .int .i64 0, .int .i64 0, .int .i64 0, .int .i64 0] 85) = z9g at *
    generalize wpc.heap.size = zs5 at *
    refine rd [5, 7] (rn (fun K hK => ?_) ?_)
    ·go_simp
     go_at_call 58; (with_reducible refine zav r r1 r2 AR hx (zaj zw9) ?_); intro c1 c2 c3 c4 c5 c6 c7 c8 zqk hB z3o ztu
     have zt0 := (zaj z3o)
     have z3x := (xad).trans ztu
     refine hK.out _ _ (by exact zaa (zt0.right)) fun hHeld => ?_
     clear hK K
     try simp only [sp]
     refine rd [7] (rc fun K hK => ?_)
     go_simp
     have zgx := zt0.new (.cells #[.int .i64 0, .int .i64 0, .int .i64 0, .int .i64 0, .int .i64 0, .int .i64 0, .int .i64 0, .int .i64 0] 85)
     have ztl := io1 zgx z3x
     refine hK.out _ _ (by exact zaa (zgx.right.right)) fun hHeld => ?_
     clear hK K
     try simp only [sp]
     generalize World.alloc zqk (.cells #[.int .i64 0, .int .i64 0, .int .i64 0, .int .i64 0, .int .i64 0, .int .i64 0, .int .i64 0, .int .i64 0] 85) = z9e at *
     generalize zqk.heap.size = zl8 at *
     have zg4 := (zaj zgx)
     have FA := zby zg4
     obtain ⟨f0, f1, f2, f3, f4, f5, f6, f7⟩ := FA
     have QA := nd8 zg4
     obtain ⟨q0, q1, q2, q3, q4, q5, q6, q7⟩ := QA
     have zet := zay (.int .i64 a1) (.int .i64 a2) (.int .i64 a3) (.int .i64 a4) (.int .i64 a5) (.int .i64 a6) (.int .i64 a7) (.int .i64 a8) zg4
     have FB := zby zet.right
     obtain ⟨g0, g1, g2, g3, g4, g5, g6, g7⟩ := FB
     have QB := nd8 zet.right
     obtain ⟨r0, r1', r2', r3, r4, r5, r6, r7⟩ := QB
     have zj7 := zaj (zay (.int .i64 c1) (.int .i64 c2) (.int .i64 c3) (.int .i64 c4) (.int .i64 c5) (.int .i64 c6) (.int .i64 c7) (.int .i64 c8) (zaj zet))
     have zmv := zac (b := zs5) (.int .i64 a1) (.int .i64 a2) (.int .i64 a3) (.int .i64 a4) (.int .i64 a5) (.int .i64 a6) (.int .i64 a7) (.int .i64 a8) (ztl)
     have zmj := zac (b := zl8) (.int .i64 c1) (.int .i64 c2) (.int .i64 c3) (.int .i64 c4) (.int .i64 c5) (.int .i64 c6) (.int .i64 c7) (.int .i64 c8) zmv
     refine rd [8] (rc fun K hK => ?_)
     go_simp
     refine hK.out _ _ (by exact zaa (zet.right.right)) fun hHeld => ?_
     clear hK K
     try simp only [sp]
     refine rd [9] (rc fun K hK => ?_)
     go_simp
     refine hK.out _ _ (by exact zaa (zj7.right.right)) fun hHeld => ?_
     clear hK K
     try simp only [sp]
     refine wpAnyH_done (by kernel_rfl) ?_ _
     go_wp2_with fail
     go_meet
     exact ⟨_, _, a1, a2, a3, a4, a5, a6, a7, a8, c1, c2, c3, c4, c5, c6, c7, c8, rfl, rfl, hA, hB, zj7, zmj⟩
    refine rc fun K hK => ?_
    go_simp
    have znc := zw9.new (.cells #[.int .i64 0, .int .i64 0, .int .i64 0, .int .i64 0, .int .i64 0, .int .i64 0, .int .i64 0, .int .i64 0] 85)
    have z3y := io1 znc xad
    refine hK.out _ _ (by exact zaa (znc.right.right)) fun hHeld => ?_
    clear hK K
    try simp only [sp]
    generalize World.alloc z9g (.cells #[.int .i64 0, .int .i64 0, .int .i64 0, .int .i64 0, .int .i64 0, .int .i64 0, .int .i64 0, .int .i64 0] 85) = wpcab at *
    generalize z9g.heap.size = zsy at *
    refine rd [5] (rc fun K hK => ?_)
    go_simp
    go_at_call 58; (with_reducible refine zav r r1 r2 AR hx (fr2 znc) ?_); intro c1 c2 c3 c4 c5 c6 c7 c8 z9f hB zs9 zm4
    have zjy := (bk2 zs9)
    have ztm := (z3y).trans zm4
    refine hK.out _ _ (by exact zaa (zjy.right.right)) fun hHeld => ?_
    clear hK K
    try simp only [sp]
    have zg5 := (zaj zjy)
    have FA := zby zg5
    obtain ⟨f0, f1, f2, f3, f4, f5, f6, f7⟩ := FA
    have QA := nd8 zg5
    obtain ⟨q0, q1, q2, q3, q4, q5, q6, q7⟩ := QA
    have zeu := zay (.int .i64 a1) (.int .i64 a2) (.int .i64 a3) (.int .i64 a4) (.int .i64 a5) (.int .i64 a6) (.int .i64 a7) (.int .i64 a8) zg5
    have FB := zby zeu.right
    obtain ⟨g0, g1, g2, g3, g4, g5, g6, g7⟩ := FB
    have QB := nd8 zeu.right
    obtain ⟨r0, r1', r2', r3, r4, r5, r6, r7⟩ := QB
    have zj8 := zaj (zay (.int .i64 c1) (.int .i64 c2) (.int .i64 c3) (.int .i64 c4) (.int .i64 c5) (.int .i64 c6) (.int .i64 c7) (.int .i64 c8) (zaj zeu))
    have zmw := zac (b := zs5) (.int .i64 a1) (.int .i64 a2) (.int .i64 a3) (.int .i64 a4) (.int .i64 a5) (.int .i64 a6) (.int .i64 a7) (.int .i64 a8) (ztm)
    have zmk := zac (b := zsy) (.int .i64 c1) (.int .i64 c2) (.int .i64 c3) (.int .i64 c4) (.int .i64 c5) (.int .i64 c6) (.int .i64 c7) (.int .i64 c8) zmw
    refine rd [8] (rc fun K hK => ?_)
    go_simp
    refine hK.out _ _ (by exact zaa (zeu.right.right)) fun hHeld => ?_
    clear hK K
    try simp only [sp]
    refine rd [9] (rc fun K hK => ?_)
    go_simp
    refine hK.out _ _ (by exact zaa (zj8.right.right)) fun hHeld => ?_
    clear hK K
    try simp only [sp]
    refine wpAnyH_done (by kernel_rfl) ?_ _
    go_wp2_with fail
    go_meet
    exact ⟨_, _, a1, a2, a3, a4, a5, a6, a7, a8, c1, c2, c3, c4, c5, c6, c7, c8, rfl, rfl, hA, hB, zj8, zmk⟩
   refine rc fun K hK => ?_
   go_simp
   have zw8 := Hpc.new (.cells #[.int .i64 0, .int .i64 0, .int .i64 0, .int .i64 0, .int .i64 0, .int .i64 0, .int .i64 0, .int .i64 0] 85)
   have xac := io1 zw8 Jpc
   refine hK.out _ _ (by exact zaa (zw8.right)) fun hHeld => ?_
   clear hK K
   try simp only [sp]
   generalize World.alloc wpc (.cells #[.int .i64 0, .int .i64 0, .int .i64 0, .int .i64 0, .int .i64 0, .int .i64 0, .int .i64 0, .int .i64 0] 85) = z9d at *
   generalize wpc.heap.size = zsx at *
   refine rd [5, 6] (rn (fun K hK => ?_) ?_)
   ·go_simp
    go_at_call 58; (with_reducible refine zav r r1 r2 AR hx (zaj zw8) ?_); intro c1 c2 c3 c4 c5 c6 c7 c8 zqj hB z3n ztt
    have ztz := (zaj z3n)
    have z3v := (xac).trans ztt
    refine hK.out _ _ (by exact zaa (ztz.right)) fun hHeld => ?_
    clear hK K
    try simp only [sp]
    refine rd [6] (rc fun K hK => ?_)
    go_simp
    have zgw := ztz.new (.cells #[.int .i64 0, .int .i64 0, .int .i64 0, .int .i64 0, .int .i64 0, .int .i64 0, .int .i64 0, .int .i64 0] 85)
    have ztj := io1 zgw z3v
    refine hK.out _ _ (by exact zaa (zgw.right.right)) fun hHeld => ?_
    clear hK K
    try simp only [sp]
    generalize World.alloc zqj (.cells #[.int .i64 0, .int .i64 0, .int .i64 0, .int .i64 0, .int .i64 0, .int .i64 0, .int .i64 0, .int .i64 0] 85) = z9b at *
    generalize zqj.heap.size = zmb at *
    have zg2 := zgw
    have FA := zby zg2
    obtain ⟨f0, f1, f2, f3, f4, f5, f6, f7⟩ := FA
    have QA := nd8 zg2
    obtain ⟨q0, q1, q2, q3, q4, q5, q6, q7⟩ := QA
    have zer := zay (.int .i64 a1) (.int .i64 a2) (.int .i64 a3) (.int .i64 a4) (.int .i64 a5) (.int .i64 a6) (.int .i64 a7) (.int .i64 a8) zg2
    have FB := zby zer.right
    obtain ⟨g0, g1, g2, g3, g4, g5, g6, g7⟩ := FB
    have QB := nd8 zer.right
    obtain ⟨r0, r1', r2', r3, r4, r5, r6, r7⟩ := QB
    have zj5 := zaj (zay (.int .i64 c1) (.int .i64 c2) (.int .i64 c3) (.int .i64 c4) (.int .i64 c5) (.int .i64 c6) (.int .i64 c7) (.int .i64 c8) (zaj zer))
    have zmt := zac (b := zmb) (.int .i64 a1) (.int .i64 a2) (.int .i64 a3) (.int .i64 a4) (.int .i64 a5) (.int .i64 a6) (.int .i64 a7) (.int .i64 a8) (ztj)
    have zmh := zac (b := zsx) (.int .i64 c1) (.int .i64 c2) (.int .i64 c3) (.int .i64 c4) (.int .i64 c5) (.int .i64 c6) (.int .i64 c7) (.int .i64 c8) zmt
    refine rd [8] (rc fun K hK => ?_)
    go_simp
    refine hK.out _ _ (by exact zaa (zer.right.right)) fun hHeld => ?_
    clear hK K
    try simp only [sp]
    refine rd [9] (rc fun K hK => ?_)
    go_simp
    refine hK.out _ _ (by exact zaa (zj5.right.right)) fun hHeld => ?_
    clear hK K
    try simp only [sp]
    refine wpAnyH_done (by kernel_rfl) ?_ _
    go_wp2_with fail
    go_meet
    exact ⟨_, _, a1, a2, a3, a4, a5, a6, a7, a8, c1, c2, c3, c4, c5, c6, c7, c8, rfl, rfl, hA, hB, zj5, zmh⟩
   refine rc fun K hK => ?_
   go_simp
   have znb := zw8.new (.cells #[.int .i64 0, .int .i64 0, .int .i64 0, .int .i64 0, .int .i64 0, .int .i64 0, .int .i64 0, .int .i64 0] 85)
   have z3w := io1 znb xac
   refine hK.out _ _ (by exact zaa (znb.right.right)) fun hHeld => ?_
   clear hK K
   try simp only [sp]
   generalize World.alloc z9d (.cells #[.int .i64 0, .int .i64 0, .int .i64 0, .int .i64 0, .int .i64 0, .int .i64 0, .int .i64 0, .int .i64 0] 85) = wpcba at *
   generalize z9d.heap.size = zs4 at *
   refine rd [5] (rc fun K hK => ?_)
   go_simp
   go_at_call 58; (with_reducible refine zav r r1 r2 AR hx (fr2 znb) ?_); intro c1 c2 c3 c4 c5 c6 c7 c8 z9c hB zs8 zm3
   have zjx := (bk2 zs8)
   have ztk := (z3w).trans zm3
   refine hK.out _ _ (by exact zaa (zjx.right.right)) fun hHeld => ?_
   clear hK K
   try simp only [sp]
   have zg3 := zjx
   have FA := zby zg3
   obtain ⟨f0, f1, f2, f3, f4, f5, f6, f7⟩ := FA
   have QA := nd8 zg3
   obtain ⟨q0, q1, q2, q3, q4, q5, q6, q7⟩ := QA
   have zes := zay (.int .i64 a1) (.int .i64 a2) (.int .i64 a3) (.int .i64 a4) (.int .i64 a5) (.int .i64 a6) (.int .i64 a7) (.int .i64 a8) zg3
   have FB := zby zes.right
   obtain ⟨g0, g1, g2, g3, g4, g5, g6, g7⟩ := FB
   have QB := nd8 zes.right
   obtain ⟨r0, r1', r2', r3, r4, r5, r6, r7⟩ := QB
   have zj6 := zaj (zay (.int .i64 c1) (.int .i64 c2) (.int .i64 c3) (.int .i64 c4) (.int .i64 c5) (.int .i64 c6) (.int .i64 c7) (.int .i64 c8) (zaj zes))
   have zmu := zac (b := zs4) (.int .i64 a1) (.int .i64 a2) (.int .i64 a3) (.int .i64 a4) (.int .i64 a5) (.int .i64 a6) (.int .i64 a7) (.int .i64 a8) (ztk)
   have zmi := zac (b := zsx) (.int .i64 c1) (.int .i64 c2) (.int .i64 c3) (.int .i64 c4) (.int .i64 c5) (.int .i64 c6) (.int .i64 c7) (.int .i64 c8) zmu
   refine rd [8] (rc fun K hK => ?_)
   go_simp
   refine hK.out _ _ (by exact zaa (zes.right.right)) fun hHeld => ?_
   clear hK K
   try simp only [sp]
   refine rd [9] (rc fun K hK => ?_)
   go_simp
   refine hK.out _ _ (by exact zaa (zj6.right.right)) fun hHeld => ?_
   clear hK K
   try simp only [sp]
   refine wpAnyH_done (by kernel_rfl) ?_ _
   go_wp2_with fail
   go_meet
   exact ⟨_, _, a1, a2, a3, a4, a5, a6, a7, a8, c1, c2, c3, c4, c5, c6, c7, c8, rfl, rfl, hA, hB, zj6, zmi⟩
  refine rn (fun K hK => ?_) ?_
  ·go_simp
   have Hpa := Kd.new (.cells #[.int .i64 0, .int .i64 0, .int .i64 0, .int .i64 0, .int .i64 0, .int .i64 0, .int .i64 0, .int .i64 0] 85)
   have Jpa := io1 Hpa Jd
   refine hK.out _ _ (by exact zaa (Hpa.right)) fun hHeld => ?_
   clear hK K
   try simp only [sp]
   generalize World.alloc wd (.cells #[.int .i64 0, .int .i64 0, .int .i64 0, .int .i64 0, .int .i64 0, .int .i64 0, .int .i64 0, .int .i64 0] 85) = wpa at *
   generalize wd.heap.size = z3d at *
   refine rd [2, 7] (rn (fun K hK => ?_) ?_)
   ·go_simp
    go_at_call 58; (with_reducible refine zav l l1 l2 AL hx (zaj Hpa) ?_); intro a1 a2 a3 a4 a5 a6 a7 a8 z9n hA Xpac z4i
    have z4m := (zaj Xpac)
    have xaf := (Jpa).trans z4i
    refine hK.out _ _ (by exact zaa (z4m.right)) fun hHeld => ?_
    clear hK K
    try simp only [sp]
    refine rd [5, 7] (rn (fun K hK => ?_) ?_)
    ·go_simp
     go_at_call 58; (with_reducible refine zav r r1 r2 AR hx (zaj z4m) ?_); intro c1 c2 c3 c4 c5 c6 c7 c8 zqm hB z3r ztx
     have zt3 := (zaj z3r)
     have z4c := (xaf).trans ztx
     refine hK.out _ _ (by exact zaa (zt3.right)) fun hHeld => ?_
     clear hK K
     try simp only [sp]
     refine rd [7] (rc fun K hK => ?_)
     go_simp
     have zgz := zt3.new (.cells #[.int .i64 0, .int .i64 0, .int .i64 0, .int .i64 0, .int .i64 0, .int .i64 0, .int .i64 0, .int .i64 0] 85)
     have ztq := io1 zgz z4c
     refine hK.out _ _ (by exact zaa (zgz.right.right)) fun hHeld => ?_
     clear hK K
     try simp only [sp]
     generalize World.alloc zqm (.cells #[.int .i64 0, .int .i64 0, .int .i64 0, .int .i64 0, .int .i64 0, .int .i64 0, .int .i64 0, .int .i64 0] 85) = z9l at *
     generalize zqm.heap.size = zl9 at *
     have zg9 := (zaj zgz)
     have FA := zby zg9
     obtain ⟨f0, f1, f2, f3, f4, f5, f6, f7⟩ := FA
     have QA := nd8 zg9
     obtain ⟨q0, q1, q2, q3, q4, q5, q6, q7⟩ := QA
     have zey := zay (.int .i64 a1) (.int .i64 a2) (.int .i64 a3) (.int .i64 a4) (.int .i64 a5) (.int .i64 a6) (.int .i64 a7) (.int .i64 a8) zg9
     have FB := zby zey.right
     obtain ⟨g0, g1, g2, g3, g4, g5, g6, g7⟩ := FB
     have QB := nd8 zey.right
     obtain ⟨r0, r1', r2', r3, r4, r5, r6, r7⟩ := QB
     have zkc := zaj (zay (.int .i64 c1) (.int .i64 c2) (.int .i64 c3) (.int .i64 c4) (.int .i64 c5) (.int .i64 c6) (.int .i64 c7) (.int .i64 c8) (zaj zey))
     have zm0 := zac (b := z3d) (.int .i64 a1) (.int .i64 a2) (.int .i64 a3) (.int .i64 a4) (.int .i64 a5) (.int .i64 a6) (.int .i64 a7) (.int .i64 a8) (ztq)
     have zmo := zac (b := zl9) (.int .i64 c1) (.int .i64 c2) (.int .i64 c3) (.int .i64 c4) (.int .i64 c5) (.int .i64 c6) (.int .i64 c7) (.int .i64 c8) zm0
     refine rd [8] (rc fun K hK => ?_)
     go_simp
     refine hK.out _ _ (by exact zaa (zey.right.right)) fun hHeld => ?_
     clear hK K
     try simp only [sp]
     refine rd [9] (rc fun K hK => ?_)
     go_simp
     refine hK.out _ _ (by exact zaa (zkc.right.right)) fun hHeld => ?_
     clear hK K
     try simp only [sp]
     refine wpAnyH_done (by kernel_rfl) ?_ _
     go_wp2_with fail
     go_meet
     exact ⟨_, _, a1, a2, a3, a4, a5, a6, a7, a8, c1, c2, c3, c4, c5, c6, c7, c8, rfl, rfl, hA, hB, zkc, zmo⟩
    refine rc fun K hK => ?_
    go_simp
    have zne := z4m.new (.cells #[.int .i64 0, .int .i64 0, .int .i64 0, .int .i64 0, .int .i64 0, .int .i64 0, .int .i64 0, .int .i64 0] 85)
    have z4d := io1 zne xaf
    refine hK.out _ _ (by exact zaa (zne.right.right)) fun hHeld => ?_
    clear hK K
    try simp only [sp]
    generalize World.alloc z9n (.cells #[.int .i64 0, .int .i64 0, .int .i64 0, .int .i64 0, .int .i64 0, .int .i64 0, .int .i64 0, .int .i64 0] 85) = wpacb at *
    generalize z9n.heap.size = zsz at *
    refine rd [5] (rc fun K hK => ?_)
    go_simp
    go_at_call 58; (with_reducible refine zav r r1 r2 AR hx (fr2 zne) ?_); intro c1 c2 c3 c4 c5 c6 c7 c8 z9m hB ztc zm7
    have zj1 := (bk2 ztc)
    have ztr := (z4d).trans zm7
    refine hK.out _ _ (by exact zaa (zj1.right.right)) fun hHeld => ?_
    clear hK K
    try simp only [sp]
    have zha := (zaj zj1)
    have FA := zby zha
    obtain ⟨f0, f1, f2, f3, f4, f5, f6, f7⟩ := FA
    have QA := nd8 zha
    obtain ⟨q0, q1, q2, q3, q4, q5, q6, q7⟩ := QA
    have zez := zay (.int .i64 a1) (.int .i64 a2) (.int .i64 a3) (.int .i64 a4) (.int .i64 a5) (.int .i64 a6) (.int .i64 a7) (.int .i64 a8) zha
    have FB := zby zez.right
    obtain ⟨g0, g1, g2, g3, g4, g5, g6, g7⟩ := FB
    have QB := nd8 zez.right
    obtain ⟨r0, r1', r2', r3, r4, r5, r6, r7⟩ := QB
    have zkd := zaj (zay (.int .i64 c1) (.int .i64 c2) (.int .i64 c3) (.int .i64 c4) (.int .i64 c5) (.int .i64 c6) (.int .i64 c7) (.int .i64 c8) (zaj zez))
    have zm1 := zac (b := z3d) (.int .i64 a1) (.int .i64 a2) (.int .i64 a3) (.int .i64 a4) (.int .i64 a5) (.int .i64 a6) (.int .i64 a7) (.int .i64 a8) (ztr)
    have zmp := zac (b := zsz) (.int .i64 c1) (.int .i64 c2) (.int .i64 c3) (.int .i64 c4) (.int .i64 c5) (.int .i64 c6) (.int .i64 c7) (.int .i64 c8) zm1
    refine rd [8] (rc fun K hK => ?_)
    go_simp
    refine hK.out _ _ (by exact zaa (zez.right.right)) fun hHeld => ?_
    clear hK K
    try simp only [sp]
    refine rd [9] (rc fun K hK => ?_)
    go_simp
    refine hK.out _ _ (by exact zaa (zkd.right.right)) fun hHeld => ?_
    clear hK K
    try simp only [sp]
    refine wpAnyH_done (by kernel_rfl) ?_ _
    go_wp2_with fail
    go_meet
    exact ⟨_, _, a1, a2, a3, a4, a5, a6, a7, a8, c1, c2, c3, c4, c5, c6, c7, c8, rfl, rfl, hA, hB, zkd, zmp⟩
   refine rc fun K hK => ?_
   go_simp
   have z4n := Hpa.new (.cells #[.int .i64 0, .int .i64 0, .int .i64 0, .int .i64 0, .int .i64 0, .int .i64 0, .int .i64 0, .int .i64 0] 85)
   have Jpab := io1 z4n Jpa
   refine hK.out _ _ (by exact zaa (z4n.right.right)) fun hHeld => ?_
   clear hK K
   try simp only [sp]
   generalize World.alloc wpa (.cells #[.int .i64 0, .int .i64 0, .int .i64 0, .int .i64 0, .int .i64 0, .int .i64 0, .int .i64 0, .int .i64 0] 85) = wpab at *
   generalize wpa.heap.size = z3b at *
   refine rd [2] (rc fun K hK => ?_)
   go_simp
   go_at_call 58; (with_reducible refine zav l l1 l2 AL hx (fr2 z4n) ?_); intro a1 a2 a3 a4 a5 a6 a7 a8 wpabc hA z3s zty
   have zt4 := (bk2 z3s)
   have z4e := (Jpab).trans zty
   refine hK.out _ _ (by exact zaa (zt4.right.right)) fun hHeld => ?_
   clear hK K
   try simp only [sp]
   refine rd [5] (rc fun K hK => ?_)
   go_simp
   go_at_call 58; (with_reducible refine zav r r1 r2 AR hx (fr2 zt4) ?_); intro c1 c2 c3 c4 c5 c6 c7 c8 z9o hB ztd zm8
   have zj2 := (bk2 ztd)
   have zts := (z4e).trans zm8
   refine hK.out _ _ (by exact zaa (zj2.right.right)) fun hHeld => ?_
   clear hK K
   try simp only [sp]
   have zhb := (zaj zj2)
   have FA := zby zhb
   obtain ⟨f0, f1, f2, f3, f4, f5, f6, f7⟩ := FA
   have QA := nd8 zhb
   obtain ⟨q0, q1, q2, q3, q4, q5, q6, q7⟩ := QA
   have ze0 := zay (.int .i64 a1) (.int .i64 a2) (.int .i64 a3) (.int .i64 a4) (.int .i64 a5) (.int .i64 a6) (.int .i64 a7) (.int .i64 a8) zhb
   have FB := zby ze0.right
   obtain ⟨g0, g1, g2, g3, g4, g5, g6, g7⟩ := FB
   have QB := nd8 ze0.right
   obtain ⟨r0, r1', r2', r3, r4, r5, r6, r7⟩ := QB
   have zke := zaj (zay (.int .i64 c1) (.int .i64 c2) (.int .i64 c3) (.int .i64 c4) (.int .i64 c5) (.int .i64 c6) (.int .i64 c7) (.int .i64 c8) (zaj ze0))
   have zm2 := zac (b := z3d) (.int .i64 a1) (.int .i64 a2) (.int .i64 a3) (.int .i64 a4) (.int .i64 a5) (.int .i64 a6) (.int .i64 a7) (.int .i64 a8) (zts)
   have zmq := zac (b := z3b) (.int .i64 c1) (.int .i64 c2) (.int .i64 c3) (.int .i64 c4) (.int .i64 c5) (.int .i64 c6) (.int .i64 c7) (.int .i64 c8) zm2
   refine rd [8] (rc fun K hK => ?_)
   go_simp
   refine hK.out _ _ (by exact zaa (ze0.right.right)) fun hHeld => ?_
   clear hK K
   try simp only [sp]
   refine rd [9] (rc fun K hK => ?_)
   go_simp
   refine hK.out _ _ (by exact zaa (zke.right.right)) fun hHeld => ?_
   clear hK K
   try simp only [sp]
   refine wpAnyH_done (by kernel_rfl) ?_ _
   go_wp2_with fail
   go_meet
   exact ⟨_, _, a1, a2, a3, a4, a5, a6, a7, a8, c1, c2, c3, c4, c5, c6, c7, c8, rfl, rfl, hA, hB, zke, zmq⟩
  refine rc fun K hK => ?_
  go_simp
  have Hpb := Kd.new (.cells #[.int .i64 0, .int .i64 0, .int .i64 0, .int .i64 0, .int .i64 0, .int .i64 0, .int .i64 0, .int .i64 0] 85)
  have Jpb := io1 Hpb Jd
  refine hK.out _ _ (by exact zaa (Hpb.right)) fun hHeld => ?_
  clear hK K
  try simp only [sp]
  generalize World.alloc wd (.cells #[.int .i64 0, .int .i64 0, .int .i64 0, .int .i64 0, .int .i64 0, .int .i64 0, .int .i64 0, .int .i64 0] 85) = wpb at *
  generalize wd.heap.size = z3a at *
  refine rd [2, 6] (rn (fun K hK => ?_) ?_)
  ·go_simp
   go_at_call 58; (with_reducible refine zav l l1 l2 AL hx (zaj Hpb) ?_); intro a1 a2 a3 a4 a5 a6 a7 a8 z9j hA Xpbc z4h
   have z4k := (zaj Xpbc)
   have xae := (Jpb).trans z4h
   refine hK.out _ _ (by exact zaa (z4k.right)) fun hHeld => ?_
   clear hK K
   try simp only [sp]
   refine rd [5, 6] (rn (fun K hK => ?_) ?_)
   ·go_simp
    go_at_call 58; (with_reducible refine zav r r1 r2 AR hx (zaj z4k) ?_); intro c1 c2 c3 c4 c5 c6 c7 c8 zql hB z3p ztv
    have zt1 := (zaj z3p)
    have z3z := (xae).trans ztv
    refine hK.out _ _ (by exact zaa (zt1.right)) fun hHeld => ?_
    clear hK K
    try simp only [sp]
    refine rd [6] (rc fun K hK => ?_)
    go_simp
    have zgy := zt1.new (.cells #[.int .i64 0, .int .i64 0, .int .i64 0, .int .i64 0, .int .i64 0, .int .i64 0, .int .i64 0, .int .i64 0] 85)
    have ztn := io1 zgy z3z
    refine hK.out _ _ (by exact zaa (zgy.right.right)) fun hHeld => ?_
    clear hK K
    try simp only [sp]
    generalize World.alloc zql (.cells #[.int .i64 0, .int .i64 0, .int .i64 0, .int .i64 0, .int .i64 0, .int .i64 0, .int .i64 0, .int .i64 0] 85) = z9h at *
    generalize zql.heap.size = zmc at *
    have zg6 := zgy
    have FA := zby zg6
    obtain ⟨f0, f1, f2, f3, f4, f5, f6, f7⟩ := FA
    have QA := nd8 zg6
    obtain ⟨q0, q1, q2, q3, q4, q5, q6, q7⟩ := QA
    have zev := zay (.int .i64 a1) (.int .i64 a2) (.int .i64 a3) (.int .i64 a4) (.int .i64 a5) (.int .i64 a6) (.int .i64 a7) (.int .i64 a8) zg6
    have FB := zby zev.right
    obtain ⟨g0, g1, g2, g3, g4, g5, g6, g7⟩ := FB
    have QB := nd8 zev.right
    obtain ⟨r0, r1', r2', r3, r4, r5, r6, r7⟩ := QB
    have zj9 := zaj (zay (.int .i64 c1) (.int .i64 c2) (.int .i64 c3) (.int .i64 c4) (.int .i64 c5) (.int .i64 c6) (.int .i64 c7) (.int .i64 c8) (zaj zev))
    have zmx := zac (b := zmc) (.int .i64 a1) (.int .i64 a2) (.int .i64 a3) (.int .i64 a4) (.int .i64 a5) (.int .i64 a6) (.int .i64 a7) (.int .i64 a8) (ztn)
    have zml := zac (b := z3a) (.int .i64 c1) (.int .i64 c2) (.int .i64 c3) (.int .i64 c4) (.int .i64 c5) (.int .i64 c6) (.int .i64 c7) (.int .i64 c8) zmx
    refine rd [8] (rc fun K hK => ?_)
    go_simp
    refine hK.out _ _ (by exact zaa (zev.right.right)) fun hHeld => ?_
    clear hK K
    try simp only [sp]
    refine rd [9] (rc fun K hK => ?_)
    go_simp
    refine hK.out _ _ (by exact zaa (zj9.right.right)) fun hHeld => ?_
    clear hK K
    try simp only [sp]
    refine wpAnyH_done (by kernel_rfl) ?_ _
    go_wp2_with fail
    go_meet
    exact ⟨_, _, a1, a2, a3, a4, a5, a6, a7, a8, c1, c2, c3, c4, c5, c6, c7, c8, rfl, rfl, hA, hB, zj9, zml⟩
   refine rc fun K hK => ?_
   go_simp
   have znd := z4k.new (.cells #[.int .i64 0, .int .i64 0, .int .i64 0, .int .i64 0, .int .i64 0, .int .i64 0, .int .i64 0, .int .i64 0] 85)
   have z4a := io1 znd xae
   refine hK.out _ _ (by exact zaa (znd.right.right)) fun hHeld => ?_
   clear hK K
   try simp only [sp]
   generalize World.alloc z9j (.cells #[.int .i64 0, .int .i64 0, .int .i64 0, .int .i64 0, .int .i64 0, .int .i64 0, .int .i64 0, .int .i64 0] 85) = wpbca at *
   generalize z9j.heap.size = zs6 at *
   refine rd [5] (rc fun K hK => ?_)
   go_simp
   go_at_call 58; (with_reducible refine zav r r1 r2 AR hx (fr2 znd) ?_); intro c1 c2 c3 c4 c5 c6 c7 c8 z9i hB zta zm5
   have zjz := (bk2 zta)
   have zto := (z4a).trans zm5
   refine hK.out _ _ (by exact zaa (zjz.right.right)) fun hHeld => ?_
   clear hK K
   try simp only [sp]
   have zg7 := zjz
   have FA := zby zg7
   obtain ⟨f0, f1, f2, f3, f4, f5, f6, f7⟩ := FA
   have QA := nd8 zg7
   obtain ⟨q0, q1, q2, q3, q4, q5, q6, q7⟩ := QA
   have zew := zay (.int .i64 a1) (.int .i64 a2) (.int .i64 a3) (.int .i64 a4) (.int .i64 a5) (.int .i64 a6) (.int .i64 a7) (.int .i64 a8) zg7
   have FB := zby zew.right
   obtain ⟨g0, g1, g2, g3, g4, g5, g6, g7⟩ := FB
   have QB := nd8 zew.right
   obtain ⟨r0, r1', r2', r3, r4, r5, r6, r7⟩ := QB
   have zka := zaj (zay (.int .i64 c1) (.int .i64 c2) (.int .i64 c3) (.int .i64 c4) (.int .i64 c5) (.int .i64 c6) (.int .i64 c7) (.int .i64 c8) (zaj zew))
   have zmy := zac (b := zs6) (.int .i64 a1) (.int .i64 a2) (.int .i64 a3) (.int .i64 a4) (.int .i64 a5) (.int .i64 a6) (.int .i64 a7) (.int .i64 a8) (zto)
   have zmm := zac (b := z3a) (.int .i64 c1) (.int .i64 c2) (.int .i64 c3) (.int .i64 c4) (.int .i64 c5) (.int .i64 c6) (.int .i64 c7) (.int .i64 c8) zmy
   refine rd [8] (rc fun K hK => ?_)
   go_simp
   refine hK.out _ _ (by exact zaa (zew.right.right)) fun hHeld => ?_
   clear hK K
   try simp only [sp]
   refine rd [9] (rc fun K hK => ?_)
   go_simp
   refine hK.out _ _ (by exact zaa (zka.right.right)) fun hHeld => ?_
   clear hK K
   try simp only [sp]
   refine wpAnyH_done (by kernel_rfl) ?_ _
   go_wp2_with fail
   go_meet
   exact ⟨_, _, a1, a2, a3, a4, a5, a6, a7, a8, c1, c2, c3, c4, c5, c6, c7, c8, rfl, rfl, hA, hB, zka, zmm⟩
  refine rc fun K hK => ?_
  go_simp
  have z4l := Hpb.new (.cells #[.int .i64 0, .int .i64 0, .int .i64 0, .int .i64 0, .int .i64 0, .int .i64 0, .int .i64 0, .int .i64 0] 85)
  have Jpba := io1 z4l Jpb
  refine hK.out _ _ (by exact zaa (z4l.right.right)) fun hHeld => ?_
  clear hK K
  try simp only [sp]
  generalize World.alloc wpb (.cells #[.int .i64 0, .int .i64 0, .int .i64 0, .int .i64 0, .int .i64 0, .int .i64 0, .int .i64 0, .int .i64 0] 85) = wpba at *
  generalize wpb.heap.size = z3c at *
  refine rd [2] (rc fun K hK => ?_)
  go_simp
  go_at_call 58; (with_reducible refine zav l l1 l2 AL hx (fr2 z4l) ?_); intro a1 a2 a3 a4 a5 a6 a7 a8 wpbac hA z3q ztw
  have zt2 := (bk2 z3q)
  have z4b := (Jpba).trans ztw
  refine hK.out _ _ (by exact zaa (zt2.right.right)) fun hHeld => ?_
  clear hK K
  try simp only [sp]
  refine rd [5] (rc fun K hK => ?_)
  go_simp
  go_at_call 58; (with_reducible refine zav r r1 r2 AR hx (fr2 zt2) ?_); intro c1 c2 c3 c4 c5 c6 c7 c8 z9k hB ztb zm6
  have zj0 := (bk2 ztb)
  have ztp := (z4b).trans zm6
  refine hK.out _ _ (by exact zaa (zj0.right.right)) fun hHeld => ?_
  clear hK K
  try simp only [sp]
  have zg8 := zj0
  have FA := zby zg8
  obtain ⟨f0, f1, f2, f3, f4, f5, f6, f7⟩ := FA
  have QA := nd8 zg8
  obtain ⟨q0, q1, q2, q3, q4, q5, q6, q7⟩ := QA
  have zex := zay (.int .i64 a1) (.int .i64 a2) (.int .i64 a3) (.int .i64 a4) (.int .i64 a5) (.int .i64 a6) (.int .i64 a7) (.int .i64 a8) zg8
  have FB := zby zex.right
  obtain ⟨g0, g1, g2, g3, g4, g5, g6, g7⟩ := FB
  have QB := nd8 zex.right
  obtain ⟨r0, r1', r2', r3, r4, r5, r6, r7⟩ := QB
  have zkb := zaj (zay (.int .i64 c1) (.int .i64 c2) (.int .i64 c3) (.int .i64 c4) (.int .i64 c5) (.int .i64 c6) (.int .i64 c7) (.int .i64 c8) (zaj zex))
  have zmz := zac (b := z3c) (.int .i64 a1) (.int .i64 a2) (.int .i64 a3) (.int .i64 a4) (.int .i64 a5) (.int .i64 a6) (.int .i64 a7) (.int .i64 a8) (ztp)
  have zmn := zac (b := z3a) (.int .i64 c1) (.int .i64 c2) (.int .i64 c3) (.int .i64 c4) (.int .i64 c5) (.int .i64 c6) (.int .i64 c7) (.int .i64 c8) zmz
  refine rd [8] (rc fun K hK => ?_)
  go_simp
  refine hK.out _ _ (by exact zaa (zex.right.right)) fun hHeld => ?_
  clear hK K
  try simp only [sp]
  refine rd [9] (rc fun K hK => ?_)
  go_simp
  refine hK.out _ _ (by exact zaa (zkb.right.right)) fun hHeld => ?_
  clear hK K
  try simp only [sp]
  refine wpAnyH_done (by kernel_rfl) ?_ _
  go_wp2_with fail
  go_meet
  exact ⟨_, _, a1, a2, a3, a4, a5, a6, a7, a8, c1, c2, c3, c4, c5, c6, c7, c8, rfl, rfl, hA, hB, zkb, zmn⟩
 case rest =>
  obtain ⟨b9, b10, a1, a2, a3, a4, a5, a6, a7, a8, c1, c2, c3, c4, c5, c6, c7, c8, rfl, rfl, hA, hB, K2, J2⟩ := hcut
  cases m with
  | none =>
   obtain ⟨t, ht⟩ := Sq.zu7 (k1, k2) _ l r (Nat.le_refl _) bal.out.1 bal.out.2
   obtain ⟨y0, y1⟩ := znq (fr2 K2)
   go_upto_region 3 with fail
   clear y0 y1
   go_wp2_with (go_at_call 46; (with_reducible refine zan K2 ?_); intro w3 H3 I3; obtain ⟨f0, f1⟩ := zfr H3.right.right.right; obtain ⟨g0, g1⟩ := tk2 H3.right.right.right; have KE := zcu (.int .i64 4294967295) (.int .i64 4294967295) (ze3 H3); have JE := zax (b := bx + 3) (.int .i64 4294967295) (.int .i64 4294967295) (J2.trans I3); obtain ⟨q0, q1⟩ := tk2 KE)
   have FIN := L_ (HH.out none 4294967295 4294967295 t _ (L_ ⟨ht, fr.out.bad ht, fun M' h => nomatch h⟩) (zoz KE) JE)
   have hag := Tryz.isAgg29
   have hsz := Tryz.sizeOf29
   exact bodyPost_ret (v := tkA 4294967295 4294967295) (by simp [results, Tryz.results52, go_sem, q0, q1]) rfl FIN.out
  | some M =>
   obtain rfl : a8 = (l.ht : Int) := hA.out.ht.1
   obtain rfl : c8 = (r.ht : Int) := hB.out.ht.1
   obtain ⟨al1, al2⟩ := al.out M rfl
   have EL := L_ al1
   have ER := L_ al2
   clear al1 al2
   have zvh := (fr.out.toks (t := l) (by simp)).2.1
   have zvg := (fr.out.toks (t := r) (by simp)).2.1
   have hlc := l.zdw
   have hrc := r.zdw
   have wr1 : IntKind.i64.wrap ((r.ht : Int) + 1) = (r.ht : Int) + 1 := wrap_in (by omega) (by omega)
   have wr2 : IntKind.i64.wrap ((l.ht : Int) + 1) = (l.ht : Int) + 1 := wrap_in (by omega) (by omega)
   obtain ⟨y0, y1⟩ := zb3 (fr2 K2)
   have YA := nd8 K2
   obtain ⟨-, -, -, -, -, -, -, ya⟩ := YA
   have YB := nd8 K2.right
   obtain ⟨-, -, -, -, -, -, -, yb⟩ := YB
   by_cases c1 : r.ht + 1 < l.ht
   ·have g1 : (r.ht : Int) + 1 < (l.ht : Int) := by omega
    cases l with
    | nil => simp [Sq.T.ht] at c1
    | node a xx b =>
     obtain ⟨kA, kB⟩ := hA.out.kids
     have EA : Hid ((a3, a4) = a.top) := L_ kA
     have EB : Hid ((a5, a6) = b.top) := L_ kB
     have HX : Hid ((l1, l2) = xx) := L_ EL.out
     have HT : Hid (r.ht + 1 < (Sq.T.node a xx b).ht) := L_ c1
     clear kA kB
     go_upto_region 5 with fail
     clear y0 y1 ya yb wr1 wr2 zvh zvg hlc hrc
     have F0 : Hid (Fr m0 (some M) all (b :: r :: a :: ts) ((k1, k2) :: (l1, l2) :: ks)) := L_ (by rw [HX.out]; exact (fr.out.open).perm (Sq.p3 a b r ts) (Sq.pa _ _ _))
     have HN : Hid (∃ n', n' < n ∧ b.ht + r.ht ≤ n') := L_ ⟨b.ht + r.ht, (by have h1 := hn.out; simp only [Sq.T.ht] at h1 ⊢; omega), Nat.le_refl _⟩
     obtain ⟨n', hn1, hn2⟩ := HN.out
     have IH1 : ztg n' := IH.out n' hn1
     have HN2 := L_ hn2
     have AI : Hid (∀ M', some M = some M' → _ ∧ _) := L_ fun M' _ => (⟨EB.out, ER.out⟩)
     have BI : Hid (_ ∧ _) := L_ (⟨bal.out.1.2.1, bal.out.2⟩)
     have Kd := K2.drew
     have Jd := J2.drew
     clear K2 J2 hA hB hn1 hn2
     have S0 := zat Kd
     refine rh Kd (fun W Kd => zat Kd) fun hHeld => ?_
     refine tk ?_ ?_ [0, 1, 2, 3, 4, 5, 6, 7, 8] ?_ hHeld ?_; rotate_left 2; exact tt
     refine rd [9] (rc fun K hK => ?_)
     go_simp
     go_at_call 52; (refine IH1 b r a5 a6 k1 k2 r1 r2 HN2 AI F0 BI hx (fr2 Kd) ?_); intro m1 v1 v2 t1 w5 d1 X5 I5; have H5 := bk2 X5; have FO : Hid (Fr m0 m1 all (a :: t1 :: ts) ((l1, l2) :: ks)) := L_ (d1.out.2.1.perm (Sq.pa _ _ _) (List.Perm.refl _)); have BO := L_ (show _ ∧ _ ∧ _ ∧ _ from (by have h1 := Sq.Lk.zsn bal.out.1 HT.out d1.out.1; exact ⟨bal.out.1.1, d1.out.1.bal, h1.1, h1.2⟩)); have AO : Hid (∀ M', m1 = some M' → _ ∧ _) := L_ (fun M' hM' => ⟨EA.out, (d1.out.2.2 M' hM').1⟩)
     refine hK.out _ _ (by exact zat H5) fun hHeld => ?_
     clear hK K
     try simp only [sp]
     refine rd [10] (rc fun K hK => ?_)
     go_simp
     go_at_call 83; (refine zwk a t1 l1 l2 a3 a4 v1 v2 AO FO BO hx (fr2 H5) ?_); intro m2 o1 o2 t w6 d2 X6 I6; have H6 := bk2 X6; have FF := zfr H6.right.right.right; obtain ⟨f0, f1⟩ := FF; have GG := tk2 H6.right.right.right; obtain ⟨g0, g1⟩ := GG; have KE := zhh (zcu (.int .i64 o1) (.int .i64 o2) (ze3 H6)); have JE := zax (b := bx + 3) (.int .i64 o1) (.int .i64 o2) ((Jd.trans I5).trans I6)
     refine hK.out _ _ (by exact zat H6) fun hHeld => ?_
     clear hK K
     try simp only [sp]
     refine rd [11] (rc fun K hK => ?_)
     go_simp
     refine hK.out _ _ (by exact zat KE) fun hHeld => ?_
     clear hK K
     try simp only [sp]
     refine wpAnyH_done (by kernel_rfl) ?_ _
     have QQ := tk2 KE.right.right.right
     obtain ⟨q0, q1⟩ := QQ
     have FIN := L_ (HH.out m2 o1 o2 t _ (L_ (by have e1 := d1.out; have e2 := d2.out; rw [HX.out] at e1 e2; exact z05 bal.out.1 HT.out e1 e2)) (end2 KE) JE)
     go_wp2_with fail
     have hag := Tryz.isAgg29
     have hsz := Tryz.sizeOf29
     exact bodyPost_ret (v := tkA o1 o2) (by simp [results, Tryz.results52, go_sem, q0, q1]) rfl FIN.out
   ·by_cases c2 : l.ht + 1 < r.ht
    ·have g1 : ¬ (r.ht : Int) + 1 < (l.ht : Int) := by omega
     have g2 : (l.ht : Int) + 1 < (r.ht : Int) := by omega
     cases r with
     | nil => simp [Sq.T.ht] at c2
     | node a xx b =>
      obtain ⟨kA, kB⟩ := hB.out.kids
      have EA : Hid ((c3, c4) = a.top) := L_ kA
      have EB : Hid ((c5, c6) = b.top) := L_ kB
      have HX : Hid ((r1, r2) = xx) := L_ ER.out
      have HT : Hid (l.ht + 1 < (Sq.T.node a xx b).ht) := L_ c2
      clear kA kB
      go_upto_region 7 with fail
      clear y0 y1 ya yb wr1 wr2 zvh zvg hlc hrc
      have F0 : Hid (Fr m0 (some M) all (l :: a :: b :: ts) ((k1, k2) :: (r1, r2) :: ks)) := L_ (by rw [HX.out]; exact ((fr.out.perm (Sq.pa _ _ _) (List.Perm.refl _)).open).perm ((Sq.p3 l a b ts).symm) (Sq.pa _ _ _))
      have HN : Hid (∃ n', n' < n ∧ l.ht + a.ht ≤ n') := L_ ⟨l.ht + a.ht, (by have h1 := hn.out; simp only [Sq.T.ht] at h1 ⊢; omega), Nat.le_refl _⟩
      obtain ⟨n', hn1, hn2⟩ := HN.out
      have IH1 : ztg n' := IH.out n' hn1
      have HN2 := L_ hn2
      have AI : Hid (∀ M', some M = some M' → _ ∧ _) := L_ fun M' _ => (⟨EL.out, EA.out⟩)
      have BI : Hid (_ ∧ _) := L_ (⟨bal.out.1, bal.out.2.1⟩)
      have Kd := K2.drew
      have Jd := J2.drew
      clear K2 J2 hA hB hn1 hn2
      have S0 := zat Kd
      refine rh Kd (fun W Kd => zat Kd) fun hHeld => ?_
      refine tk ?_ ?_ [0, 1, 2, 3, 4, 5, 6, 8, 9] ?_ hHeld ?_; rotate_left 2; exact tt
      refine rd [7] (rc fun K hK => ?_)
      go_simp
      go_at_call 52; (refine IH1 l a l1 l2 k1 k2 c3 c4 HN2 AI F0 BI hx (fr2 Kd) ?_); intro m1 v1 v2 t1 w5 d1 X5 I5; have H5 := bk2 X5; have FO : Hid (Fr m0 m1 all (t1 :: b :: ts) ((r1, r2) :: ks)) := L_ (d1.out.2.1); have BO := L_ (show _ ∧ _ ∧ _ ∧ _ from (by have h1 := Sq.Lk.zoc bal.out.2 HT.out d1.out.1; exact ⟨d1.out.1.bal, bal.out.2.2.1, h1.2, h1.1⟩)); have AO : Hid (∀ M', m1 = some M' → _ ∧ _) := L_ (fun M' hM' => ⟨(d1.out.2.2 M' hM').1, EB.out⟩)
      refine hK.out _ _ (by exact zat H5) fun hHeld => ?_
      clear hK K
      try simp only [sp]
      refine rd [10] (rc fun K hK => ?_)
      go_simp
      go_at_call 83; (refine zwk t1 b r1 r2 v1 v2 c5 c6 AO FO BO hx (fr2 H5) ?_); intro m2 o1 o2 t w6 d2 X6 I6; have H6 := bk2 X6; have FF := zfr H6.right.right.right; obtain ⟨f0, f1⟩ := FF; have GG := tk2 H6.right.right.right; obtain ⟨g0, g1⟩ := GG; have KE := zhh (zcu (.int .i64 o1) (.int .i64 o2) (ze3 H6)); have JE := zax (b := bx + 3) (.int .i64 o1) (.int .i64 o2) ((Jd.trans I5).trans I6)
      refine hK.out _ _ (by exact zat H6) fun hHeld => ?_
      clear hK K
      try simp only [sp]
      refine rd [11] (rc fun K hK => ?_)
      go_simp
      refine hK.out _ _ (by exact zat KE) fun hHeld => ?_
      clear hK K
      try simp only [sp]
      refine wpAnyH_done (by kernel_rfl) ?_ _
      have QQ := tk2 KE.right.right.right
      obtain ⟨q0, q1⟩ := QQ
      have FIN := L_ (HH.out m2 o1 o2 t _ (L_ (by have e1 := d1.out; have e2 := d2.out; rw [HX.out] at e1 e2; exact zx2 bal.out.2 HT.out e1 e2)) (end2 KE) JE)
      go_wp2_with fail
      have hag := Tryz.isAgg29
      have hsz := Tryz.sizeOf29
      exact bodyPost_ret (v := tkA o1 o2) (by simp [results, Tryz.results52, go_sem, q0, q1]) rfl FIN.out
    ·have g1 : ¬ (r.ht : Int) + 1 < (l.ht : Int) := by omega
     have g2 : ¬ (l.ht : Int) + 1 < (r.ht : Int) := by omega
     have N1 : Hid (l.ht ≤ r.ht + 1 ∧ r.ht ≤ l.ht + 1) := L_ (by omega)
     go_upto_region 8 with fail
     clear y0 y1 ya yb wr1 wr2 zvh zvg hlc hrc c1 c2 g1 g2
     have ZZ := zat K2
     obtain ⟨⟨⟨p0, p1⟩, ⟨p2, p3⟩, ⟨p4, p5⟩⟩, -, -⟩ := ZZ
     go_wp2_with (go_at_call 45; (with_reducible refine zyu l r k1 k2 l1 l2 r1 r2 EL ER fr hx (fr2 K2) ?_); intro m3 w3 hm3 X3 I3; have H3 := bk2 X3; have FF := zfr H3.right.right.right; obtain ⟨f0, f1⟩ := FF; have GG := tk2 H3.right.right.right; obtain ⟨g0, g1⟩ := GG; have KE := zhh (zcu (.int .i64 k1) (.int .i64 k2) (ze3 H3)); have JE := zax (b := bx + 3) (.int .i64 k1) (.int .i64 k2) (J2.trans I3); have QQ := tk2 KE.right.right.right; obtain ⟨q0, q1⟩ := QQ)
     have FIN := L_ (HH.out m3 k1 k2 (.node l (k1, k2) r) _ (L_ ⟨Sq.Lk.set bal.out.1 bal.out.2 N1.out.1 N1.out.2, hm3.out.1, fun M' h => ⟨rfl, hm3.out.2 M' h⟩⟩) (end2 KE) JE)
     have hag := Tryz.isAgg29
     have hsz := Tryz.sizeOf29
     exact bodyPost_ret (v := tkA k1 k2) (by simp [results, Tryz.results52, go_sem, q0, q1]) rfl FIN.out
end
theorem zgf (n : Nat) : ztg n := by
 induction n using Nat.strongRecOn with
 | ind n ih => exact zxg n ih
namespace Sq
theorem Fr.drop_nil {m0 m : Option Mp} {all : List Tk} {ts : List T} {ks : List Tk} {l : T} (f : Fr m0 m all (l :: .nil :: ts) ks) : Fr m0 m all (l :: ts) ks := by
 have e : flat (l :: .nil :: ts) = flat (l :: ts) := by rw [zc5, zc5, zc5]; simp [T.toks]
 exact ⟨e ▸ f.nodup, fun y hy => f.ok y (by rw [e]; exact hy), by rw [← e]; exact f.cnt, fun y hy => f.sub y (by rw [e]; exact hy), fun M hM => by
  obtain ⟨M0, h0, a, b, c⟩ := f.own M hM
  refine ⟨M0, h0, fun t ht => a t ?_, b, c⟩
  rcases List.mem_cons.1 ht with rfl | h
  ·simp
  ·simp [h]⟩
end Sq
abbrev zw7 (t : Sq.T) : Prop := ∀ {x : Sx} {M : Mp} {F : Asn} {w : World} {R : Ending → World → Prop} {m0 : Option Mp} {all : List Tk} {ts : List Sq.T} {ks : List Tk} (k1 k2 : Int) (al : Hid ((k1, k2) = t.top)) (fr : Hid (Fr m0 (some M) all (t :: ts) ks)) (bal : Hid (t ≠ .nil ∧ t.Bal)) (hx : Hid x.Ok) (H : Sat (zas x (some M) * F) w)
  (h : ∀ m' v1 v2 e1 e2 rest w', Hid (Sq.La t rest (e1, e2) ∧ Fr m0 m' all (rest :: ts) ((e1, e2) :: ks) ∧ ∀ M', m' = some M' → (v1, v2) = rest.top) → Sat (zas x m' * F) w' → Io w w' → R (.returned (.tuple #[tkA v1 v2, tkA e1 e2])) w'),
  Calls Tryz.prog 81 #[.pointer (some ⟨x.s, 0, none⟩), tkA k1 k2] w R
section
variable {x : Sx} {M : Mp} {F : Asn} {w : World} {R : Ending → World → Prop} {m0 : Option Mp} {all : List Tk} {ts : List Sq.T} {ks : List Tk}
theorem la_in {A B C D : Asn} (H : Sat (A * (B * (C * (D * F)))) w) : Sat (D * (A * (B * (C * F)))) w := H.of_eq (by ac_rfl)
theorem ze5 {A : Asn} {b0 b1 b2 b6 : Nat} {t0 t1 t2 t6 : TypeId} {x0 x1 z0 z1 z2 z3 y0 y1 y2 y3 y4 y5 y6 y7 : Value} (H : Sat (pts b6 (.cells #[y0, y1, y2, y3, y4, y5, y6, y7] t6 (0, 0)) * (A * (pts b2 (.cells #[z0, z1] t2 (0, 0)) * (pts b1 (.cells #[z2, z3] t1 (0, 0)) * (pts b0 (.cells #[x0, x1] t0 (0, 0)) * F))))) w) :
  (w.cell? ⟨b0, 0, none⟩ = some x0 ∧ w.cell? ⟨b0, 1, none⟩ = some x1) ∧ (w.cell? ⟨b6, 2, none⟩ = some y2 ∧ w.cell? ⟨b6, 3, none⟩ = some y3 ∧ w.cell? ⟨b6, 4, none⟩ = some y4 ∧ w.cell? ⟨b6, 5, none⟩ = some y5) := by
 have a := nd8 H
 exact ⟨tk2 H.right.right.right.right, ⟨a.2.2.1, a.2.2.2.1, a.2.2.2.2.1, a.2.2.2.2.2.1⟩⟩
theorem ziv {A : Asn} {b0 b1 b2 b6 b7 : Nat} {t0 t1 t2 t6 t7 : TypeId} {x0 x1 z0 z1 z2 z3 y0 y1 y2 y3 y4 y5 y6 y7 v0 v1 : Value} (H : Sat (pts b7 (.cells #[v0, v1] t7 (0, 0)) * (pts b6 (.cells #[y0, y1, y2, y3, y4, y5, y6, y7] t6 (0, 0)) * (A * (pts b2 (.cells #[z0, z1] t2 (0, 0)) * (pts b1 (.cells #[z2, z3] t1 (0, 0)) * (pts b0 (.cells #[x0, x1] t0 (0, 0)) * F)))))) w) :
  ((w.cell? ⟨b0, 0, none⟩ = some x0 ∧ w.cell? ⟨b0, 1, none⟩ = some x1) ∧ (w.cell? ⟨b6, 2, none⟩ = some y2 ∧ w.cell? ⟨b6, 3, none⟩ = some y3 ∧ w.cell? ⟨b6, 4, none⟩ = some y4 ∧ w.cell? ⟨b6, 5, none⟩ = some y5)) ∧ (w.cell? ⟨b7, 0, none⟩ = some v0 ∧ w.cell? ⟨b7, 1, none⟩ = some v1) ∧ (w.cell? ⟨b2, 0, none⟩ = some z0 ∧ w.cell? ⟨b2, 1, none⟩ = some z1) :=
 ⟨ze5 H.right, tk2 H, tk2 H.right.right.right⟩
theorem la_res {A B C D : Asn} (H : Sat (A * (B * (C * (D * F)))) w) : Sat (D * (C * (A * (B * F)))) w := H.of_eq (by ac_rfl)
theorem z1a {A B C D : Asn} (H : Sat (D * (C * (A * (B * F)))) w) : Sat (A * (B * (C * (D * F)))) w := H.of_eq (by ac_rfl)
theorem z96 {A B C D E : Asn} (H : Sat (A * (B * (C * (D * (E * F))))) w) : Sat (B * F) w := (H.of_eq (show _ = (A * (C * (D * E))) * (B * F) from by ac_rfl)).right
theorem xbp {A A7 B C D E : Asn} (H : Sat (A7 * (A * (B * (C * (D * (E * F)))))) w) : Sat (B * F) w := z96 H.right
theorem z09 {A B : Asn} {b1 b2 : Nat} {t1 t2 : TypeId} {y0 y1 z0 z1 : Value} (x0 x1 u0 u1 : Value) (H : Sat (A * (B * (pts b2 (.cells #[z0, z1] t2 (0, 0)) * (pts b1 (.cells #[y0, y1] t1 (0, 0)) * F)))) w) :
  Sat (A * (B * (pts b2 (.cells #[z0, z1] t2 (0, 0)) * (pts b1 (.cells #[x0, x1] t1 (0, 0)) * F)))) ((w.setCell ⟨b1, 0, none⟩ x0).setCell ⟨b1, 1, none⟩ x1) ∧
  Sat (A * (B * (pts b2 (.cells #[u0, u1] t2 (0, 0)) * (pts b1 (.cells #[x0, x1] t1 (0, 0)) * F)))) ((((w.setCell ⟨b1, 0, none⟩ x0).setCell ⟨b1, 1, none⟩ x1).setCell ⟨b2, 0, none⟩ u0).setCell ⟨b2, 1, none⟩ u1) := by
 have k1 := zcu x0 x1 (la_res H)
 have k2 := zcu u0 u1 (zaj k1)
 exact ⟨z1a k1, z1a (zaj k2)⟩
theorem z7h {A A7 B : Asn} {b1 b2 : Nat} {t1 t2 : TypeId} {y0 y1 z0 z1 : Value} (x0 x1 u0 u1 : Value) (H : Sat (A7 * (A * (B * (pts b2 (.cells #[z0, z1] t2 (0, 0)) * (pts b1 (.cells #[y0, y1] t1 (0, 0)) * F))))) w) :
  Sat (A7 * (A * (B * (pts b2 (.cells #[z0, z1] t2 (0, 0)) * (pts b1 (.cells #[x0, x1] t1 (0, 0)) * F))))) ((w.setCell ⟨b1, 0, none⟩ x0).setCell ⟨b1, 1, none⟩ x1) ∧
  Sat (A7 * (A * (B * (pts b2 (.cells #[u0, u1] t2 (0, 0)) * (pts b1 (.cells #[x0, x1] t1 (0, 0)) * F))))) ((((w.setCell ⟨b1, 0, none⟩ x0).setCell ⟨b1, 1, none⟩ x1).setCell ⟨b2, 0, none⟩ u0).setCell ⟨b2, 1, none⟩ u1) := by
 have H2 : Sat (A7 * ((A * B) * (pts b2 (.cells #[z0, z1] t2 (0, 0)) * (pts b1 (.cells #[y0, y1] t1 (0, 0)) * F)))) w := H.of_eq (by ac_rfl)
 have h := z09 x0 x1 u0 u1 H2
 exact ⟨h.1.of_eq (by ac_rfl), h.2.of_eq (by ac_rfl)⟩
theorem xbq {A7 A B : Asn} {b2 : Nat} {t2 : TypeId} {z0 z1 : Value} (u0 u1 : Value) (H : Sat (A7 * (A * (B * (pts b2 (.cells #[z0, z1] t2 (0, 0)) * F)))) w) :
  Sat (A7 * (A * (B * (pts b2 (.cells #[u0, u1] t2 (0, 0)) * F)))) ((w.setCell ⟨b2, 0, none⟩ u0).setCell ⟨b2, 1, none⟩ u1) :=
 (zcu u0 u1 (H.of_eq (show _ = pts b2 (.cells #[z0, z1] t2 (0, 0)) * (A7 * (A * (B * F))) from by ac_rfl))).of_eq (by ac_rfl)
theorem zxh (l r : Sq.T) (k : Tk) (ih : zw7 r) : zw7 (.node l k r) := by
 intro x M F w R m0 all ts ks k1 k2 al fr bal hx H h
 have HH := L_ h
 have IH : Hid (zw7 r) := L_ ih
 have FO := L_ fr.out.open
 have HK : Hid ((k1, k2) = k) := L_ al.out
 have AT : Hid (Sq.zki (some M) (.node l k r) (k1, k2)) := L_ (fr.out.arg (by simp) al.out)
 have H1 := la_in (((H.new (.cells #[.int .i64 k1, .int .i64 k2] 29)).new (.cells #[.int .i64 0, .int .i64 0] 29)).new (.cells #[.int .i64 0, .int .i64 0] 29))
 have I1 := io3 H1 (Io.refl w)
 simp only [World.size_alloc, Nat.add_assoc, Nat.reduceAdd] at H1
 clear h H ih
 go_enter Tryz.func81, Tryz.ntmps81
 go_upto_region 1 with fail
 generalize ((w.alloc _).alloc _).alloc _ = w1 at *
 generalize w.heap.size = bx at *
 have ZZ := tk2 H1.right.right.right
 obtain ⟨y0, y1⟩ := ZZ
 go_upto_region 2 with (go_at_call 58; (with_reducible refine zav (.node l k r) k1 k2 AT hx H1 ?_); intro a1 a2 a3 a4 a5 a6 a7 a8 w2 hA H2 I2; have K2 := H2.new (.cells #[.int .i64 a1, .int .i64 a2, .int .i64 a3, .int .i64 a4, .int .i64 a5, .int .i64 a6, .int .i64 a7, .int .i64 a8] 85); have J2 := (I1.trans I2).alloc (.cells #[.int .i64 a1, .int .i64 a2, .int .i64 a3, .int .i64 a4, .int .i64 a5, .int .i64 a6, .int .i64 a7, .int .i64 a8] 85))
 clear y0 y1 H1 I1 H2 I2
 generalize w2.alloc _ = w3 at *
 generalize w2.heap.size = b6 at *
 obtain ⟨kA, kB⟩ := hA.out.kids
 have EL : Hid ((a3, a4) = l.top) := L_ kA
 have ER : Hid ((a5, a6) = r.top) := L_ kB
 have Kd := K2.drew
 have Jd := J2.drew
 clear kA kB K2 J2 hA AT
 have S0 := And.intro (ze5 Kd) (zb3 (zaj Kd)).2
 have hrr : (a5, a6) = Sq.nob ↔ r = .nil := by rw [ER.out]; exact Sq.T.znn (FO.out.toks (t := r) (by simp)).1
 have HRR := L_ hrr
 have EQ := fun W => zce a5 a6 4294967295 4294967295 W
 by_cases hn : r = .nil
 ·have h2 : decide ((a5, a6) = ((4294967295 : Int), (4294967295 : Int))) = true := decide_eq_true (hrr.2 hn)
  simp only [h2] at EQ
  subst hn
  refine rh Kd (fun W Kd => And.intro (ze5 Kd) (zb3 (zaj Kd)).2) fun hHeld => ?_
  refine tk ?_ ?_ [0, 1, 2, 3, 4, 5, 6, 7] ?_ hHeld ?_; rotate_left 2; exact tt
  refine rd [8] (rc fun K hK => ?_)
  go_simp
  go_at_call 46; (with_reducible refine zan Kd ?_); intro w4 H4 I4; have S1 := And.intro (ze5 H4) (zb3 (zaj H4)).2
  refine hK.out _ _ (by exact S1) fun hHeld => ?_
  clear hK K
  try simp only [sp]
  refine tk ?_ ?_ [9, 10] ?_ hHeld ?_; rotate_left 2; exact tt
  refine wpAnyH_done (by kernel_rfl) ?_ _
  go_upto_region 3 with fail
  have Ke := H4.drew
  have Je := (Jd.trans I4).drew
  clear EQ S0 h2 hrr
  have S5 := ze5 Ke
  have FL := z09 (.int .i64 a3) (.int .i64 a4) (.int .i64 k1) (.int .i64 k2) Ke
  have F1 := zfr Ke.right.right.right
  obtain ⟨f0, f1⟩ := F1
  have F2 := zfr Ke.right.right
  obtain ⟨f2, f3⟩ := F2
  have G1 := tk2 Ke.right.right.right
  obtain ⟨g0, g1⟩ := G1
  have G2 := tk2 FL.1.right.right
  obtain ⟨g2, g3⟩ := G2
  have F3 := zfr FL.1.right.right
  obtain ⟨f4, f5⟩ := F3
  have JE := zax (b := bx + 2) (.int .i64 k1) (.int .i64 k2) (zax (b := bx + 1) (.int .i64 a3) (.int .i64 a4) Je)
  refine rh Ke (fun W Ke => ze5 Ke) fun hHeld => ?_
  generalize w4.drew = wd at *
  refine tk ?_ ?_ [0, 1, 2] ?_ hHeld ?_; rotate_left 2; exact tt
  refine rd [3] (rc fun K hK => ?_)
  go_simp
  refine hK.out _ _ (by exact ze5 FL.1) fun hHeld => ?_
  clear hK K
  try simp only [sp]
  refine rd [4] (rc fun K hK => ?_)
  go_simp
  refine hK.out _ _ (by exact ze5 FL.2) fun hHeld => ?_
  clear hK K
  try simp only [sp]
  refine wpAnyH_done (by kernel_rfl) ?_ _
  have Q1 := tk2 FL.2.right.right
  obtain ⟨q0, q1⟩ := Q1
  have Q2 := tk2 FL.2.right.right.right
  obtain ⟨q2, q3⟩ := Q2
  have FIN := L_ (HH.out (some M) a3 a4 k1 k2 l _ (L_ ⟨by rw [HK.out]; exact Sq.La.here bal.out.2.1, by rw [HK.out]; exact FO.out.drop_nil, fun M' h => EL.out⟩) (z96 FL.2) JE)
  go_wp2_with fail
  have hag := Tryz.isAgg29
  have hsz := Tryz.sizeOf29
  exact bodyPost_ret (v := .tuple #[tkA a3 a4, tkA k1 k2]) (by simp [results, Tryz.results81, go_sem, q0, q1, q2, q3]) rfl FIN.out
 ·have h2 : decide ((a5, a6) = ((4294967295 : Int), (4294967295 : Int))) = false := decide_eq_false fun e => hn (hrr.1 e)
  simp only [h2] at EQ
  have HNE : Hid (r ≠ .nil ∧ r.Bal) := L_ ⟨hn, bal.out.2.2.1⟩
  have F1 : Hid (Fr m0 (some M) all (r :: l :: ts) (k :: ks)) := L_ (FO.out.perm (Sq.pa _ _ _) (List.Perm.refl _))
  refine wp_region_held_drew (S := (fun W => ((W.cell? ⟨bx, 0, none⟩ = some (.int .i64 k1) ∧ W.cell? ⟨bx, 1, none⟩ = some (.int .i64 k2)) ∧ (W.cell? ⟨b6, 2, none⟩ = some (.int .i64 a3) ∧ W.cell? ⟨b6, 3, none⟩ = some (.int .i64 a4) ∧ W.cell? ⟨b6, 4, none⟩ = some (.int .i64 a5) ∧ W.cell? ⟨b6, 5, none⟩ = some (.int .i64 a6))) ∧ W.cell? ⟨x.s, 1, none⟩ = some (.int .i64 0))) (by kernel_rfl) (by exact S0) (fun hHeld => ?_)
  refine tk ?_ ?_ [0, 1, 2, 3, 4, 5, 6, 7] ?_ hHeld ?_; rotate_left 2; exact tt
  refine rd [8] (rc fun K hK => ?_)
  go_simp
  go_at_call 46; (with_reducible refine zan Kd ?_); intro w4 H4 I4; have S1 := And.intro (ze5 H4) (zb3 (zaj H4)).2
  refine hK.out _ _ (by exact S1) fun hHeld => ?_
  clear hK K
  try simp only [sp]
  refine tk ?_ ?_ [9, 10] ?_ hHeld ?_; rotate_left 2; exact tt
  refine wpAnyH_done (by kernel_rfl) ?_ _
  go_upto_region 4 with fail
  clear EQ S0 h2 hrr hn Kd
  have ZZ := ze5 H4
  obtain ⟨-, -, -, z4, z5⟩ := ZZ
  have J4 := Jd.trans I4
  clear Jd I4
  go_upto_region 5 with (go_at_call 81; (refine IH.out a5 a6 ER F1 HNE hx (zaj H4) ?_); intro m1 v1 v2 e1 e2 rest w5 d1 X5 I5; have K5 := (zaj X5).new (.cells #[.int .i64 v1, .int .i64 v2] 29); have J5 := (J4.trans I5).alloc (.cells #[.int .i64 v1, .int .i64 v2] 29); have F2 := zfr K5.right.right.right; obtain ⟨f2, f3⟩ := F2; have G2 := tk2 K5.right.right.right; obtain ⟨g2, g3⟩ := G2; have K6 := xbq (.int .i64 e1) (.int .i64 e2) K5; have J6 := zax (b := bx + 2) (.int .i64 e1) (.int .i64 e2) J5)
  clear z4 z5 f2 f3 g2 g3 K5 J5 X5 I5 H4 J4
  generalize ((w5.alloc _).setCell ⟨bx + 2, 0, none⟩ (.int .i64 e1)).setCell ⟨bx + 2, 1, none⟩ (.int .i64 e2) = w6 at *
  generalize w5.heap.size = b7 at *
  have Ke := K6.drew
  have Je := J6.drew
  clear K6 J6
  have S5 := ziv Ke
  have F3 : Hid (Fr m0 m1 all (l :: rest :: ts) ((k1, k2) :: (e1, e2) :: ks)) := L_ (by rw [HK.out]; exact d1.out.2.1.perm (Sq.pa _ _ _) (Sq.pa _ _ _))
  have AO : Hid (∀ M', m1 = some M' → (a3, a4) = l.top ∧ (v1, v2) = rest.top) := L_ fun M' h => ⟨EL.out, d1.out.2.2 M' h⟩
  have BO : Hid (l.Bal ∧ rest.Bal) := L_ ⟨bal.out.2.1, d1.out.1.bal⟩
  refine rh Ke (fun W Ke => ziv Ke) fun hHeld => ?_
  refine tk ?_ ?_ [0, 1, 2, 3, 4, 6] ?_ hHeld ?_; rotate_left 2; exact tt
  refine rd [5] (rc fun K hK => ?_)
  go_simp
  go_at_call 52; (refine zgf _ l rest a3 a4 k1 k2 v1 v2 (L_ (Nat.le_refl _)) AO F3 BO hx (fr2 Ke) ?_); intro m2 o1 o2 t w7 d2 X7 I7; have H7 := bk2 X7; have FL := z7h (.int .i64 o1) (.int .i64 o2) (.int .i64 e1) (.int .i64 e2) H7; have F1' := zfr H7.right.right.right.right; obtain ⟨f0, f1⟩ := F1'; have G1 := tk2 H7.right.right.right.right; obtain ⟨g0, g1⟩ := G1; have F4 := zfr FL.1.right.right.right; obtain ⟨f4, f5⟩ := F4; have G4 := tk2 FL.1.right.right.right; obtain ⟨g4, g5⟩ := G4; have JE := zax (b := bx + 2) (.int .i64 e1) (.int .i64 e2) (zax (b := bx + 1) (.int .i64 o1) (.int .i64 o2) (Je.trans I7))
  refine hK.out _ _ (by exact ziv H7) fun hHeld => ?_
  clear hK K
  try simp only [sp]
  refine rd [7] (rc fun K hK => ?_)
  go_simp
  refine hK.out _ _ (by exact ziv FL.1) fun hHeld => ?_
  clear hK K
  try simp only [sp]
  refine rd [8] (rc fun K hK => ?_)
  go_simp
  refine hK.out _ _ (by exact ziv FL.2) fun hHeld => ?_
  clear hK K
  try simp only [sp]
  refine wpAnyH_done (by kernel_rfl) ?_ _
  have Q1 := tk2 FL.2.right.right.right
  obtain ⟨q0, q1⟩ := Q1
  have Q2 := tk2 FL.2.right.right.right.right
  obtain ⟨q2, q3⟩ := Q2
  have FIN := L_ (HH.out m2 o1 o2 e1 e2 t _ (L_ ⟨by have h5 := d2.out.1; rw [HK.out] at h5; exact Sq.La.step bal.out.2 d1.out.1 h5, d2.out.2.1, fun M' h => (d2.out.2.2 M' h).1⟩) (xbp FL.2) JE)
  go_wp2_with fail
  have hag := Tryz.isAgg29
  have hsz := Tryz.sizeOf29
  exact bodyPost_ret (v := .tuple #[tkA o1 o2, tkA e1 e2]) (by simp [results, Tryz.results81, go_sem, q0, q1, q2, q3]) rfl FIN.out
theorem zzn (t : Sq.T) : zw7 t := by
 induction t with
 | nil =>
  intro x M F w R m0 all ts ks k1 k2 al fr bal hx H h
  exact absurd rfl bal.out.1
 | node l k r ihl ihr => exact zxh l r k ihr
end
namespace Sq
variable {m0 m m' : Option Mp} {all : List Tk} {ts : List T} {ks : List Tk} {t : T}
theorem Fr.hang (f : Fr m0 m all (t :: ts) ks) {v : Tk} (h : ∀ M', m' = some M' → ∃ M, m = some M ∧ M' = zvj M t v) : Fr m0 m' all (t :: ts) ks ∧ ∀ M', m' = some M' → zc0 M' t v := by
 have nd := f.nodup
 rw [zc5, List.append_assoc] at nd
 obtain ⟨n1, n2, n3⟩ := List.nodup_append.1 nd
 have out : ∀ y ∈ flat ts ++ ks, y ∉ t.toks := fun y hy hn => n3 y hn y hy rfl
 refine ⟨⟨f.nodup, f.ok, f.cnt, f.sub, fun M' hM' => ?_⟩, fun M' hM' => ?_⟩
 ·obtain ⟨M, e, rfl⟩ := h M' hM'
  obtain ⟨M0, e0, a, b, c⟩ := f.own M e
  refine ⟨M0, e0, fun s hs => ?_, fun y hy => ?_, fun y hy => ?_⟩
  ·rcases List.mem_cons.1 hs with rfl | hs
   ·obtain ⟨u, hu⟩ := a s (by simp)
    exact ⟨v, zhj hu n1⟩
   ·obtain ⟨u, hu⟩ := a s (by simp [hs])
    exact ⟨u, hu.congr fun y hy => zel (out y (List.mem_append_left _ (zdi.2 ⟨s, hs, hy⟩)))⟩
  ·rw [zel (out y (List.mem_append_right _ hy))]
   exact b y hy
  ·have : y ∉ t.toks := fun hn => hy (f.sub y (List.mem_append_left _ (zdi.2 ⟨t, by simp, hn⟩)))
   rw [zel this]
   exact c y hy
 ·obtain ⟨M, e, rfl⟩ := h M' hM'
  obtain ⟨M0, e0, a, b, c⟩ := f.own M e
  obtain ⟨u, hu⟩ := a t (by simp)
  exact zhj hu n1
end Sq
section
variable {x : Sx} {M : Mp} {F : Asn} {w : World} {R : Ending → World → Prop} {m0 : Option Mp} {all : List Tk} {ts : List Sq.T} {ks : List Tk}
theorem gl_in {A B C D : Asn} (H : Sat (A * (B * (C * (D * F)))) w) : Sat (D * (A * (B * (C * F)))) w := H.of_eq (by ac_rfl)
theorem gl_fr {A B C : Asn} (H : Sat (A * (B * (C * F))) w) : Sat (C * (A * (B * F))) w := H.of_eq (by ac_rfl)
theorem gl_res {A B C D : Asn} (H : Sat (A * (B * (C * (D * F)))) w) : Sat (D * (A * (B * (C * F)))) w := H.of_eq (by ac_rfl)
theorem gl_bk {A B C : Asn} (H : Sat (C * (A * (B * F))) w) : Sat (A * (B * (C * F))) w := H.of_eq (by ac_rfl)
theorem gl_fin {A B C D E G : Asn} (H : Sat (D * (A * (B * (C * (E * (G * F)))))) w) : Sat (C * F) w := (H.of_eq (show _ = (D * (A * (B * (E * G)))) * (C * F) from by ac_rfl)).right
theorem zzq (l r : Sq.T) (l1 l2 r1 r2 : Int) (EL : Hid ((l1, l2) = l.top)) (ER : Hid ((r1, r2) = r.top)) (fr : Hid (Fr m0 (some M) all (l :: r :: ts) ks)) (ne : Hid (l ≠ .nil ∧ r ≠ .nil)) (bal : Hid (l.Bal ∧ r.Bal)) (hx : Hid x.Ok) (H : Sat (zas x (some M) * F) w)
  (h : ∀ m' v1 v2 t w', Hid (t.toks = l.toks ++ r.toks ∧ t.Bal ∧ Fr m0 m' all (t :: ts) ks ∧ ∀ M', m' = some M' → (v1, v2) = t.top ∧ Sq.zc0 M' t Sq.nob) → Sat (zas x m' * F) w' → Io w w' → R (.returned (tkA v1 v2)) w') :
  Calls Tryz.prog 49 #[.pointer (some ⟨x.s, 0, none⟩), tkA l1 l2, tkA r1 r2] w R := by
 have HH := L_ h
 have nl : (4294967295, 4294967295) ≠ ((l1, l2) : Tk) := fun e => ne.out.1 ((Sq.T.znn (fr.out.toks (t := l) (by simp)).1).1 (EL.out.symm.trans e.symm))
 have nr : (4294967295, 4294967295) ≠ ((r1, r2) : Tk) := fun e => ne.out.2 ((Sq.T.znn (fr.out.toks (t := r) (by simp)).1).1 (ER.out.symm.trans e.symm))
 have E1 := fun W => zce 4294967295 4294967295 l1 l2 W
 have E2 := fun W => zce 4294967295 4294967295 r1 r2 W
 rw [decide_eq_false nl] at E1
 rw [decide_eq_false nr] at E2
 have BL : Hid (l ≠ .nil ∧ l.Bal) := L_ ⟨ne.out.1, bal.out.1⟩
 have H1 := gl_in (((H.new (.cells #[.int .i64 l1, .int .i64 l2] 29)).new (.cells #[.int .i64 r1, .int .i64 r2] 29)).new (.cells #[.int .i64 0, .int .i64 0] 29))
 have I1 := io3 H1 (Io.refl w)
 simp only [World.size_alloc, Nat.add_assoc, Nat.reduceAdd] at H1
 clear h H nl nr
 go_enter Tryz.func49, Tryz.ntmps49
 go_upto_region 1 with fail
 generalize ((w.alloc _).alloc _).alloc _ = w1 at *
 generalize w.heap.size = bx at *
 go_upto_region 2 with (go_at_call 46; (with_reducible refine zan H1 ?_); intro w2 H2 I2; have Y1 := tk2 H2.right.right.right; obtain ⟨y0, y1⟩ := Y1; have Y2 := tk2 H2.right.right; obtain ⟨y2, y3⟩ := Y2)
 go_upto_region 7 with (go_at_call 81; (refine zzn l l1 l2 EL fr BL hx H2 ?_); intro m1 v1 v2 e1 e2 rest w3 d1 X3 I3; have K3 := (X3.new (.cells #[.int .i64 v1, .int .i64 v2] 29)).new (.cells #[.int .i64 e1, .int .i64 e2] 29); have J3 := (I3.alloc (.cells #[.int .i64 v1, .int .i64 v2] 29)).alloc (.cells #[.int .i64 e1, .int .i64 e2] 29); simp only [World.size_alloc] at K3)
 have FK : Hid (Fr m0 m1 all (rest :: r :: ts) ((e1, e2) :: ks)) := L_ d1.out.2.1
 have AO : Hid (∀ M', m1 = some M' → (v1, v2) = rest.top ∧ (r1, r2) = r.top) := L_ fun M' h => ⟨d1.out.2.2 M' h, ER.out⟩
 have BO : Hid (rest.Bal ∧ r.Bal) := L_ ⟨d1.out.1.bal, bal.out.2⟩
 have J4 := (I1.trans I2).trans J3
 clear y0 y1 y2 y3 H1 H2 I1 I2 J3 I3 X3
 generalize (w3.alloc _).alloc _ = w4 at *
 generalize w3.heap.size = bv at *
 have Z1 := tk2 K3
 obtain ⟨z0, z1⟩ := Z1
 have Z2 := tk2 K3.right
 obtain ⟨z2, z3⟩ := Z2
 have Z3 := tk2 K3.right.right.right.right
 obtain ⟨z4, z5⟩ := Z3
 go_wp2_with (go_at_call 52; (refine zgf _ rest r v1 v2 e1 e2 r1 r2 (L_ (Nat.le_refl _)) AO FK BO hx (gl_fr K3) ?_); intro m2 o1 o2 t w5 d2 X5 I5; have K5 := gl_res (gl_bk X5); have FF := zfr K5; obtain ⟨f0, f1⟩ := FF; have GG := tk2 K5; obtain ⟨g0, g1⟩ := GG; have KE := zcu (.int .i64 o1) (.int .i64 o2) K5; have JE := zax (b := bx + 2) (.int .i64 o1) (.int .i64 o2) (J4.trans I5); have QQ := tk2 KE; obtain ⟨q0, q1⟩ := QQ)
 have FIN := L_ (HH.out m2 o1 o2 t _ (L_ ⟨by rw [d2.out.1.toks, d1.out.1.toks]; simp, d2.out.1.bal, d2.out.2.1, d2.out.2.2⟩) (gl_fin KE) JE)
 have hag := Tryz.isAgg29
 have hsz := Tryz.sizeOf29
 exact bodyPost_ret (v := tkA o1 o2) (by simp [results, Tryz.results49, go_sem, q0, q1]) rfl FIN.out
theorem zwc {m : Option Mp} (k1 k2 : Int) (e : Hid ((k1, k2) = Sq.nob)) (H : Sat (zas x m * F) w) (h : ∀ w', Sat (zas x m * F) w' → Io w w' → R (.returned (.tuple #[])) w') :
  Calls Tryz.prog 48 #[.pointer (some ⟨x.s, 0, none⟩), tkA k1 k2] w R := by
 have HH := L_ h
 have H1 := zaj (H.new (.cells #[.int .i64 k1, .int .i64 k2] 29))
 have I1 := io1 H1 (Io.refl w)
 have EQ := fun W => zde k1 k2 4294967295 4294967295 W
 rw [show decide ((k1, k2) = ((4294967295 : Int), (4294967295 : Int))) = true from decide_eq_true e.out] at EQ
 simp only [Bool.not_true] at EQ
 clear h H
 go_enter Tryz.func48, Tryz.ntmps48
 go_upto_region 1 with fail
 generalize w.alloc _ = w1 at *
 generalize w.heap.size = bx at *
 have Kd := H1.drew
 have Jd := I1.drew
 have S0 := tk2 Kd.right
 refine rh Kd (fun W Kd => tk2 Kd.right) fun hHeld => ?_
 refine tk ?_ ?_ [0] ?_ hHeld ?_; rotate_left 2; exact tt
 refine rd [1] (rc fun K hK => ?_)
 go_simp
 go_at_call 46; (with_reducible refine zan Kd ?_); intro w2 H2 I2; have S1 := tk2 H2.right
 refine hK.out _ _ (by exact S1) fun hHeld => ?_
 clear hK K
 try simp only [sp]
 refine tk ?_ ?_ [2] ?_ hHeld ?_; rotate_left 2; exact tt
 refine wpAnyH_done (by kernel_rfl) ?_ _
 have FIN := L_ (HH.out _ (zaj H2).right (Jd.trans I2))
 go_wp2_with fail
 go_end0
 exact FIN.out
theorem zqx (k1 k2 : Int) (e : Hid ((k1, k2) ≠ Sq.nob)) (hx : Hid x.Ok) (H : Sat (zas x none * F) w) (h : ∀ w', Sat (zas x none * F) w' → Io w w' → R (.returned (.tuple #[])) w') :
  Calls Tryz.prog 48 #[.pointer (some ⟨x.s, 0, none⟩), tkA k1 k2] w R := by
 have HH := L_ h
 have H1 := zaj (H.new (.cells #[.int .i64 k1, .int .i64 k2] 29))
 have I1 := io1 H1 (Io.refl w)
 have EQ := fun W => zde k1 k2 4294967295 4294967295 W
 rw [show decide ((k1, k2) = ((4294967295 : Int), (4294967295 : Int))) = false from decide_eq_false e.out] at EQ
 simp only [Bool.not_false] at EQ
 clear h H
 go_enter Tryz.func48, Tryz.ntmps48
 go_upto_region 1 with fail
 generalize w.alloc _ = w1 at *
 generalize w.heap.size = bx at *
 have Kd := H1.drew
 have Jd := I1.drew
 have S0 := tk2 Kd.right
 refine rh Kd (fun W Kd => tk2 Kd.right) fun hHeld => ?_
 refine tk ?_ ?_ [0] ?_ hHeld ?_; rotate_left 2; exact tt
 refine rd [1] (rc fun K hK => ?_)
 go_simp
 go_at_call 46; (with_reducible refine zan Kd ?_); intro w2 H2 I2; have S1 := tk2 H2.right
 refine hK.out _ _ (by exact S1) fun hHeld => ?_
 clear hK K
 try simp only [sp]
 refine tk ?_ ?_ [2] ?_ hHeld ?_; rotate_left 2; exact tt
 refine wpAnyH_done (by kernel_rfl) ?_ _
 go_upto_region 2 with fail
 have Ke := H2.drew
 have Je := (Jd.trans I2).drew
 have S3 := tk2 Ke.right
 refine rh Ke (fun W Ke => tk2 Ke.right) fun hHeld => ?_
 refine tk ?_ ?_ [0, 1] ?_ hHeld ?_; rotate_left 2; exact tt
 refine rd [2] (rc fun K hK => ?_)
 go_simp
 go_at_call 46; (with_reducible refine zan Ke ?_); intro w4 H4 I4; have S4 := tk2 H4.right
 refine hK.out _ _ (by exact S4) fun hHeld => ?_
 clear hK K
 try simp only [sp]
 refine rd [3] (rc fun K hK => ?_)
 go_simp
 go_at_call 78; (with_reducible refine zq0 k1 k2 4294967295 4294967295 e hx H4 ?_); intro _ _ w5 H5 I5; have S5 := tk2 H5.right
 refine hK.out _ _ (by exact S5) fun hHeld => ?_
 clear hK K
 try simp only [sp]
 refine wpAnyH_done (by kernel_rfl) ?_ _
 have FIN := L_ (HH.out _ (zaj H5).right ((Je.trans I4).trans I5))
 go_wp2_with fail
 go_end0
 exact FIN.out
theorem zxd {m : Option Mp} (t : Sq.T) (k1 k2 : Int) (ek : Hid ((k1, k2) = t.top)) (e : Hid ((k1, k2) ≠ Sq.nob)) (fr : Hid (Fr m0 m all (t :: ts) ks)) (hx : Hid x.Ok) (H : Sat (zas x m * F) w) (h : ∀ m' w', Hid (Fr m0 m' all (t :: ts) ks ∧ ∀ M', m' = some M' → Sq.zc0 M' t Sq.nob) → Sat (zas x m' * F) w' → Io w w' → R (.returned (.tuple #[])) w') :
  Calls Tryz.prog 48 #[.pointer (some ⟨x.s, 0, none⟩), tkA k1 k2] w R := by
 have HH := L_ h
 have H1 := zaj (H.new (.cells #[.int .i64 k1, .int .i64 k2] 29))
 have I1 := io1 H1 (Io.refl w)
 have EQ := fun W => zde k1 k2 4294967295 4294967295 W
 rw [show decide ((k1, k2) = ((4294967295 : Int), (4294967295 : Int))) = false from decide_eq_false e.out] at EQ
 simp only [Bool.not_false] at EQ
 have HV : Hid (InT (4294967295, 4294967295)) := L_ Sq.zu1
 have HO : Hid (∀ M, m = some M → ∃ u, Sq.zc0 M t u) := L_ fun M hM => fr.out.hold hM (by simp)
 have OK : Hid ((∀ y ∈ t.toks, Sq.OkT y) ∧ t.cnt ≤ 255) := L_ ⟨(fr.out.toks (t := t) (by simp)).1, (fr.out.toks (t := t) (by simp)).2.1⟩
 clear h H
 go_enter Tryz.func48, Tryz.ntmps48
 go_upto_region 1 with fail
 generalize w.alloc _ = w1 at *
 generalize w.heap.size = bx at *
 have Kd := H1.drew
 have Jd := I1.drew
 have S0 := tk2 Kd.right
 refine rh Kd (fun W Kd => tk2 Kd.right) fun hHeld => ?_
 refine tk ?_ ?_ [0] ?_ hHeld ?_; rotate_left 2; exact tt
 refine rd [1] (rc fun K hK => ?_)
 go_simp
 go_at_call 46; (with_reducible refine zan Kd ?_); intro w2 H2 I2; have S1 := tk2 H2.right
 refine hK.out _ _ (by exact S1) fun hHeld => ?_
 clear hK K
 try simp only [sp]
 refine tk ?_ ?_ [2] ?_ hHeld ?_; rotate_left 2; exact tt
 refine wpAnyH_done (by kernel_rfl) ?_ _
 go_upto_region 2 with fail
 have Ke := H2.drew
 have Je := (Jd.trans I2).drew
 have S3 := tk2 Ke.right
 refine rh Ke (fun W Ke => tk2 Ke.right) fun hHeld => ?_
 refine tk ?_ ?_ [0, 1] ?_ hHeld ?_; rotate_left 2; exact tt
 refine rd [2] (rc fun K hK => ?_)
 go_simp
 go_at_call 46; (with_reducible refine zan Ke ?_); intro w4 H4 I4; have S4 := tk2 H4.right
 refine hK.out _ _ (by exact S4) fun hHeld => ?_
 clear hK K
 try simp only [sp]
 refine rd [3] (rc fun K hK => ?_)
 go_simp
 go_at_call 78; (with_reducible refine zbm t k1 k2 4294967295 4294967295 ek HV HO OK hx H4 ?_); intro m' _ _ _ _ _ _ _ _ w5 hm H5 I5; have S5 := tk2 H5.right
 refine hK.out _ _ (by exact S5) fun hHeld => ?_
 clear hK K
 try simp only [sp]
 refine wpAnyH_done (by kernel_rfl) ?_ _
 have FIN := L_ (HH.out m' _ (L_ (fr.out.hang hm.out.1)) (zaj H5).right ((Je.trans I4).trans I5))
 go_wp2_with fail
 go_end0
 exact FIN.out
theorem zk0 {m : Option Mp} (t : Sq.T) (k1 k2 : Int) (al : Hid (∀ M, m = some M → (k1, k2) = t.top)) (fr : Hid (Fr m0 m all (t :: ts) ks)) (hx : Hid x.Ok) (H : Sat (zas x m * F) w) (h : ∀ m' w', Hid (Fr m0 m' all (t :: ts) ks ∧ ∀ M', m' = some M' → Sq.zc0 M' t Sq.nob) → Sat (zas x m' * F) w' → Io w w' → R (.returned (.tuple #[])) w') :
  Calls Tryz.prog 48 #[.pointer (some ⟨x.s, 0, none⟩), tkA k1 k2] w R := by
 by_cases e : (k1, k2) = Sq.nob
 ·refine zwc k1 k2 (L_ e) H fun w' H' I => h m w' (L_ ⟨fr.out, fun M' hM => ?_⟩) H' I
  have h1 := (Sq.T.znn (fr.out.toks (t := t) (by simp)).1).1 ((al.out M' hM).symm.trans e)
  rw [h1]
  trivial
 ·cases m with
  | none => exact zqx k1 k2 (L_ e) hx H fun w' H' I => h none w' (L_ ⟨fr.out, fun M' h => nomatch h⟩) H' I
  | some M => exact zxd t k1 k2 (L_ (al.out M rfl)) (L_ e) fr hx H h
end
end Go.Proofs.YtfknjmoekbabcaaGreatDoor
