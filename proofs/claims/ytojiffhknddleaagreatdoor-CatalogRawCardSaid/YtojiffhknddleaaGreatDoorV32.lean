/-
  cowtree's change of a node above others, by a walk; change as a whole. It proves no statement by itself.
-/
import Derived.Test.YtojiffhknddleaaGreatDoorV30
import Derived.Test.YtojiffhknddleaaGreatDoorV31
namespace Go.Proofs.YtojiffhknddleaaGreatDoor
open Go.RowKit Go.Lib
set_option linter.unusedSimpArgs false
set_option linter.unusedVariables false
set_option linter.unusedSectionVars false
/-- A TREE OF HEIGHT h IS CHANGED. -/
abbrev ChangeOk (c : Cq) (r e : Int) (A : Asn) (key : Ky.Nm) (g : Nat) (cb : Array Value) (op : List Ky.En → List Ky.En) (P : List Ky.En → Prop) (d h : Nat) : Prop :=
  ∀ {lo hi : Tb.Bd} {id : Int} {es : List Ky.En} {L M : Tb.Pg} {cc dp : Nat} {F : Asn} {w : World} {R : Ending → World → Prop}, Tb.Sub h lo hi id es L cc → Tb.ge lo key → Tb.lt hi key → P es → dp + h < 24 → Sat (CtAt c r e (L ++ M) * (A * F)) w →
    (∀ x a1 n1 c1 a2 n2 c2 w', PartRes c r e (A * F) M (4 + ((L.length + M.length + h : Nat) : Int)) (fun kids keys L' c' => Tb.Done h lo hi cc d L kids keys (op es) L' c') x (.slice a1 n1 c1) (.slice a2 n2 c2) w' → Io w w' → R (.returned (.tuple #[.agg #[.slice a1 n1 c1, .slice a2 n2 c2], .int .i64 x])) w') →
    Calls Tryz.prog 70 #[.pointer (some ⟨c.tr, 0, none⟩), .int .i64 id, .int .i64 (dp : Int), .string key, .func (.func g) #[] cb] w R
theorem PartRes.more {c : Cq} {r e : Int} {F : Asn} {M : Tb.Pg} {B B' : Int} {D : List Int → List Ky.Nm → Tb.Pg → Nat → Prop} {x : Int} {u v : Value} {w : World} (h : PartRes c r e F M B D x u v w) (hb : B ≤ B') : PartRes c r e F M B' D x u v w := by
  rcases h with h | ⟨rfl, h1, H⟩
  · exact .inl h
  · exact .inr ⟨rfl, by omega, H⟩
theorem perm_kid {α : Type} {L L1 Lc L2 M : List α} {x : α} (p : L.Perm (x :: (L1 ++ (Lc ++ L2)))) : (L ++ M).Perm (Lc ++ (x :: (L1 ++ (L2 ++ M)))) := by
  refine (p.append_right M).trans ?_
  refine List.Perm.trans ?_ List.perm_middle.symm
  rw [List.cons_append]
  refine List.Perm.cons _ ?_
  rw [List.append_assoc, List.append_assoc]
  exact List.perm_append_comm_assoc L1 Lc _
theorem perm_store {α : Type} {L1 Lc L2 M : List α} {x : α} : (Lc ++ (x :: (L1 ++ (L2 ++ M)))).Perm (x :: ((L1 ++ (Lc ++ L2)) ++ M)) := by
  refine List.perm_middle.trans ?_
  refine List.Perm.cons _ ?_
  rw [List.append_assoc, List.append_assoc]
  exact List.perm_append_comm_assoc Lc L1 _
theorem perm_mid {α : Type} {L1 Lc L2 M : List α} {x : α} : (Lc ++ (x :: (L1 ++ (L2 ++ M)))).Perm ((L1 ++ (Lc ++ L2)) ++ (x :: M)) := by
  refine List.perm_middle.trans ?_
  refine List.Perm.trans ?_ List.perm_middle.symm
  refine List.Perm.cons _ ?_
  rw [List.append_assoc, List.append_assoc]
  exact List.perm_append_comm_assoc Lc L1 _
theorem ndV_form2 {F : Asn} {v : Value} {kk : List Int} {bb : List Ky.Nm} (hv : NdV F v (Ky.inn kk bb)) : ∃ a1 c1 a3 c3 a5 c5, v = .agg #[.bool false, .slice a1 0 c1, .slice a3 kk.length c3, .slice a5 bb.length c5] := ndV_form hv
theorem ndV_turn {F : Asn} {v : Value} {kk xx : List Int} {bb yy : List Ky.Nm} (h1 : kk = xx) (h2 : bb = yy) (h : NdV F v (Ky.inn xx yy)) : NdV F v (Ky.inn kk bb) := by
  subst h1 h2
  exact h
theorem ndV_form3 {F : Asn} {v : Value} {kk : List Int} {bb : List Ky.Nm} {m m' : Nat} (hv : NdV F v (Ky.inn kk bb)) (h1 : m = kk.length) (h2 : m' = bb.length) : ∃ a1 c1 a3 c3 a5 c5, v = .agg #[.bool false, .slice a1 0 c1, .slice a3 m c3, .slice a5 m' c5] := by
  subst h1 h2
  exact ndV_form hv
theorem rowOf_ln {α : Type} {enc : α → List Value} {sz : Nat} {e : TypeId} {a : Option Addr} {n c : Nat} {l : List α} {F : Asn} {w : World} (H : Sat (RowOf e sz enc (.slice a n c) l * F) w) : n = l.length := by
  obtain ⟨hx, ⟨h0, h1, _⟩ | ⟨g', cap, cur, e1, _⟩⟩ := sat_row.1 H
  · cases h0; exact h1.symm
  · cases e1; rfl
section
variable {c : Cq} {r e : Int} {A : Asn} {key : Ky.Nm} {g : Nat} {cb : Array Value} {op : List Ky.En → List Ky.En} {P : List Ky.En → Prop} {d h : Nat}
theorem change_zero (hk : c.k.n ≤ 3000) (eg : ∀ args w, (callFunc g args).run Tryz.prog w = .ok (.enter g args) w) (o : Tb.Loc op P key d) (hdo : DoesOp A g cb op P) : ChangeOk c r e A key g cb op P d 0 := by
  intro lo hi id es L M cc dp F w R s hlo hhi hp hd H h
  exact change_leaf s o hlo hhi hp (by omega) hk eg hdo H fun x a1 n1 c1 a2 n2 c2 w' D I => h x a1 n1 c1 a2 n2 c2 w' (D.more (by omega)) I
/-- What the kid's change leaves to do. -/
structure StepSt (c : Cq) (r e : Int) (lo hi : Tb.Bd) (h d : Nat) (id : Int) (L M : Tb.Pg) (K : List Int) (B : List Ky.Nm) (i : Nat) (es' : List Ky.En) (kids : List Int) (keys : List Ky.Nm) (K' : Tb.Pg) : Prop where
  mid : (kids = [] ∧ Tb.swK K i (i + 1) kids = [] ∧ Tb.swB B i (i + 1) kids keys = [] ∧ es' = [] ∧ K' = []) ∨ Tb.Mid h lo hi K.length d L (Tb.swK K i (i + 1) kids) (Tb.swB B i (i + 1) kids keys) es' K'
  few : kids.length ≤ 2 ∧ keys.length = kids.length - 1
set_option maxRecDepth 100000 in
set_option maxHeartbeats 16000000 in
theorem change_step (hk : c.k.n ≤ 3000) (o : Tb.Loc op P key d) (ih : ChangeOk c r e A key g cb op P d h) : ChangeOk c r e A key g cb op P d (h + 1) := by
  intro lo hi id es L M cc dp F w R s hlo hhi hp hd H hh
  have HH := Lib.hid hh
  obtain ⟨s1, s2, K, B, L', n, hz, ck, pm, hcc⟩ := s
  subst hcc
  have hir := Tb.node_inR n ck
  have hlen := n.len
  have hks := Tb.keysSize_low ck
  have hci : Tb.chd key B < K.length := by have := Tb.chd_le key B; omega
  obtain ⟨a, b, e1, ec, e2, L1, Lc, L2, g1, ⟨ccc, sc⟩, g2, qe, qL, ha, hb', hE1, hE2⟩ := Tb.child_at n hlo hhi hci
  obtain ⟨i, hic⟩ : ∃ i, i = Tb.chd key B := ⟨_, rfl⟩
  have hcj : i < K.length := by rw [hic]; exact hci
  have hkid : ∃ kid, K[i]'hcj = kid := ⟨_, rfl⟩
  obtain ⟨kid, hkid⟩ := hkid
  simp only [← hic] at g1 sc g2 hci
  rw [hkid] at sc
  have hab := sc.bounds.1
  have hright : Ky.Right es := (Tb.node_in (fun s => Tb.Sb.inn s) n).2.1
  subst qe qL
  have hop := o.loc e1 ec e2 hE1 hE2 hright
  have hpc := o.ploc e1 ec e2 hE1 hE2 hp
  have IH : Hid (ChangeOk c r e A key g cb op P d h) := Lib.hid ih
  have N1 : Hid ((id, Ky.inn K B) ∈ L ++ M) := Lib.hid (List.mem_append_left _ (by simp [pm.mem_iff]))
  have N2 := Lib.hid (Ky.NdR.inner hir)
  have N3 : Hid (Ky.ndSize (Ky.inn K B) ≤ 240) := Lib.hid hz
  have N4 := Lib.hid hir
  have HI := Lib.hid hic
  have HK := Lib.hid hkid
  have HKL : Hid (K.length ≤ 1000 ∧ B.length ≤ 1000 ∧ K.length = B.length + 1 ∧ i < K.length) := Lib.hid (by omega)
  have PK := Lib.hid (perm_kid (M := M) pm)
  have PM : Hid (∀ X : Tb.Pg, (X ++ ((id, Ky.inn K B) :: (L1 ++ (L2 ++ M)))).Perm ((L1 ++ (X ++ L2)) ++ ((id, Ky.inn K B) :: M))) := Lib.hid (fun X => perm_mid)
  have HC := Lib.hid (And.intro sc (And.intro ha (And.intro hb' hpc)))
  have HS : Hid (∀ kids keys Lc' c', Tb.Done h a b ccc d Lc kids keys (op ec) Lc' c' → StepSt c r e lo hi h d id L M K B i (op (e1 ++ (ec ++ e2))) kids keys (L1 ++ (Lc' ++ L2))) := Lib.hid (fun kids keys Lc' c' dn => by
    refine ⟨?_, ?_⟩
    · rw [hop]
      rcases Tb.mid_of (c := K.length) hci hlen rfl hz ck pm g1 g2 hab dn with ⟨q1, q2, q3, q4, q5⟩ | q
      · exact .inl ⟨q1, q4, q5, q2, q3⟩
      · exact .inr q
    · rcases dn.forms with ⟨rfl, rfl, _⟩ | ⟨k, rfl, rfl⟩ | ⟨k1, k2, y, rfl, rfl⟩ <;> simp)
  have HB : Hid (4 + ((Lc.length + ((id, Ky.inn K B) :: (L1 ++ (L2 ++ M))).length + h : Nat) : Int) ≤ 4 + ((L.length + M.length + (h + 1) : Nat) : Int) ∧ L.length = Lc.length + L1.length + L2.length + 1) := Lib.hid (by
    have := pm.length_eq
    simp only [List.length_cons, List.length_append] at this ⊢
    omega)
  have HID := Lib.hid s2
  have d1 : (dp : Int) < 24 := by omega
  obtain ⟨dn, hdn⟩ : ∃ dn : Nat, dn = dp + 1 := ⟨_, rfl⟩
  have d2 : (dp : Int) + 1 = (dn : Int) := by omega
  have d3 : (dn : Int) < 24 := by omega
  have HDN : Hid (dn + h < 24) := Lib.hid (by omega)
  have H1 := (H.new zP).of_eq (show _ = CtAt c r e (L ++ M) * (pts w.heap.size zP * (A * F)) from by ac_rfl)
  have I1 := (Io.refl w).alloc zP
  clear hh ih s1 s2 hz ck hir hlen hks g1 sc g2 ha hb' hE1 hE2 hic hkid hab hright hop hpc hp hlo hhi hd hdn n pm hci
  go_enter Tryz.func70, Tryz.ntmps70
  go_upto_region 1 with fail
  generalize w.alloc zP = w1 at *
  generalize hb : w.heap.size = b0 at *
  go_upto_region 2 with (go_at_call 90; with_reducible refine load_any N1.out N2.out N3.out d1 H1 ?_; intro G kv w2 NK H2 I2; have NK := Lib.hid NK; have SK := NK.out.shape; obtain ⟨b1, x1, y1, t1, x2, y2, t2, x3, y3, t3, hq⟩ := SK; subst hq)
  obtain ⟨a1, c1, b3, o3, c3, a5, c5, hq, hX, -⟩ := ndV_inn NK.out (by have := HKL.out; omega)
  cases hq
  have HX : Hid (∀ w, Sat G w → w.cell? ⟨b3, o3 + i, none⟩ = some (.int .i64 kid)) := Lib.hid (by rw [← HK.out]; exact hX i HKL.out.2.2.2)
  obtain ⟨n3, hn3⟩ : ∃ n, n = K.length := ⟨_, rfl⟩
  obtain ⟨n5, hn5⟩ : ∃ n, n = B.length := ⟨_, rfl⟩
  have HN := Lib.hid (And.intro hn3 hn5)
  rw [← hn3, ← hn5] at NK ⊢
  have i0 : (0 : Int) ≤ (i : Int) := by omega
  have i1 : (i : Int) < (n3 : Int) := by have := HKL.out; omega
  have i2 : (n3 : Int) ≤ 1000 := by have := HKL.out; omega
  clear hX hn3 hn5
  have H3 := (H2.new (.cells #[.bool false, .slice x1 0 t1, .slice (some ⟨b3, o3, none⟩) n3 t2, .slice x3 n5 t3] 140)).of_eq (show _ = CtAt c r e (L ++ M) * (pts w2.heap.size (.cells #[.bool false, .slice x1 0 t1, .slice (some ⟨b3, o3, none⟩) n3 t2, .slice x3 n5 t3] 140) * (pts b0 zP * (G * (A * F)))) from by ac_rfl)
  have I3 := (I1.trans I2).alloc (.cells #[.bool false, .slice x1 0 t1, .slice (some ⟨b3, o3, none⟩) n3 t2, .slice x3 n5 t3] 140)
  generalize w2.alloc (.cells #[.bool false, .slice x1 0 t1, .slice (some ⟨b3, o3, none⟩) n3 t2, .slice x3 n5 t3] 140) = w3 at *
  generalize w2.heap.size = gn at *
  clear H1 H2 I1 I2
  obtain ⟨u0, u1, u2, u3⟩ := nd4 H3.right
  go_upto_region 7 with (go_at_call 92; with_reducible refine child_any N4.out (NK.out.imp (fun _ hw => hw.right.right.right.left)) (by have := HKL.out; omega) key H3 HI ?_; intro w4 H4 I4)
  obtain ⟨u0, u1, u2, u3⟩ := nd4 H4.right
  have x0 := HX.out _ H4.right.right.right.left
  have H5 := (CtAt.perm PK.out H4).of_eq (show _ = CtAt c r e (Lc ++ ((id, Ky.inn K B) :: (L1 ++ (L2 ++ M)))) * (A * (pts gn (.cells #[.bool false, .slice x1 0 t1, .slice (some ⟨b3, o3, none⟩) n3 t2, .slice x3 n5 t3] 140) * (pts b0 zP * (G * F)))) from by ac_rfl)
  go_upto_region 8 with (go_at_call 70; with_reducible refine IH.out HC.out.1 HC.out.2.1 HC.out.2.2.1 HC.out.2.2.2 HDN.out H5 ?_; intro x a6 n6 c6 a7 n7 c7 w6 D6 I6; have D6 := Lib.hid D6)
  have I7 := (((I3.trans I4).trans I6).alloc (.cells #[.slice a6 n6 c6, .slice a7 n7 c7] 136))
  clear H3 H4 H5 I3 I4 I6 u0 u1 u2 u3 x0 i0 i1 i2
  rcases D6.out with ⟨rfl, kids, keys, Lc', c', D, H6⟩ | ⟨rfl, hf, H6⟩
  · have ST := Lib.hid (HS.out _ _ _ _ D)
    clear D6 D HC IH HX
    have H7 := (H6.new (.cells #[.slice a6 n6 c6, .slice a7 n7 c7] 136))
    have hkl := rowOf_ln H7.right
    have hyl := rowOf_ln H7.right.right
    have H8 := H7.of_eq (show _ = CtAt c r e (Lc' ++ ((id, Ky.inn K B) :: (L1 ++ (L2 ++ M)))) * (pts gn (.cells #[.bool false, .slice x1 0 t1, .slice (some ⟨b3, o3, none⟩) n3 t2, .slice x3 n5 t3] 140) * (pts w6.heap.size (.cells #[.slice a6 n6 c6, .slice a7 n7 c7] 136) * (RowNu (.slice a6 n6 c6) kids * (RowTx (.slice a7 n7 c7) keys * (G * (pts b0 zP * (A * F))))))) from by unfold RowNu RowTx; ac_rfl)
    have RD1 := Lib.hid (Reads.of_row (emp_r H7.right.left) (by have := ST.out.few; omega))
    have RD2 := Lib.hid (Reads.of_row (emp_r H7.right.right.left) (by have := ST.out.few; omega))
    have HKN := Lib.hid (And.intro hkl hyl)
    generalize w6.alloc (.cells #[.slice a6 n6 c6, .slice a7 n7 c7] 136) = w7 at *
    generalize w6.heap.size = gp at *
    clear H6 H7 hkl hyl
    obtain ⟨kk, hkk⟩ : ∃ kk, kk = Tb.swK K i (i + 1) kids := ⟨_, rfl⟩
    obtain ⟨bb, hbb⟩ : ∃ bb, bb = Tb.swB B i (i + 1) kids keys := ⟨_, rfl⟩
    have HM := ST.out.mid
    rw [← hkk, ← hbb] at HM
    have HM2 := Lib.hid (HM.imp (fun h => And.intro h.2.1 (And.intro h.2.2.2.1 h.2.2.2.2)) (fun h => h))
    have HM := Lib.hid HM
    have HF := Lib.hid ST.out.few
    obtain ⟨m, hm⟩ : ∃ m, m = kk.length := ⟨_, rfl⟩
    obtain ⟨m', hm'⟩ : ∃ m', m' = bb.length := ⟨_, rfl⟩
    have HMM := Lib.hid (And.intro hm hm')
    obtain ⟨it, hit⟩ : ∃ it : Nat, it = i + 1 := ⟨_, rfl⟩
    have e1i : (i : Int) + 1 = (it : Int) := by omega
    have b5 : (it : Int) ≤ 2000 := by have := HKL.out; omega
    have b6 : (i : Int) ≤ 2000 := by omega
    have HT := Lib.hid hit
    rw [← hit] at hkk hbb
    have HKK := Lib.hid (And.intro hkk hbb)
    obtain ⟨u0, u1, u2, u3⟩ := nd4 H8.right
    obtain ⟨p0, p1⟩ := nd2 H8.right.right
    clear ST hit hkk hbb hm hm'
    go_upto_region 11 with (go_at_call 98; (with_reducible refine swap_any (f := i) (t := it) HKL.out.2.2.1 (by have := HKL.out; omega) (by have := HT.out; omega) (by have := HT.out; have := HKL.out; omega) (RD1.out.imp (fun _ hw => emp_r hw.right.right.right.left)) (RD2.out.imp (fun _ hw => emp_r hw.right.right.right.right.left)) HF.out.2 (by have := HF.out; omega) (by have := HF.out; omega) (NK.out.imp (fun _ hw => hw.right.right.right.right.right.left)) H8 ?_); intro G8 v8 w8 N8 H9 I9; have N8 : Hid (NdV G8 v8 (Ky.inn kk bb)) := Lib.hid (ndV_turn HKK.out.1 HKK.out.2 N8); have N9 := ndV_form3 N8.out HMM.out.1 HMM.out.2; obtain ⟨g1, k1, g2, k2, g3, k3, hq⟩ := N9; subst hq; obtain ⟨m0, m1, m2, m3⟩ := nd4 H9.right.right; obtain ⟨f0, f1, f2, f3⟩ := nd4f H9.right.right)
    -- behind Swap
    have K10 := ((H9.of_eq (show _ = (pts gn (.cells #[.bool false, .slice x1 0 t1, .slice (some ⟨b3, o3, none⟩) n3 t2, .slice x3 n5 t3] 140) * (CtAt c r e (Lc' ++ ((id, Ky.inn K B) :: (L1 ++ (L2 ++ M)))) * (pts gp (.cells #[.slice a6 n6 c6, .slice a7 n7 c7] 136) * (G8 * (pts b0 zP * (A * F)))))) * (RowNu (.slice a6 n6 c6) kids * (RowTx (.slice a7 n7 c7) keys * G)) from by unfold RowNu RowTx; ac_rfl)).left).cells4 (x' := .bool false) (y' := .slice g1 0 k1) (z' := .slice g2 m k2) (u' := .slice g3 m' k3)
    have J10 := (((((I7.trans I9).setCell ⟨gn, 0, none⟩ (.bool false)).setCell ⟨gn, 1, none⟩ (.slice g1 0 k1)).setCell ⟨gn, 2, none⟩ (.slice g2 m k2)).setCell ⟨gn, 3, none⟩ (.slice g3 m' k3))
    generalize (((w8.setCell ⟨gn, 0, none⟩ (.bool false)).setCell ⟨gn, 1, none⟩ (.slice g1 0 k1)).setCell ⟨gn, 2, none⟩ (.slice g2 m k2)).setCell ⟨gn, 3, none⟩ (.slice g3 m' k3) = W8 at *
    have K10 := K10.of_eq (show _ = CtAt c r e (Lc' ++ ((id, Ky.inn K B) :: (L1 ++ (L2 ++ M)))) * (pts gn (.cells #[.bool false, .slice g1 0 k1, .slice g2 m k2, .slice g3 m' k3] 140) * (pts gp (.cells #[.slice a6 n6 c6, .slice a7 n7 c7] 136) * (G8 * (pts b0 zP * (A * F))))) from by ac_rfl)
    clear H8 H9 I7 I9 m0 m1 m2 m3 f0 f1 f2 f3 u0 u1 u2 u3 p0 p1
    obtain ⟨u0, u1, u2, u3⟩ := nd4 K10.right
    obtain ⟨p0, p1⟩ := nd2 K10.right.right
    have KS := (CtAt.perm perm_store K10).of_eq (show _ = CtAt c r e ((id, Ky.inn K B) :: ((L1 ++ (Lc' ++ L2)) ++ M)) * ((pts b0 zP * (pts gp (.cells #[.slice a6 n6 c6, .slice a7 n7 c7] 136) * (pts gn (.cells #[.bool false, .slice g1 0 k1, .slice g2 m k2, .slice g3 m' k3] 140) * G8))) * (A * F)) from by ac_rfl)
    by_cases q1 : n6 = 1
    · by_cases q2 : 1 < m
      · have q3 : (1 : Int) < (m : Int) := by omega
        have q4 : ((n6 : Int) == 1) = true := beq_iff_eq.2 (by omega)
        have h6 : kids.length = 1 := by have := HKN.out.1; omega
        have MI : Hid (Tb.Mid h lo hi K.length d L kk bb (op (e1 ++ (ec ++ e2))) (L1 ++ (Lc' ++ L2))) := Lib.hid (by
          rcases HM.out with ⟨e, _⟩ | mm
          · rw [e] at h6; cases h6
          · exact mm)
        have IK : Hid (i < kk.length ∧ 2 ≤ kk.length) := Lib.hid (by
          have e := HKK.out.1
          have e2 := Tb.swK_len K i it kids (by have := HT.out; omega) (by have := HT.out; have := HKL.out; omega)
          rw [← e] at e2
          have := HKL.out
          have := HT.out
          have := HMM.out.1
          omega)
        have KF := CtAt.perm (PM.out Lc') K10
        clear KS K10 h6
        go_upto_region 13 with (go_at_call 99; (with_reducible refine fill_any (F1 := G8) (fun _ hw => hw.right.right.left) (Rest := (id, Ky.inn K B) :: M) MI.out IK.out.2 IK.out.1 d3 hk N8.out KF ?_); intro G7 v7 kk' bb' K'' w7 M7 N7 H12 I12; have N7 := Lib.hid N7; have M7 := Lib.hid M7; have N6 := ndV_form2 N7.out; obtain ⟨g4, k4, g5, k5, g6, k6, hq⟩ := N6; subst hq; obtain ⟨m0, m1, m2, m3⟩ := nd4 H12.right.right; obtain ⟨f0, f1, f2, f3⟩ := nd4f H12.right.right)
        have K13 := ((CtAt.perm List.perm_middle H12).of_eq (show _ = pts gn (.cells #[.bool false, .slice g1 0 k1, .slice g2 m k2, .slice g3 m' k3] 140) * (CtAt c r e ((id, Ky.inn K B) :: (K'' ++ M)) * ((pts gp (.cells #[.slice a6 n6 c6, .slice a7 n7 c7] 136) * (pts b0 zP * (A * F))) * (G7 * G8))) from by ac_rfl)).cells4 (x' := .bool false) (y' := .slice g4 0 k4) (z' := .slice g5 kk'.length k5) (u' := .slice g6 bb'.length k6)
        have J13 := ((((J10.trans I12).setCell ⟨gn, 0, none⟩ (.bool false)).setCell ⟨gn, 1, none⟩ (.slice g4 0 k4)).setCell ⟨gn, 2, none⟩ (.slice g5 kk'.length k5)).setCell ⟨gn, 3, none⟩ (.slice g6 bb'.length k6)
        generalize ((((w7.setCell ⟨gn, 0, none⟩ (.bool false)).setCell ⟨gn, 1, none⟩ (.slice g4 0 k4)).setCell ⟨gn, 2, none⟩ (.slice g5 kk'.length k5)).setCell ⟨gn, 3, none⟩ (.slice g6 bb'.length k6)) = W7 at *
        clear m0 m1 m2 m3 f0 f1 f2 f3 u0 u1 u2 u3 p0 p1 KF H12 I12 q3 q4
        have KT := K13.of_eq (show _ = CtAt c r e ((id, Ky.inn K B) :: (K'' ++ M)) * ((pts b0 zP * (pts gp (.cells #[.slice a6 n6 c6, .slice a7 n7 c7] 136) * (pts gn (.cells #[.bool false, .slice g4 0 k4, .slice g5 kk'.length k5, .slice g6 bb'.length k6] 140) * (G7 * G8)))) * (A * F)) from by ac_rfl)
        obtain ⟨u0, u1, u2, u3⟩ := nd4 K13
        go_wp2_with (go_at_call 69; (with_reducible refine store_mid (L := L) (M := M) (.inr M7.out) HID.out hk (N7.out.imp (fun _ hw => hw.left.right.right.right)) KT ?_); intro x a1 n1 c1 a2 n2 c2 w9 D9 I9; have D9 := Lib.hid D9; have D8 := D9.out.frame; obtain ⟨Y, H11, hY⟩ := D8; have HY := Lib.hid hY; clear hY D9; have K11 := (H11.of_eq (show _ = (pts b0 zP * (Y * (A * F))) * (pts gp (.cells #[.slice a6 n6 c6, .slice a7 n7 c7] 136) * (pts gn (.cells #[.bool false, .slice g4 0 k4, .slice g5 kk'.length k5, .slice g6 bb'.length k6] 140) * (G7 * G8))) from by ac_rfl)).left; obtain ⟨y0, y1⟩ := nd2 K11; obtain ⟨z0, z1⟩ := nd2f K11)
        have K := K11.cells2 (x' := .slice a1 n1 c1) (y' := .slice a2 n2 c2)
        have J := ((J13.trans I9).setCell ⟨b0, 0, none⟩ (.slice a1 n1 c1)).setCell ⟨b0, 1, none⟩ (.slice a2 n2 c2)
        generalize (w9.setCell ⟨b0, 0, none⟩ (.slice a1 n1 c1)).setCell ⟨b0, 1, none⟩ (.slice a2 n2 c2) = W9 at *
        clear y0 y1 z0 z1
        obtain ⟨y0, y1⟩ := nd2 K
        exact bodyPost_ret (v := .tuple #[.agg #[.slice a1 n1 c1, .slice a2 n2 c2], .int .i64 x]) (by simp [results, Tryz.results70, go_sem, y0, y1]) rfl (HH.out _ _ _ _ _ _ _ W9 ((HY.out _ K.right).more (by omega)) J)
      · have q3 : decide ((1 : Int) < (m : Int)) = false := decide_eq_false (by omega)
        have q4 : ((n6 : Int) == 1) = true := beq_iff_eq.2 (by omega)
        go_wp2_with (go_at_call 69; (with_reducible refine store_mid (L := L) (M := M) HM2.out HID.out hk (N8.out.imp (fun _ hw => hw.left.right.right.right)) KS ?_); intro x a1 n1 c1 a2 n2 c2 w9 D9 I9; have D9 := Lib.hid D9; have D8 := D9.out.frame; obtain ⟨Y, H11, hY⟩ := D8; have HY := Lib.hid hY; clear hY D9; have K11 := (H11.of_eq (show _ = (pts b0 zP * (Y * (A * F))) * (pts gp (.cells #[.slice a6 n6 c6, .slice a7 n7 c7] 136) * (pts gn (.cells #[.bool false, .slice g1 0 k1, .slice g2 m k2, .slice g3 m' k3] 140) * G8)) from by ac_rfl)).left; obtain ⟨y0, y1⟩ := nd2 K11; obtain ⟨z0, z1⟩ := nd2f K11)
        have K := K11.cells2 (x' := .slice a1 n1 c1) (y' := .slice a2 n2 c2)
        have J := ((J10.trans I9).setCell ⟨b0, 0, none⟩ (.slice a1 n1 c1)).setCell ⟨b0, 1, none⟩ (.slice a2 n2 c2)
        generalize (w9.setCell ⟨b0, 0, none⟩ (.slice a1 n1 c1)).setCell ⟨b0, 1, none⟩ (.slice a2 n2 c2) = W9 at *
        clear y0 y1 z0 z1
        obtain ⟨y0, y1⟩ := nd2 K
        exact bodyPost_ret (v := .tuple #[.agg #[.slice a1 n1 c1, .slice a2 n2 c2], .int .i64 x]) (by simp [results, Tryz.results70, go_sem, y0, y1]) rfl (HH.out _ _ _ _ _ _ _ W9 ((HY.out _ K.right).more (by omega)) J)
    · have q3 : ((n6 : Int) == 1) = false := beq_eq_false_iff_ne.2 (by omega)
      go_wp2_with (go_at_call 69; (with_reducible refine store_mid (L := L) (M := M) HM2.out HID.out hk (N8.out.imp (fun _ hw => hw.left.right.right.right)) KS ?_); intro x a1 n1 c1 a2 n2 c2 w9 D9 I9; have D9 := Lib.hid D9; have D8 := D9.out.frame; obtain ⟨Y, H11, hY⟩ := D8; have HY := Lib.hid hY; clear hY D9; have K11 := (H11.of_eq (show _ = (pts b0 zP * (Y * (A * F))) * (pts gp (.cells #[.slice a6 n6 c6, .slice a7 n7 c7] 136) * (pts gn (.cells #[.bool false, .slice g1 0 k1, .slice g2 m k2, .slice g3 m' k3] 140) * G8)) from by ac_rfl)).left; obtain ⟨y0, y1⟩ := nd2 K11; obtain ⟨z0, z1⟩ := nd2f K11)
      have K := K11.cells2 (x' := .slice a1 n1 c1) (y' := .slice a2 n2 c2)
      have J := ((J10.trans I9).setCell ⟨b0, 0, none⟩ (.slice a1 n1 c1)).setCell ⟨b0, 1, none⟩ (.slice a2 n2 c2)
      generalize (w9.setCell ⟨b0, 0, none⟩ (.slice a1 n1 c1)).setCell ⟨b0, 1, none⟩ (.slice a2 n2 c2) = W9 at *
      clear y0 y1 z0 z1
      obtain ⟨y0, y1⟩ := nd2 K
      exact bodyPost_ret (v := .tuple #[.agg #[.slice a1 n1 c1, .slice a2 n2 c2], .int .i64 x]) (by simp [results, Tryz.results70, go_sem, y0, y1]) rfl (HH.out _ _ _ _ _ _ _ W9 ((HY.out _ K.right).more (by omega)) J)
  · clear D6
    have H7 := ((H6.new (.cells #[.slice a6 n6 c6, .slice a7 n7 c7] 136)).of_eq (show _ = pts b0 zP * (CtCell c r e * (A * F)) * (pts w6.heap.size (.cells #[.slice a6 n6 c6, .slice a7 n7 c7] 136) * (pts gn (.cells #[.bool false, .slice x1 0 t1, .slice (some ⟨b3, o3, none⟩) n3 t2, .slice x3 n5 t3] 140) * G)) from by ac_rfl)).left
    obtain ⟨y0, y1⟩ := nd2 H7
    obtain ⟨f0, f1⟩ := nd2f H7
    have K7 := H7.cells2 (x' := .slice none 0 0) (y' := .slice none 0 0)
    have J7 := (I7.setCell ⟨b0, 0, none⟩ (.slice none 0 0)).setCell ⟨b0, 1, none⟩ (.slice none 0 0)
    go_wp2_with fail
    generalize ((w6.alloc (.cells #[.slice a6 n6 c6, .slice a7 n7 c7] 136)).setCell ⟨b0, 0, none⟩ (.slice none 0 0)).setCell ⟨b0, 1, none⟩ (.slice none 0 0) = W at *
    clear y0 y1 f0 f1
    obtain ⟨y0, y1⟩ := nd2 K7
    exact bodyPost_ret (v := .tuple #[.agg #[.slice none 0 0, .slice none 0 0], .int .i64 2]) (by simp [results, Tryz.results70, go_sem, y0, y1]) rfl (HH.out 2 _ _ _ _ _ _ W (.inr ⟨rfl, by have := HB.out; omega, K7.right⟩) J7)
/-- A TREE IS CHANGED AT ONE KEY. -/
theorem change_any (hk : c.k.n ≤ 3000) (eg : ∀ args w, (callFunc g args).run Tryz.prog w = .ok (.enter g args) w) (o : Tb.Loc op P key d) (hdo : DoesOp A g cb op P) : ∀ h, ChangeOk c r e A key g cb op P d h
  | 0 => change_zero hk eg o hdo
  | h + 1 => change_step hk o (change_any hk eg o hdo h)
end
end Go.Proofs.YtojiffhknddleaaGreatDoor

/-
  cowtree's shrink, by a walk. It proves no statement by itself.
-/
namespace Go.Proofs.YtojiffhknddleaaGreatDoor
open Go.RowKit Go.Lib
set_option linter.unusedSimpArgs false
set_option linter.unusedVariables false
set_option linter.unusedSectionVars false
section
variable {c : Cq} {r e : Int} {F : Asn} {w : World} {R : Ending → World → Prop}
set_option maxRecDepth 100000 in
set_option maxHeartbeats 16000000 in
/-- ROOTS WITH ONE KID ALONE GIVE WAY. -/
theorem shrink_any {h g cc : Nat} {id : Int} {es : List Ky.En} {L : Tb.Pg} (s : Tb.Sub h none none id es L cc) (hg : 11 * h + min cc 12 ≤ 12 + g) (hh : h < 24) (hk : c.k.n ≤ 3000) (H : Sat (CtAt c r e L * F) w)
    (hR : ∀ id' L' h' c' w', Tb.Sub h' none none id' es L' c' → 11 * h' + min c' 12 ≤ 12 + g → Tb.psi L' = Tb.psi L → Sat (CtAt c r e L' * F) w' → Io w w' → R (.returned (.tuple #[.int .i64 id', .int .i64 0])) w') :
    Calls Tryz.prog 100 #[.pointer (some ⟨c.tr, 0, none⟩), .int .i64 id] w R := by
  have HH := Lib.hid hR
  have HS : Hid (∃ h0 c0, Tb.Sub h0 none none id es L c0 ∧ 11 * h0 + min c0 12 ≤ 12 + g ∧ 0 + h0 < 24) := Lib.hid ⟨h, cc, s, hg, by omega⟩
  clear hR s hg hh
  go_enter Tryz.func100, Tryz.ntmps100
  go_wp2_with fail
  go_loopw [1, 6] (fun x y wr => ∃ (id0 : Int) (dp : Nat) (L0 : Tb.Pg), x = .int .i64 id0 ∧ y = .int .i64 (dp : Int) ∧ dp ≤ 24 ∧ Hid (∃ h0 c0, Tb.Sub h0 none none id0 es L0 c0 ∧ 11 * h0 + min c0 12 ≤ 12 + g ∧ dp + h0 < 24 ∧ Tb.psi L0 = Tb.psi L) ∧ Sat (CtAt c r e L0 * F) wr ∧ Io w wr) (fun _ y _ => 24 - (RowKit.intOf y).toNat)
  case atStart => exact ⟨id, 0, L, rfl, rfl, by omega, Lib.hid (by obtain ⟨h0, c0, q1, q2, q3⟩ := HS.out; exact ⟨h0, c0, q1, q2, by omega, rfl⟩), H, Io.refl _⟩
  case round =>
    obtain ⟨id0, dp, L0, rfl, rfl, hdp, HS2, Hk, Ik⟩ := hrel
    clear H HS
    obtain ⟨h0, c0, q1, q2, q3, q4⟩ := HS2.out
    have d1 : (dp : Int) < 24 := by omega
    have hid := q1.bounds.2
    rcases q1.root_page with ⟨rfl, rfl, rfl, z1, z2⟩ | ⟨h1, K, B, L1, rfl, n, z1, z2, z3, rfl⟩
    · have N1 : Hid ((id0, Ky.lf es) ∈ [(id0, Ky.lf es)]) := Lib.hid (by simp)
      have N2 := Lib.hid (Ky.NdR.leaf z1)
      have N3 : Hid (Ky.ndSize (Ky.lf es) ≤ 240) := Lib.hid z2
      have Q := Lib.hid (And.intro q1 (And.intro q2 q4))
      clear q1 q2 q3 q4 hid z1 z2 HS2
      go_upto_region 4 with (go_at_call 90; (with_reducible refine load_any N1.out N2.out N3.out d1 Hk ?_); intro G kv w2 NK H2 I2; have NK := Lib.hid NK; have SK := NK.out.shape; obtain ⟨b1, x1, y1, t1, x2, y2, t2, x3, y3, t3, hq⟩ := SK; subst hq)
      obtain ⟨rfl, -, -⟩ := ndV_leaf NK.out
      have H3 := (H2.new (.cells #[.bool true, .slice x1 y1 t1, .slice x2 y2 t2, .slice x3 y3 t3] 140))
      have I3 := (Ik.trans I2).alloc (.cells #[.bool true, .slice x1 y1 t1, .slice x2 y2 t2, .slice x3 y3 t3] 140)
      generalize w2.alloc (.cells #[.bool true, .slice x1 y1 t1, .slice x2 y2 t2, .slice x3 y3 t3] 140) = w3 at *
      generalize w2.heap.size = gn at *
      obtain ⟨u0, u1, u2, u3⟩ := nd4 H3
      go_wp2_with fail
      exact HH.out id0 _ 0 12 _ Q.out.1 Q.out.2.1 Q.out.2.2 H3.right.right I3
    · have N1 : Hid ((id0, Ky.inn K B) ∈ L0) := Lib.hid (by simp [z3.mem_iff])
      have hlen := n.len
      have N2 := Lib.hid (Ky.NdR.inner (Tb.node_inR n z2))
      have N3 : Hid (Ky.ndSize (Ky.inn K B) ≤ 240) := Lib.hid z1
      obtain ⟨n3, hn3⟩ : ∃ n, n = K.length := ⟨_, rfl⟩
      obtain ⟨n5, hn5⟩ : ∃ n, n = B.length := ⟨_, rfl⟩
      have HN := Lib.hid (And.intro hn3 hn5)
      have hpos : 0 < K.length := by omega
      by_cases h1k : K.length = 1
      · have Q : Hid (∃ L' c', L0.Perm ((id0, Ky.inn K B) :: L') ∧ Tb.Sub h1 none none (K[0]'hpos) es L' c' ∧ 11 * h1 + min c' 12 ≤ 12 + g ∧ dp + 1 + h1 < 24 ∧ Tb.psi L' = Tb.psi L) := Lib.hid (by
          rw [h1k] at q1 q2
          obtain ⟨k0, hK⟩ := List.length_eq_one_iff.1 h1k
          have hB : B = [] := List.eq_nil_of_length_eq_zero (by omega)
          subst hK hB
          obtain ⟨s0, r0⟩ := n
          cases r0
          obtain ⟨c1, s0⟩ := s0
          refine ⟨_, c1, z3, by simpa using s0, by omega, by omega, ?_⟩
          rw [← q4, Tb.psi_perm z3]
          simp [Tb.psi, Tb.wt, Ky.inn])
        have i1 : ¬ (1 : Int) < (n3 : Int) := by omega
        have i2 : decide ((1 : Int) < (n3 : Int)) = false := decide_eq_false i1
        have i3 : (0 : Int) < (n3 : Int) := by omega
        have HPOS := Lib.hid hpos
        clear q1 q2 q3 q4 hid n z1 z2 hlen HS2 hn3 hn5
        go_upto_region 4 with (go_at_call 90; (with_reducible refine load_any N1.out N2.out N3.out d1 Hk ?_); intro G kv w2 NK H2 I2; have NK := Lib.hid NK; have SK := NK.out.shape; obtain ⟨b1, x1, y1, t1, x2, y2, t2, x3, y3, t3, hq⟩ := SK; subst hq)
        obtain ⟨a1, c1, b3, o3, c3, a5, c5, hq, hX, -⟩ := ndV_inn NK.out HPOS.out
        cases hq
        have hx0 := hX 0 HPOS.out
        simp only [Nat.add_zero] at hx0
        rw [← HN.out.1, ← HN.out.2]
        have H3 := (H2.new (.cells #[.bool false, .slice x1 0 t1, .slice (some ⟨b3, o3, none⟩) n3 t2, .slice x3 n5 t3] 140)).of_eq (show _ = CtAt c r e L0 * (pts w2.heap.size (.cells #[.bool false, .slice x1 0 t1, .slice (some ⟨b3, o3, none⟩) n3 t2, .slice x3 n5 t3] 140) * (G * F)) from by ac_rfl)
        have I3 := (Ik.trans I2).alloc (.cells #[.bool false, .slice x1 0 t1, .slice (some ⟨b3, o3, none⟩) n3 t2, .slice x3 n5 t3] 140)
        generalize w2.alloc (.cells #[.bool false, .slice x1 0 t1, .slice (some ⟨b3, o3, none⟩) n3 t2, .slice x3 n5 t3] 140) = w3 at *
        generalize w2.heap.size = gn at *
        obtain ⟨kid, hkid⟩ : ∃ kid, K[0]'HPOS.out = kid := ⟨_, rfl⟩
        rw [hkid] at hx0 Q
        have HX := Lib.hid hx0
        obtain ⟨L', c', p1, p2, p3, p4, p5⟩ := Q.out
        have QQ := Lib.hid (And.intro p2 (And.intro p3 (And.intro p4 p5)))
        have H4 := CtAt.perm p1 H3
        obtain ⟨u0, u1, u2, u3⟩ := nd4 H4.right
        obtain ⟨v0, v1, v2⟩ := CtAt.cells H4
        clear H2 I2 H3 hX hx0 Q p2 p3 p4 p5 Hk Ik hkid
        go_wp2_with (go_at_call 94; (with_reducible refine drop_page hk H4 ?_); intro w4 H5 I4; obtain ⟨u0, u1, u2, u3⟩ := nd4 H5.right; have x0 := HX.out _ H5.right.right.left)
        go_roundw
        case rel => exact ⟨kid, dp + 1, L', rfl, by go_num, by omega, Lib.hid ⟨h1, c', QQ.out.1, QQ.out.2.1, QQ.out.2.2.1, QQ.out.2.2.2⟩, (H5.of_eq (show _ = (CtAt c r e L' * F) * (pts gn (.cells #[.bool false, .slice x1 0 t1, .slice (some ⟨b3, o3, none⟩) n3 t2, .slice x3 n5 t3] 140) * G) from by ac_rfl)).left, I3.trans I4⟩
        case measure => simp [RowKit.intOf]; omega
      · have i1 : (1 : Int) < (n3 : Int) := by omega
        have Q := Lib.hid (And.intro q1 (And.intro q2 q4))
        have HPOS := Lib.hid hpos
        clear q1 q2 q3 q4 hid n z1 z2 hlen HS2 hn3 hn5 z3
        go_upto_region 4 with (go_at_call 90; (with_reducible refine load_any N1.out N2.out N3.out d1 Hk ?_); intro G kv w2 NK H2 I2; have NK := Lib.hid NK; have SK := NK.out.shape; obtain ⟨b1, x1, y1, t1, x2, y2, t2, x3, y3, t3, hq⟩ := SK; subst hq)
        obtain ⟨a1, c1, b3, o3, c3, a5, c5, hq, hX, -⟩ := ndV_inn NK.out HPOS.out
        cases hq
        rw [← HN.out.1, ← HN.out.2]
        have H3 := (H2.new (.cells #[.bool false, .slice x1 0 t1, .slice (some ⟨b3, o3, none⟩) n3 t2, .slice x3 n5 t3] 140)).of_eq (show _ = CtAt c r e L0 * (pts w2.heap.size (.cells #[.bool false, .slice x1 0 t1, .slice (some ⟨b3, o3, none⟩) n3 t2, .slice x3 n5 t3] 140) * (G * F)) from by ac_rfl)
        have I3 := (Ik.trans I2).alloc (.cells #[.bool false, .slice x1 0 t1, .slice (some ⟨b3, o3, none⟩) n3 t2, .slice x3 n5 t3] 140)
        generalize w2.alloc (.cells #[.bool false, .slice x1 0 t1, .slice (some ⟨b3, o3, none⟩) n3 t2, .slice x3 n5 t3] 140) = w3 at *
        generalize w2.heap.size = gn at *
        obtain ⟨u0, u1, u2, u3⟩ := nd4 H3.right
        clear hX
        go_wp2_with fail
        exact HH.out id0 _ _ _ _ Q.out.1 Q.out.2.1 Q.out.2.2 (H3.of_eq (show _ = (CtAt c r e L0 * F) * (pts gn (.cells #[.bool false, .slice x1 0 t1, .slice (some ⟨b3, o3, none⟩) n3 t2, .slice x3 n5 t3] 140) * G) from by ac_rfl)).left I3
end
end Go.Proofs.YtojiffhknddleaaGreatDoor

/-
  cowtree's grow, by a walk. It proves no statement by itself.
-/
namespace Go.Proofs.YtojiffhknddleaaGreatDoor
open Go.RowKit Go.Lib
set_option linter.unusedSimpArgs false
set_option linter.unusedVariables false
set_option linter.unusedSectionVars false
theorem ndV_kids {u v : Value} {kids : List Int} {keys : List Ky.Nm} {F : Asn} {w : World} (H : Sat (RowNu u kids * (RowTx v keys * F)) w) (h1 : kids.length ≤ 5000) (h2 : keys.length ≤ 5000) : NdV (RowNu u kids * (RowTx v keys * emp)) (.agg #[.bool false, .slice none 0 0, u, v]) (Ky.inn kids keys) :=
  ⟨_, _, _, rfl, ⟨reads_none _ none 0, nil_ok⟩, ⟨(Reads.of_row (emp_r H.left) (by omega)).imp (fun _ hw => emp_r hw.left), slOk_row H⟩, (Reads.of_row (emp_r H.right.left) (by omega)).imp (fun _ hw => hw.right), slOk_row H.right⟩
theorem sat_nv {A B C F : Asn} {w : World} (h : Sat (A * (B * (C * F))) w) : Sat (B * (C * emp)) w := by
  rw [emp_star]
  exact (h.right.of_eq (show _ = (B * C) * F from by ac_rfl)).left
section
variable {c : Cq} {r e : Int} {F : Asn} {w : World} {R : Ending → World → Prop}
/-- What comes of it: a tree, or no page is left. -/
def Grown (c : Cq) (r e : Int) (F : Asn) (es : List Ky.En) (g q : Nat) (B : Int) (root x : Int) (w : World) : Prop :=
  (x = 0 ∧ ∃ L, Tb.Tree root es L g ∧ Tb.psi L = q ∧ Sat (CtAt c r e L * F) w) ∨ (x = 2 ∧ c.k.room ≤ B ∧ Sat (CtCell c r e * F) w)
set_option maxRecDepth 100000 in
set_option maxHeartbeats 16000000 in
theorem grow_none {u v : Value} {L : Tb.Pg} (H : Sat (RowNu u [] * (RowTx v [] * (CtAt c r e L * F))) w)
    (hR : ∀ w', Sat (CtAt c r e L * F) w' → Io w w' → R (.returned (.tuple #[.int .i64 0, .int .i64 0])) w') :
    Calls Tryz.prog 71 #[.pointer (some ⟨c.tr, 0, none⟩), .agg #[u, v]] w R := by
  have HH := Lib.hid hR
  obtain ⟨a1, n1, c1, rfl⟩ := rowOf_form3 H
  obtain ⟨a2, n2, c2, rfl⟩ := rowOf_form3 H.right
  obtain rfl : n1 = 0 := rowOf_ln H
  obtain rfl : n2 = 0 := rowOf_ln H.right
  have H1 := (H.new (.cells #[.slice a1 0 c1, .slice a2 0 c2] 136))
  have I1 := (Io.refl w).alloc (.cells #[.slice a1 0 c1, .slice a2 0 c2] 136)
  clear hR
  go_enter Tryz.func71, Tryz.ntmps71
  obtain ⟨u0, u1⟩ := nd2 H1
  go_wp2_with fail
  refine wp_loop_rounds 1 ?_
  rw [rounds_succ]
  go_wp2_with fail
  exact HH.out _ H1.right.right.right I1
set_option maxRecDepth 100000 in
set_option maxHeartbeats 16000000 in
theorem grow_one {h g cc k : Nat} {id : Int} {u v : Value} {es : List Ky.En} {L : Tb.Pg} (s : Tb.Sub h none none id es L cc) (hg : 11 * h + min cc 12 ≤ 12 + g) (hh : h < 24) (hk : c.k.n ≤ 3000) (H : Sat (RowNu u [id] * (RowTx v [] * (CtAt c r e L * F))) w)
    (hR : ∀ id' L' w', Tb.Tree id' es L' g → Tb.psi L' = Tb.psi L → Sat (CtAt c r e L' * F) w' → Io w w' → R (.returned (.tuple #[.int .i64 id', .int .i64 0])) w') :
    Calls Tryz.prog 71 #[.pointer (some ⟨c.tr, 0, none⟩), .agg #[u, v]] w R := by
  have HH := Lib.hid hR
  have Q := Lib.hid (And.intro s (And.intro hg hh))
  obtain ⟨a2, n2, c2, rfl⟩ := rowOf_form3 H.right
  obtain ⟨b1, c1, rfl⟩ := rowOf_shape_ne (by simp) H
  obtain rfl : n2 = 0 := rowOf_ln H.right
  have hx := rowOf_read2 encNu_ok H 0 (by simp) 0 (by omega) (.int .i64 id) rfl
  simp only [Nat.mul_one, Nat.add_zero, Nat.zero_mul] at hx
  simp only [List.length_singleton] at H hx ⊢
  have H1 := (H.new (.cells #[.slice (some ⟨b1, 0, none⟩) 1 c1, .slice a2 0 c2] 136))
  have I1 := (Io.refl w).alloc (.cells #[.slice (some ⟨b1, 0, none⟩) 1 c1, .slice a2 0 c2] 136)
  have hx1 := rowOf_read2 encNu_ok H1.right 0 (by simp) 0 (by omega) (.int .i64 id) rfl
  simp only [Nat.mul_one, Nat.add_zero, Nat.zero_mul] at hx1
  clear hR s hg hh hx
  go_enter Tryz.func71, Tryz.ntmps71
  obtain ⟨u0, u1⟩ := nd2 H1
  have H2 := (H1.of_eq (show _ = (CtAt c r e L * F) * (pts w.heap.size (.cells #[.slice (some ⟨b1, 0, none⟩) 1 c1, .slice a2 0 c2] 136) * (RowNu (.slice (some ⟨b1, 0, none⟩) 1 c1) [id] * RowTx (.slice a2 0 c2) [])) from by unfold RowNu RowTx; ac_rfl)).left
  go_wp2_with fail
  refine wp_loop_rounds 1 ?_
  rw [rounds_succ]
  go_wp2_with (go_at_call 100; (with_reducible refine shrink_any Q.out.1 Q.out.2.1 Q.out.2.2 hk H2 ?_); intro id' L' h' c' w2 q1 q2 q3 H3 I3; have Q3 := Lib.hid (And.intro q1 (And.intro q2 q3)))
  exact HH.out id' L' w2 (.inr ⟨h', c', Q3.out.1, Q3.out.2.1⟩) Q3.out.2.2 H3 (I1.trans I3)
set_option maxRecDepth 100000 in
set_option maxHeartbeats 16000000 in
theorem grow_two {h g cc d : Nat} {L0 L : Tb.Pg} {k1 k2 : Int} {y : Ky.Nm} {u v : Value} {es : List Ky.En} {c' : Nat} (p : Tb.Done h none none cc d L0 [k1, k2] [y] es L c') (hg : 11 * h + min cc 12 ≤ 12 + g) (hh : h < 23) (hk : c.k.n ≤ 3000) (H : Sat (RowNu u [k1, k2] * (RowTx v [y] * (CtAt c r e L * F))) w)
    (hR : ∀ id' x w', Grown c r e F es (g + min d 1) (Tb.psi L) (2 + (L.length : Int)) id' x w' → Io w w' → R (.returned (.tuple #[.int .i64 id', .int .i64 x])) w') :
    Calls Tryz.prog 71 #[.pointer (some ⟨c.tr, 0, none⟩), .agg #[u, v]] w R := by
  have HH := Lib.hid hR
  have G2 : Hid (∀ {id : Int}, Tb.idOk id → Ky.NdR (Ky.inn [k1, k2] [y]) ∧ Tb.Sub (h + 1) none none id es ((id, Ky.inn [k1, k2] [y]) :: L) 2 ∧ 11 * (h + 1) + min 2 12 ≤ 12 + (g + min d 1)) := Lib.hid (fun hid => Tb.grow_two p hg hid)
  have HNR : Hid (Ky.NdR (Ky.inn [k1, k2] [y])) := Lib.hid (G2.out (id := 2) ⟨by omega, by omega⟩).1
  have HZ : Hid (Ky.ndSize (Ky.inn [k1, k2] [y]) ≤ 240) := Lib.hid (by
    obtain ⟨pp, _, _, _, _⟩ := p
    cases pp with
    | two s1 s2 hy =>
      show 4 + Ky.keysSize [y] ≤ 240
      simp only [Ky.keysSize]; omega)
  have HNE : Hid (0 < (Ky.inn [k1, k2] [y]).es.length + (Ky.inn [k1, k2] [y]).kids.length) := Lib.hid (by simp [Ky.inn])
  have HL0 : Hid (∀ q ∈ L, q.1 ≠ 0) := Lib.hid (fun q hq => by have := pg_ids (CtAt.pg H.right.right) q hq; omega)
  have hhh : h + 1 < 24 := by omega
  have NV := Lib.hid (ndV_kids H (by simp) (by simp))
  obtain ⟨b1, c1, rfl⟩ := rowOf_shape_ne (by simp) H
  obtain ⟨b2, c2, rfl⟩ := rowOf_shape_ne (by simp) H.right
  simp only [List.length_cons, List.length_nil, Nat.zero_add, Nat.reduceAdd] at H NV ⊢
  have H1 := ((H.new (.cells #[.slice (some ⟨b1, 0, none⟩) 2 c1, .slice (some ⟨b2, 0, none⟩) 1 c2] 136))).of_eq (show _ = CtAt c r e L * ((pts w.heap.size (.cells #[.slice (some ⟨b1, 0, none⟩) 2 c1, .slice (some ⟨b2, 0, none⟩) 1 c2] 136)) * (RowNu (.slice (some ⟨b1, 0, none⟩) 2 c1) [k1, k2] * (RowTx (.slice (some ⟨b2, 0, none⟩) 1 c2) [y] * F))) from by unfold RowNu RowTx; ac_rfl)
  have I1 := (Io.refl w).alloc (.cells #[.slice (some ⟨b1, 0, none⟩) 2 c1, .slice (some ⟨b2, 0, none⟩) 1 c2] 136)
  have LE : Hid (Tb.psi ((2, Ky.inn [k1, k2] [y]) :: L) = Tb.psi L) := Lib.hid (by simp [Tb.psi, Tb.wt, Ky.inn])
  clear hR p hg hh
  go_enter Tryz.func71, Tryz.ntmps71
  obtain ⟨u0, u1⟩ := nd2 H1.right
  obtain ⟨f0, f1⟩ := nd2f H1.right
  go_wp2_with fail
  generalize w.alloc (.cells #[.slice (some ⟨b1, 0, none⟩) 2 c1, .slice (some ⟨b2, 0, none⟩) 1 c2] 136) = w1 at *
  generalize hb : w.heap.size = b at *
  refine wp_loop_rounds 2 ?_
  rw [rounds_succ]
  go_upto_region 3 with (go_at_call 69; (with_reducible refine store_fit (id := 0) (L := L) (M := L) hk (.inr ⟨rfl, HL0.out⟩) HNR.out HZ.out HNE.out (NV.out.imp (fun _ hw => sat_nv hw)) H1 ?_); intro id' x g2 w2 D2 I2)
  have I3 := (I1.trans I2).alloc (.cells #[.slice (some ⟨g2, 0, none⟩) 1 1, .slice none 0 0] 136)
  rcases D2.out with ⟨rfl, hid, -, H2⟩ | ⟨rfl, hf, H2⟩
  · clear D2
    have G3 := Lib.hid (G2.out hid)
    have H3 := (H2.new (.cells #[.slice (some ⟨g2, 0, none⟩) 1 1, .slice none 0 0] 136)).of_eq (show _ = pts b (.cells #[.slice (some ⟨b1, 0, none⟩) 2 c1, .slice (some ⟨b2, 0, none⟩) 1 c2] 136) * (CtAt c r e ((id', Ky.inn [k1, k2] [y]) :: L) * (RowNu (.slice (some ⟨g2, 0, none⟩) 1 1) [id'] * F)) * (pts w2.heap.size (.cells #[.slice (some ⟨g2, 0, none⟩) 1 1, .slice none 0 0] 136) * (RowNu (.slice (some ⟨b1, 0, none⟩) 2 c1) [k1, k2] * RowTx (.slice (some ⟨b2, 0, none⟩) 1 c2) [y])) from by unfold RowNu RowTx; ac_rfl)
    obtain ⟨q0, q1⟩ := nd2 H3.right
    obtain ⟨u0, u1⟩ := nd2 H3.left
    obtain ⟨f0, f1⟩ := nd2f H3.left
    have K4 := H3.left.cells2 (x' := .slice (some ⟨g2, 0, none⟩) 1 1) (y' := .slice none 0 0)
    have I4 := (I3.setCell ⟨b, 0, none⟩ (.slice (some ⟨g2, 0, none⟩) 1 1)).setCell ⟨b, 1, none⟩ (.slice none 0 0)
    go_wp2_with fail
    generalize ((w2.alloc (.cells #[.slice (some ⟨g2, 0, none⟩) 1 1, .slice none 0 0] 136)).setCell ⟨b, 0, none⟩ (.slice (some ⟨g2, 0, none⟩) 1 1)).setCell ⟨b, 1, none⟩ (.slice none 0 0) = w4 at *
    have hx1 := rowOf_read2 encNu_ok K4.right.right 0 (by simp) 0 (by omega) (.int .i64 id') rfl
    simp only [Nat.mul_one, Nat.add_zero, Nat.zero_mul] at hx1
    clear u0 u1 q0 q1 f0 f1 H2 H3
    obtain ⟨u0, u1⟩ := nd2 K4
    have K5 := (K4.of_eq (show _ = (CtAt c r e ((id', Ky.inn [k1, k2] [y]) :: L) * F) * (pts b (.cells #[.slice (some ⟨g2, 0, none⟩) 1 1, .slice none 0 0] 136) * RowNu (.slice (some ⟨g2, 0, none⟩) 1 1) [id']) from by unfold RowNu; ac_rfl)).left
    rw [rounds_succ]
    go_wp2_with (go_at_call 100; (with_reducible refine shrink_any G3.out.2.1 G3.out.2.2 hhh hk K5 ?_); intro id2 L' h' c' w5 q1 q2 q3 H6 I6; have Q3 := Lib.hid (And.intro q1 (And.intro q2 q3)))
    exact HH.out id2 0 w5 (.inl ⟨rfl, L', .inr ⟨h', c', Q3.out.1, Q3.out.2.1⟩, by rw [Q3.out.2.2]; simp [Tb.psi, Tb.wt, Ky.inn], H6⟩) (I4.trans I6)
  · clear D2
    have H3 := (H2.new (.cells #[.slice (some ⟨g2, 0, none⟩) 1 1, .slice none 0 0] 136)).right
    go_wp2_with fail
    exact HH.out 0 2 _ (.inr ⟨rfl, hf, (H3.of_eq (show _ = (CtCell c r e * F) * (pts b (.cells #[.slice (some ⟨b1, 0, none⟩) 2 c1, .slice (some ⟨b2, 0, none⟩) 1 c2] 136) * (RowNu (.slice (some ⟨b1, 0, none⟩) 2 c1) [k1, k2] * RowTx (.slice (some ⟨b2, 0, none⟩) 1 c2) [y])) from by unfold RowNu RowTx; ac_rfl)).left⟩) I3
/-- A ROOT IS MADE of what became of the old one. -/
theorem ctgrow_any {h g cc d : Nat} {L0 L : Tb.Pg} {kids : List Int} {keys : List Ky.Nm} {u v : Value} {es : List Ky.En} {c' : Nat} (p : Tb.Done h none none cc d L0 kids keys es L c') (hg : 11 * h + min cc 12 ≤ 12 + g) (hh : h < 23) (hk : c.k.n ≤ 3000) (H : Sat (RowNu u kids * (RowTx v keys * (CtAt c r e L * F))) w)
    (hR : ∀ id' x w', Grown c r e F es (g + min d 1) (Tb.psi L) (2 + (L.length : Int)) id' x w' → Io w w' → R (.returned (.tuple #[.int .i64 id', .int .i64 x])) w') :
    Calls Tryz.prog 71 #[.pointer (some ⟨c.tr, 0, none⟩), .agg #[u, v]] w R := by
  rcases p.forms with ⟨rfl, rfl, rfl, rfl⟩ | ⟨k, rfl, rfl⟩ | ⟨k1, k2, y, rfl, rfl⟩
  · exact grow_none H fun w' H' I' => hR 0 0 w' (.inl ⟨rfl, [], .inl ⟨rfl, rfl, rfl⟩, rfl, H'⟩) I'
  · obtain ⟨s, hg'⟩ := p.tree hg
    exact grow_one (k := 0) s hg' (by omega) hk H fun id' L' w' q1 q2 H' I' => hR id' 0 w' (.inl ⟨rfl, L', q1, q2, H'⟩) I'
  · exact grow_two p hg hh hk H hR
end
end Go.Proofs.YtojiffhknddleaaGreatDoor

/-
  cowtree's update, by a walk. It proves no statement by itself.
-/
namespace Go.Proofs.YtojiffhknddleaaGreatDoor
open Go.RowKit Go.Lib
set_option linter.unusedSimpArgs false
set_option linter.unusedVariables false
set_option linter.unusedSectionVars false
/-- THE TREE c HAS THESE ENTRIES; its leaves weigh q at most, and it has grown g times. -/
def TrAt (c : Cq) (es : List Ky.En) (q g : Nat) : Asn := ex fun p : Int × Tb.Pg => on (Tb.Tree p.1 es p.2 g ∧ Tb.psi p.2 ≤ q) (CtAt c p.1 0 p.2)
/-- THE TREE IS DONE WITH: no page was left. -/
def TrErr (c : Cq) : Asn := ex fun r : Int => CtCell c r 2
section
variable {c : Cq} {r e : Int} {L : Tb.Pg} {F A : Asn} {w : World} {R : Ending → World → Prop}
theorem sat_tr {es : List Ky.En} {q g : Nat} : Sat (TrAt c es q g * F) w ↔ ∃ root L, Tb.Tree root es L g ∧ Tb.psi L ≤ q ∧ Sat (CtAt c root 0 L * F) w := by
  unfold TrAt
  rw [sat_ex]
  constructor
  · rintro ⟨⟨r, L⟩, h⟩
    obtain ⟨⟨h1, h2⟩, h3⟩ := sat_on.1 h
    exact ⟨r, L, h1, h2, h3⟩
  · rintro ⟨r, L, h1, h2, h3⟩
    exact ⟨(r, L), sat_on.2 ⟨⟨h1, h2⟩, h3⟩⟩
theorem cell_setErr {e' : Int} (H : Sat (CtCell c r e * F) w) : Sat (CtCell c r e' * F) (w.setCell ⟨c.tr, 2, none⟩ (.int .i64 e')) := by
  unfold CtCell at H ⊢
  exact H.cell 2 (.int .i64 e')
theorem cell_setRoot {r' : Int} (H : Sat (CtCell c r e * F) w) : Sat (CtCell c r' e * F) (w.setCell ⟨c.tr, 1, none⟩ (.int .i64 r')) := by
  unfold CtCell at H ⊢
  exact H.cell 1 (.int .i64 r')
theorem ct_setRoot {r' : Int} (H : Sat (CtAt c r e L * F) w) : Sat (CtAt c r' e L * F) (w.setCell ⟨c.tr, 1, none⟩ (.int .i64 r')) := by
  have h := H.of_eq (show _ = CtCell c r e * (PgAt c.k L * F) from by unfold CtAt; ac_rfl)
  exact (cell_setRoot h).of_eq (by unfold CtAt; ac_rfl)
theorem ct_free (H : Sat (CtAt c r e L * F) w) : w.frozen? ⟨c.tr, 1, none⟩ = false ∧ w.frozen? ⟨c.tr, 2, none⟩ = false :=
  cell_free (H.of_eq (show _ = CtCell c r e * (PgAt c.k L * F) from by unfold CtAt; ac_rfl))
theorem change_root {gn : Nat} {cb : Array Value} {op : List Ky.En → List Ky.En} {P : List Ky.En → Prop} {key : Ky.Nm} {d h cc : Nat} {es : List Ky.En} {M : Tb.Pg} {id : Int} (ch : ChangeOk c r e A key gn cb op P d h) (s : Tb.Sub h none none id es L cc) (hp : P es) (hh : h < 24) (H : Sat (CtAt c r e (L ++ M) * (A * F)) w)
    (hR : ∀ x a1 n1 c1 a2 n2 c2 w', PartRes c r e (A * F) M (4 + ((L.length + M.length + h : Nat) : Int)) (fun kids keys L' c' => Tb.Done h none none cc d L kids keys (op es) L' c') x (.slice a1 n1 c1) (.slice a2 n2 c2) w' → Io w w' → R (.returned (.tuple #[.agg #[.slice a1 n1 c1, .slice a2 n2 c2], .int .i64 x])) w') :
    Calls Tryz.prog 70 #[.pointer (some ⟨c.tr, 0, none⟩), .int .i64 id, .int .i64 0, .string key, .func (.func gn) #[] cb] w R :=
  ch (dp := 0) s (fun y hy => by cases hy) (fun y hy => by cases hy) hp (by omega) H hR
theorem PartRes.box {M : Tb.Pg} {B : Int} {D : List Int → List Ky.Nm → Tb.Pg → Nat → Prop} {x : Int} {u v : Value} {b : Nat} {y z : Value} {ty : TypeId} (h : PartRes c r e (A * (pts b (.cells #[y, z] ty (0, 0)) * F)) M B D x u v w) : (w.cell? ⟨b, 0, none⟩ = some y ∧ w.cell? ⟨b, 1, none⟩ = some z) ∧ w.frozen? ⟨b, 0, none⟩ = false ∧ w.frozen? ⟨b, 1, none⟩ = false := by
  rcases h with ⟨_, _, _, _, _, _, H⟩ | ⟨_, _, H⟩
  · exact ⟨nd2 H.right.right.right.right, nd2f H.right.right.right.right⟩
  · exact ⟨nd2 H.right.right, nd2f H.right.right⟩
/-- What comes of an update. -/
def Updated (c : Cq) (F : Asn) (es : List Ky.En) (q g : Nat) (B : Int) (x : Int) (w : World) : Prop :=
  (x = 0 ∧ Sat (TrAt c es q g * F) w) ∨ (x = 2 ∧ c.k.room ≤ B ∧ Sat (TrErr c * F) w)
set_option maxRecDepth 100000 in
set_option maxHeartbeats 16000000 in
/-- AN UPDATE of a tree that has a root. -/
theorem update_more {gn : Nat} {cb : Array Value} {op : List Ky.En → List Ky.En} {P : List Ky.En → Prop} {key : Ky.Nm} {d h cc q g : Nat} {es : List Ky.En} (hk : c.k.n ≤ 3000) (eg : ∀ args w, (callFunc gn args).run Tryz.prog w = .ok (.enter gn args) w) (o : Tb.Loc op P key d) (hdo : DoesOp A gn cb op P) (hp : P es)
    (s : Tb.Sub h none none r es L cc) (hg : 11 * h + min cc 12 ≤ 12 + g) (hq : Tb.psi L ≤ q) (hh : h < 23) (H : Sat (CtAt c r 0 L * (A * F)) w)
    (hR : ∀ x w', Updated c (A * F) (op es) (q + d) (g + min d 1) (5 + ((L.length + h : Nat) : Int)) x w' → Io w w' → R (.returned (.int .i64 x)) w') :
    Calls Tryz.prog 48 #[.pointer (some ⟨c.tr, 0, none⟩), .string key, .func (.func gn) #[] cb] w R := by
  have HH := Lib.hid hR
  have CH : Hid (ChangeOk c r 0 A key gn cb op P d h) := Lib.hid (change_any hk eg o hdo h)
  have Q := Lib.hid (And.intro s (And.intro hg (And.intro hq hp)))
  have hid := s.bounds.2
  have r0 : ¬ r = 0 := by have := hid.1; omega
  have H1 := (H.new zP).of_eq (show _ = CtAt c r 0 (L ++ []) * (A * (pts w.heap.size zP * F)) from by rw [List.append_nil]; ac_rfl)
  have I1 := (Io.refl w).alloc zP
  have HD : Hid (0 + h < 24) := Lib.hid (by omega)
  have HHH := Lib.hid hh
  have g1 : Hid (Tb.ge none key) := Lib.hid (fun y hy => by cases hy)
  have g2 : Hid (Tb.lt none key) := Lib.hid (fun y hy => by cases hy)
  obtain ⟨v0, v1, v2⟩ := CtAt.cells H
  clear hR s hg hq hp hdo o hid hh
  go_enter Tryz.func48, Tryz.ntmps48
  go_upto_region 4 with fail
  generalize w.alloc zP = w1 at *
  generalize hb : w.heap.size = b at *
  clear v0 v1 v2
  obtain ⟨v0, v1, v2⟩ := CtAt.cells H1
  go_upto_region 8 with (go_at_call 70; (with_reducible refine change_root CH.out Q.out.1 Q.out.2.2.2 (by have := HD.out; omega) H1 ?_); intro x a1 n1 c1 a2 n2 c2 w2 D2 I2; have D2 := Lib.hid D2; have D3 := (PartRes.box D2.out); obtain ⟨⟨y0, y1⟩, f0, f1⟩ := D3)
  have I3 := ((I1.trans I2).setCell ⟨b, 0, none⟩ (.slice a1 n1 c1)).setCell ⟨b, 1, none⟩ (.slice a2 n2 c2)
  clear v0 v1 v2 f0 f1 y0 y1
  rcases D2.out with ⟨rfl, kids, keys, L', c', dn, H2⟩ | ⟨rfl, hf, H2⟩
  · have DN := Lib.hid dn
    have K3 := (H2.of_eq (show _ = pts b zP * (RowNu (.slice a1 n1 c1) kids * (RowTx (.slice a2 n2 c2) keys * (CtAt c r 0 L' * (A * F)))) from by rw [List.append_nil]; ac_rfl)).cells2 (x' := .slice a1 n1 c1) (y' := .slice a2 n2 c2)
    generalize (w2.setCell ⟨b, 0, none⟩ (.slice a1 n1 c1)).setCell ⟨b, 1, none⟩ (.slice a2 n2 c2) = w3 at *
    clear D2 H2 dn
    obtain ⟨u0, u1⟩ := nd2 K3
    have K4 := K3.right
    go_upto_region 11 with (go_at_call 71; (with_reducible refine ctgrow_any DN.out Q.out.2.1 HHH.out hk K4 ?_); intro root x w4 D4 I4; have D4 := Lib.hid D4)
    have hpsi := DN.out.psi
    have hlen := DN.out.len
    have J4 := I3.trans I4
    rcases D4.out with ⟨rfl, L2, t1, t2, H5⟩ | ⟨rfl, hf, H5⟩
    · have TQ : Hid (Tb.Tree root (op es) L2 (g + min d 1) ∧ Tb.psi L2 ≤ q + d) := Lib.hid ⟨t1, by have := Q.out.2.2.1; omega⟩
      clear D4 t1 t2 hpsi hlen
      obtain ⟨v0, v1, v2⟩ := CtAt.cells H5
      obtain ⟨f1, f2⟩ := ct_free H5
      have K6 := ct_setRoot (r' := root) H5
      have J6 := J4.setCell ⟨c.tr, 1, none⟩ (.int .i64 root)
      go_wp2_with fail
      exact HH.out 0 _ (.inl ⟨rfl, sat_tr.2 ⟨root, L2, TQ.out.1, TQ.out.2, K6⟩⟩) J6
    · clear D4
      obtain ⟨v0, v1, v2⟩ := cell_cells H5
      obtain ⟨f1, f2⟩ := cell_free H5
      have K6 := cell_setErr (e' := 2) H5
      have J6 := J4.setCell ⟨c.tr, 2, none⟩ (.int .i64 2)
      have HB : Hid (c.k.room ≤ 5 + ((L.length + h : Nat) : Int)) := Lib.hid (by omega)
      clear hf hpsi hlen
      go_wp2_with fail
      exact HH.out 2 _ (.inr ⟨rfl, HB.out, sat_ex.2 ⟨r, K6⟩⟩) J6
  · have K3 := (H2.of_eq (show _ = pts b zP * (CtCell c r 0 * (A * F)) from by ac_rfl)).cells2 (x' := .slice a1 n1 c1) (y' := .slice a2 n2 c2)
    generalize (w2.setCell ⟨b, 0, none⟩ (.slice a1 n1 c1)).setCell ⟨b, 1, none⟩ (.slice a2 n2 c2) = w3 at *
    clear D2 H2
    have K4 := K3.right
    obtain ⟨v0, v1, v2⟩ := cell_cells K4
    obtain ⟨f1, f2⟩ := cell_free K4
    have K5 := cell_setErr (e' := 2) K4
    have J5 := I3.setCell ⟨c.tr, 2, none⟩ (.int .i64 2)
    have HB : Hid (c.k.room ≤ 5 + ((L.length + h : Nat) : Int)) := Lib.hid (by simp only [List.length_nil] at hf; omega)
    clear hf
    go_wp2_with fail
    exact HH.out 2 _ (.inr ⟨rfl, HB.out, sat_ex.2 ⟨r, K5⟩⟩) J5
theorem store_box {x : Int} {p1 p2 : Prop} {X Y Z : Asn} {b : Nat} {y z : Value} {ty : TypeId} {B1 : Asn} (h : (x = 0 ∧ p1 ∧ p2 ∧ Sat (X * (Y * (Z * (A * (pts b (.cells #[y, z] ty (0, 0)) * F))))) w) ∨ (x = 2 ∧ c.k.room ≤ 2 + (([] : Tb.Pg).length : Int) ∧ Sat (B1 * (Z * (A * (pts b (.cells #[y, z] ty (0, 0)) * F)))) w)) : (w.cell? ⟨b, 0, none⟩ = some y ∧ w.cell? ⟨b, 1, none⟩ = some z) ∧ w.frozen? ⟨b, 0, none⟩ = false ∧ w.frozen? ⟨b, 1, none⟩ = false := by
  rcases h with ⟨_, _, _, H⟩ | ⟨_, _, H⟩
  · exact ⟨nd2 H.right.right.right.right, nd2f H.right.right.right.right⟩
  · exact ⟨nd2 H.right.right.right, nd2f H.right.right.right⟩
set_option maxRecDepth 100000 in
set_option maxHeartbeats 16000000 in
/-- AN UPDATE of a tree that has nothing. -/
theorem update_first {gn : Nat} {cb : Array Value} {op : List Ky.En → List Ky.En} {P : List Ky.En → Prop} {key : Ky.Nm} {d g q : Nat} (hk : c.k.n ≤ 3000) (eg : ∀ args w, (callFunc gn args).run Tryz.prog w = .ok (.enter gn args) w) (o : Tb.Loc op P key d) (hdo : DoesOp A gn cb op P) (hp : P []) (hne : op [] ≠ []) (hq : 60 ≤ q)
    (H : Sat (CtAt c 0 0 [] * (A * F)) w)
    (hR : ∀ x w', Updated c (A * F) (op []) (q + d) (g + min d 1) 5 x w' → Io w w' → R (.returned (.int .i64 x)) w') :
    Calls Tryz.prog 48 #[.pointer (some ⟨c.tr, 0, none⟩), .string key, .func (.func gn) #[] cb] w R := by
  have HH := Lib.hid hR
  have HDO : Hid (DoesOp A gn cb op P) := Lib.hid hdo
  obtain ⟨hr1, hz1⟩ := o.first hp
  have FS : Hid (∀ {id : Int}, Tb.idOk id → Tb.Sub 0 none none id (op []) [(id, Ky.lf (op []))] 12 ∧ 11 * 0 + min 12 12 ≤ 12 + (g + min d 1) ∧ Tb.psi [(id, Ky.lf (op []))] ≤ 60) := Lib.hid (fun hid => o.first_sub hp hne hid)
  have HR := Lib.hid (Ky.NdR.leaf hr1)
  have HZ : Hid (Ky.ndSize (Ky.lf (op [])) ≤ 240) := Lib.hid (by show Ky.size (op []) ≤ 240; omega)
  have HNE : Hid (0 < (Ky.lf (op [])).es.length + (Ky.lf (op [])).kids.length) := Lib.hid (by have := List.length_pos_iff.2 hne; simp only [Ky.lf]; omega)
  have HL : Hid ((op []).length ≤ 5000) := Lib.hid (by have := (Tb.size_low hr1.1).1; omega)
  have HP := Lib.hid hp
  have HQ := Lib.hid hq
  have HNN : Hid (∀ p ∈ ([] : Tb.Pg), p.1 ≠ 0) := Lib.hid (by simp)
  have H1 := (H.new zP).of_eq (show _ = A * (CtAt c 0 0 [] * (pts w.heap.size zP * F)) from by ac_rfl)
  have I1 := (Io.refl w).alloc zP
  obtain ⟨v0, v1, v2⟩ := CtAt.cells H
  clear hR hdo o hr1 hz1 hp hne hq
  go_enter Tryz.func48, Tryz.ntmps48
  go_upto_region 4 with fail
  generalize w.alloc zP = w1 at *
  generalize hb : w.heap.size = b at *
  clear v0 v1 v2
  obtain ⟨v0, v1, v2⟩ := CtAt.cells H1.right
  go_upto_region 8 with (first
    | (go_at_fn gn; refine HDO.out ⟨by simp, .nil⟩ (by simp [Ky.size]) HP.out (reads_none _ none 0) (.inl ⟨rfl, rfl⟩) H1 ?_; intro v5 w5 H5 I5; have SV := rowOf_form3 H5; obtain ⟨a5, n5, k5, hq⟩ := SV; subst hq)
    | (go_at_call 69; (with_reducible refine store_fit (id := 0) (L := []) (M := []) hk (.inr ⟨rfl, HNN.out⟩) HR.out HZ.out HNE.out ((ndV_of_row H5 HL.out).imp (fun _ hw => emp_r hw.left)) (H5.of_eq (show _ = CtAt c 0 0 [] * (RowE (.slice a5 n5 k5) (op []) * (A * (pts b zP * F))) from by unfold RowE; ac_rfl)) ?_); intro id' x g2 w2 D2 I2; have D3 := store_box D2.out; obtain ⟨⟨y0, y1⟩, f0, f1⟩ := D3))
  have I3 := (((I1.trans I5).trans I2).setCell ⟨b, 0, none⟩ (.slice (some ⟨g2, 0, none⟩) 1 1)).setCell ⟨b, 1, none⟩ (.slice none 0 0)
  clear v0 v1 v2 f0 f1 y0 y1
  rcases D2.out with ⟨rfl, hid, -, H2⟩ | ⟨rfl, hf, H2⟩
  · have DN := Lib.hid (FS.out hid)
    have K3 := ((H2.of_eq (show _ = pts b zP * (RowNu (.slice (some ⟨g2, 0, none⟩) 1 1) [id'] * (CtAt c 0 0 [(id', Ky.lf (op []))] * (A * F))) * RowE (.slice a5 n5 k5) (op []) from by unfold RowNu RowE; ac_rfl)).left).cells2 (x' := .slice (some ⟨g2, 0, none⟩) 1 1) (y' := .slice none 0 0)
    generalize (w2.setCell ⟨b, 0, none⟩ (.slice (some ⟨g2, 0, none⟩) 1 1)).setCell ⟨b, 1, none⟩ (.slice none 0 0) = w3 at *
    clear D2 H2 hid
    obtain ⟨u0, u1⟩ := nd2 K3
    have K4 := (rowOf_nil (sz := 1) (e := 9) (enc := encTx) K3.right).sw
    go_upto_region 11 with (go_at_call 71; (with_reducible refine grow_one (k := 0) DN.out.1 DN.out.2.1 (by omega) hk K4 ?_); intro root L2 w4 t1 t2 H5 I4; have T1 := Lib.hid t1; have T2 := Lib.hid t2)
    have J4 := I3.trans I4
    have TQ : Hid (Tb.psi L2 ≤ q + d) := Lib.hid (by have := DN.out.2.2; have := T2.out; have := HQ.out; omega)
    obtain ⟨v0, v1, v2⟩ := CtAt.cells H5
    obtain ⟨f1, f2⟩ := ct_free H5
    have K6 := ct_setRoot (r' := root) H5
    have J6 := J4.setCell ⟨c.tr, 1, none⟩ (.int .i64 root)
    go_wp2_with fail
    exact HH.out 0 _ (.inl ⟨rfl, sat_tr.2 ⟨root, L2, T1.out, TQ.out, K6⟩⟩) J6
  · have K3 := ((H2.of_eq (show _ = pts b zP * (CtCell c 0 0 * (A * F)) * RowE (.slice a5 n5 k5) (op []) from by unfold RowE; ac_rfl)).left).cells2 (x' := .slice (some ⟨g2, 0, none⟩) 1 1) (y' := .slice none 0 0)
    generalize (w2.setCell ⟨b, 0, none⟩ (.slice (some ⟨g2, 0, none⟩) 1 1)).setCell ⟨b, 1, none⟩ (.slice none 0 0) = w3 at *
    clear D2 H2
    have K4 := K3.right
    obtain ⟨v0, v1, v2⟩ := cell_cells K4
    obtain ⟨f1, f2⟩ := cell_free K4
    have K5 := cell_setErr (e' := 2) K4
    have J5 := I3.setCell ⟨c.tr, 2, none⟩ (.int .i64 2)
    have HB : Hid (c.k.room ≤ 5) := Lib.hid (by simp only [List.length_nil] at hf; omega)
    clear hf
    go_wp2_with fail
    exact HH.out 2 _ (.inr ⟨rfl, HB.out, sat_ex.2 ⟨0, K5⟩⟩) J5
end
end Go.Proofs.YtojiffhknddleaaGreatDoor

/-
  cowtree's Get, by a walk. It proves no statement by itself.
-/
namespace Go.Proofs.YtojiffhknddleaaGreatDoor
open Go.RowKit Go.Lib
set_option linter.unusedSimpArgs false
set_option linter.unusedVariables false
set_option linter.unusedSectionVars false
section
variable {c : Cq} {r e : Int} {L : Tb.Pg} {F A : Asn} {w : World} {R : Ending → World → Prop}
/-- Where a key is looked for. -/
def Looks (es : List Ky.En) (L : Tb.Pg) (key : Ky.Nm) (id : Int) (dp : Nat) : Prop :=
  ∃ (h0 : Nat) (lo hi : Tb.Bd) (e0 : List Ky.En) (L0 : Tb.Pg) (c0 : Nat), Tb.Sub h0 lo hi id e0 L0 c0 ∧ Tb.ge lo key ∧ Tb.lt hi key ∧ Ky.get e0 key = Ky.get es key ∧ (∀ p ∈ L0, p ∈ L) ∧ dp + h0 < 24
theorem looks_next {es : List Ky.En} {key : Ky.Nm} {lo hi : Tb.Bd} {e0 : List Ky.En} {K : List Int} {B : List Ky.Nm} {L1 : Tb.Pg} {h1 dp : Nat} (n : Tb.Node (Tb.Sb h1) lo hi K B e0 L1) (hlo : Tb.ge lo key) (hhi : Tb.lt hi key) (hg : Ky.get e0 key = Ky.get es key) (hL : ∀ p ∈ L1, p ∈ L) (hd : dp + 1 + h1 < 24) (hi' : Tb.chd key B < K.length) : Looks es L key (K[Tb.chd key B]) (dp + 1) := by
  obtain ⟨a, b, e1, ec, e2, M1, Mc, M2, g1, ⟨cc, sc⟩, g2, rfl, rfl, ha, hb, hE1, hE2⟩ := Tb.child_at n hlo hhi hi'
  have hr := (Tb.node_in (fun s => Tb.Sb.inn s) n).2.1
  exact ⟨h1, a, b, ec, Mc, cc, sc, ha, hb, by rw [← hg, Tb.get_loc hE1 hE2 hr], fun p hp => hL p (by simp [hp]), hd⟩
set_option maxRecDepth 100000 in
set_option maxHeartbeats 16000000 in
theorem get_more {h cc : Nat} {es : List Ky.En} {key val : Ky.Nm} {d : Bool} (s : Tb.Sub h none none r es L cc) (hh : h < 24) (hg : Hid ((d = true ∧ Ky.get es key = some val) ∨ (d = false ∧ val = ⟨#[]⟩ ∧ Ky.get es key = none))) (H : Sat (CtAt c r 0 L * F) w)
    (hR : ∀ w', Sat (CtAt c r 0 L * F) w' → Io w w' → R (.returned (.tuple #[.string val, .bool d, .int .i64 0])) w') :
    Calls Tryz.prog 66 #[.pointer (some ⟨c.tr, 0, none⟩), .string key] w R := by
  have HH := Lib.hid hR
  have HS : Hid (Looks es L key r 0) := Lib.hid ⟨h, none, none, es, L, cc, s, (fun y hy => by cases hy), (fun y hy => by cases hy), rfl, fun p hp => hp, by omega⟩
  obtain ⟨v0, v1, v2⟩ := CtAt.cells H
  clear hR s hh
  go_enter Tryz.func66, Tryz.ntmps66
  go_wp2_with fail
  clear v0 v1 v2
  go_loopw [7, 8] (fun x y wr => ∃ (id0 : Int) (dp : Nat), x = .int .i64 id0 ∧ y = .int .i64 (dp : Int) ∧ dp ≤ 24 ∧ Hid (Looks es L key id0 dp) ∧ Sat (CtAt c r 0 L * F) wr ∧ Io w wr) (fun _ y _ => 24 - (RowKit.intOf y).toNat)
  case atStart => exact ⟨r, 0, rfl, rfl, by omega, HS, H, Io.refl _⟩
  case round =>
    obtain ⟨id0, dp, rfl, rfl, hdp, HS2, Hk, Ik⟩ := hrel
    clear H HS
    obtain ⟨h0, lo, hi, e0, L0, c0, q1, q2, q3, q4, q5, q6⟩ := HS2.out
    have d1 : (dp : Int) < 24 := by omega
    have hid := q1.bounds.2
    have hne : ¬ id0 = 0 := by have := hid.1; omega
    rcases q1.root_page with ⟨rfl, rfl, rfl, z1, z2⟩ | ⟨h1, K, B, L1, rfl, n, z1, z2, z3, rfl⟩
    · have N1 : Hid ((id0, Ky.lf e0) ∈ L) := Lib.hid (q5 _ (by simp))
      have N2 := Lib.hid (Ky.NdR.leaf z1)
      have N3 : Hid (Ky.ndSize (Ky.lf e0) ≤ 240) := Lib.hid z2
      have Q := Lib.hid z1
      have HG : Hid ((d = true ∧ Ky.get e0 key = some val) ∨ (d = false ∧ val = ⟨#[]⟩ ∧ Ky.get e0 key = none)) := Lib.hid (by rw [q4]; exact hg.out)
      have HL : Hid (e0.length ≤ 5000) := Lib.hid (by have := (Tb.size_low z1.1).1; omega)
      clear q1 q2 q3 q4 q5 q6 hid z1 z2 HS2
      go_upto_region 8 with (go_at_call 90; (with_reducible refine load_any N1.out N2.out N3.out d1 Hk ?_); intro G kv w2 NK H2 I2; have NK := Lib.hid NK; have SK := NK.out.shape; obtain ⟨b1, x1, y1, t1, x2, y2, t2, x3, y3, t3, hq⟩ := SK; subst hq)
      obtain ⟨rfl, re, se⟩ := ndV_leaf NK.out
      have RE := Lib.hid re
      have H3 := (H2.new (.cells #[.bool true, .slice x1 y1 t1, .slice x2 y2 t2, .slice x3 y3 t3] 140))
      have I3 := (Ik.trans I2).alloc (.cells #[.bool true, .slice x1 y1 t1, .slice x2 y2 t2, .slice x3 y3 t3] 140)
      generalize w2.alloc (.cells #[.bool true, .slice x1 y1 t1, .slice x2 y2 t2, .slice x3 y3 t3] 140) = w3 at *
      generalize w2.heap.size = gn at *
      obtain ⟨u0, u1, u2, u3⟩ := nd4 H3
      clear re se H2 I2
      go_wp2_with (go_at_call 91; (with_reducible refine eget_any Q.out (Ky.short_of Q.out) (RE.out.imp (fun _ hw => hw.right.left)) HL.out key HG H3 ?_); intro w4 H4 I4)
      exact bodyPost_ret (v := .tuple #[.string val, .bool d, .int .i64 0]) (by simp [results, Tryz.results66, go_sem]) rfl (HH.out _ H4.right.right (I3.trans I4))
    · have N1 : Hid ((id0, Ky.inn K B) ∈ L) := Lib.hid (q5 _ (by simp [z3.mem_iff]))
      have hlen := n.len
      have hci : Tb.chd key B < K.length := by have := Tb.chd_le key B; omega
      have hir := Tb.node_inR n z2
      have hks := Tb.keysSize_low z2
      have N2 := Lib.hid (Ky.NdR.inner hir)
      have N3 : Hid (Ky.ndSize (Ky.inn K B) ≤ 240) := Lib.hid z1
      have N4 := Lib.hid hir
      have Q : Hid (Looks es L key (K[Tb.chd key B]'hci) (dp + 1)) := Lib.hid (looks_next n q2 q3 q4 (fun p hp => q5 p (by simp [z3.mem_iff, hp])) (by omega) hci)
      obtain ⟨kid, hkid⟩ : ∃ kid, K[Tb.chd key B]'hci = kid := ⟨_, rfl⟩
      rw [hkid] at Q
      obtain ⟨i, hic⟩ : ∃ i, i = Tb.chd key B := ⟨_, rfl⟩
      have hcj : i < K.length := by rw [hic]; exact hci
      have hkid2 : K[i]'hcj = kid := by rw [← hkid]; simp only [hic]
      have HI := Lib.hid hic
      have HK := Lib.hid hkid2
      obtain ⟨n3, hn3⟩ : ∃ n, n = K.length := ⟨_, rfl⟩
      obtain ⟨n5, hn5⟩ : ∃ n, n = B.length := ⟨_, rfl⟩
      have HN := Lib.hid (And.intro hn3 hn5)
      have HKL : Hid (K.length ≤ 1000 ∧ B.length ≤ 1000 ∧ 0 < K.length) := Lib.hid (by omega)
      have i0 : (0 : Int) ≤ (i : Int) := by omega
      have i1 : (i : Int) < (n3 : Int) := by omega
      have i2 : (n3 : Int) ≤ 1000 := by have := HKL.out; omega
      clear q1 q2 q3 q4 q5 q6 hid z1 z2 HS2 hlen hir hks hkid hkid2 hic n z3 hn3 hn5 hci
      go_upto_region 8 with (go_at_call 90; (with_reducible refine load_any N1.out N2.out N3.out d1 Hk ?_); intro G kv w2 NK H2 I2; have NK := Lib.hid NK; have SK := NK.out.shape; obtain ⟨b1, x1, y1, t1, x2, y2, t2, x3, y3, t3, hq⟩ := SK; subst hq)
      obtain ⟨a1, c1, b3, o3, c3, a5, c5, hq, hX, -⟩ := ndV_inn NK.out HKL.out.2.2
      cases hq
      have HX : Hid (∀ w, Sat G w → w.cell? ⟨b3, o3 + i, none⟩ = some (.int .i64 kid)) := Lib.hid (by rw [← HK.out]; exact hX i hcj)
      rw [← HN.out.1, ← HN.out.2] at NK ⊢
      have H3 := (H2.new (.cells #[.bool false, .slice x1 0 t1, .slice (some ⟨b3, o3, none⟩) n3 t2, .slice x3 n5 t3] 140)).of_eq (show _ = CtAt c r 0 L * (pts w2.heap.size (.cells #[.bool false, .slice x1 0 t1, .slice (some ⟨b3, o3, none⟩) n3 t2, .slice x3 n5 t3] 140) * (G * F)) from by ac_rfl)
      have I3 := (Ik.trans I2).alloc (.cells #[.bool false, .slice x1 0 t1, .slice (some ⟨b3, o3, none⟩) n3 t2, .slice x3 n5 t3] 140)
      generalize w2.alloc (.cells #[.bool false, .slice x1 0 t1, .slice (some ⟨b3, o3, none⟩) n3 t2, .slice x3 n5 t3] 140) = w3 at *
      generalize w2.heap.size = gn at *
      obtain ⟨u0, u1, u2, u3⟩ := nd4 H3.right
      clear hX H2 I2 Hk Ik
      go_upto_region 13 with fail
      have H3 := H3.drew
      have I3 := I3.drew
      have S0 := And.intro (nd4 H3.right) (HX.out _ H3.right.right.left)
      go_region_held3 (fun W => (W.cell? ⟨gn, 0, none⟩ = some (.bool false) ∧ W.cell? ⟨gn, 1, none⟩ = some (.slice x1 0 t1) ∧ W.cell? ⟨gn, 2, none⟩ = some (.slice (some ⟨b3, o3, none⟩) n3 t2) ∧ W.cell? ⟨gn, 3, none⟩ = some (.slice x3 n5 t3)) ∧ W.cell? ⟨b3, o3 + i, none⟩ = some (.int .i64 kid)) (with_reducible (first | exact S0 | exact S1)) (first
        | (go_at_call 92; (with_reducible refine child_any N4.out (NK.out.imp (fun _ hw => hw.right.right.left)) (by have := HKL.out; omega) key H3 HI ?_); intro w4 H4 I4; have S1 := And.intro (nd4 H4.right) (HX.out _ H4.right.right.left)))
      have I4 := I3.trans I4
      clear H3 I3 u0 u1 u2 u3 S0 S1
      go_wp2_with fail
      go_roundw
      case rel => exact ⟨kid, dp + 1, rfl, by go_num, by omega, Q, (H4.of_eq (show _ = (CtAt c r 0 L * F) * (pts gn (.cells #[.bool false, .slice x1 0 t1, .slice (some ⟨b3, o3, none⟩) n3 t2, .slice x3 n5 t3] 140) * G) from by ac_rfl)).left, I4⟩
      case measure => simp [RowKit.intOf]; omega
set_option maxRecDepth 100000 in
set_option maxHeartbeats 4000000 in
theorem get_nothing (key : Ky.Nm) (H : Sat (CtAt c 0 0 L * F) w) (hR : R (.returned (.tuple #[.string ⟨#[]⟩, .bool false, .int .i64 0])) w) :
    Calls Tryz.prog 66 #[.pointer (some ⟨c.tr, 0, none⟩), .string key] w R := by
  have HH := Lib.hid hR
  obtain ⟨v0, v1, v2⟩ := CtAt.cells H
  clear hR
  go_enter Tryz.func66, Tryz.ntmps66
  go_wp2_with fail
  refine wp_loop_rounds 1 ?_
  rw [rounds_succ]
  go_wp2_with fail
  exact bodyPost_ret (v := .tuple #[.string ⟨#[]⟩, .bool false, .int .i64 0]) (by simp [results, Tryz.results66, go_sem]) rfl HH.out
/-- A KEY's VALUE. -/
theorem ctget_any {es : List Ky.En} {q g : Nat} {key val : Ky.Nm} {d : Bool} (hgr : g ≤ 240) (hg : Hid ((d = true ∧ Ky.get es key = some val) ∨ (d = false ∧ val = ⟨#[]⟩ ∧ Ky.get es key = none))) (H : Sat (TrAt c es q g * F) w)
    (hR : ∀ w', Sat (TrAt c es q g * F) w' → Io w w' → R (.returned (.tuple #[.string val, .bool d, .int .i64 0])) w') :
    Calls Tryz.prog 66 #[.pointer (some ⟨c.tr, 0, none⟩), .string key] w R := by
  obtain ⟨root, L, t, hq, H⟩ := sat_tr.1 H
  rcases t with ⟨rfl, rfl, rfl⟩ | ⟨h, cc, s, hh⟩
  · rcases hg.out with ⟨_, h⟩ | ⟨rfl, rfl, _⟩
    · cases h
    · exact get_nothing key H (hR _ (sat_tr.2 ⟨0, [], .inl ⟨rfl, rfl, rfl⟩, hq, H⟩) (Io.refl w))
  · have := s.pos
    exact get_more s (by omega) hg H fun w' H' I' => hR w' (sat_tr.2 ⟨root, L, .inr ⟨h, cc, s, hh⟩, hq, H'⟩) I'
end
end Go.Proofs.YtojiffhknddleaaGreatDoor

/-
  cowtree's Put and Delete, by walks. It proves no statement by itself.
-/
namespace Go.Proofs.YtojiffhknddleaaGreatDoor
open Go.RowKit Go.Lib
set_option linter.unusedSimpArgs false
set_option linter.unusedVariables false
set_option linter.unusedSectionVars false
namespace Tb
open Ky
/-- A key that is there is taken away. -/
theorem loc_gone {key : Nm} : Loc (fun l => del l key) (fun l => has key l = true) key 0 where
  loc := fun _ _ _ h1 h2 hr => del_loc h1 h2 hr
  ploc := fun _ _ _ h1 h2 hp => by rw [← has_loc h1 h2]; exact hp
  right := fun _ hr => right_del hr
  keys := loc_del.keys
  size := fun E hr _ => by have := size_del (key := key) hr; omega
  le := by omega
end Tb
section
variable {c : Cq} {r e : Int} {L : Tb.Pg} {F A : Asn} {w : World} {R : Ending → World → Prop}
/-- AN UPDATE. -/
theorem update_any {gn : Nat} {cb : Array Value} {op : List Ky.En → List Ky.En} {P : List Ky.En → Prop} {key : Ky.Nm} {d g q : Nat} {es : List Ky.En} (hk : c.k.n ≤ 3000) (hg : g ≤ 240) (hq : 60 ≤ q) (eg : ∀ args w, (callFunc gn args).run Tryz.prog w = .ok (.enter gn args) w) (o : Tb.Loc op P key d) (hdo : DoesOp A gn cb op P) (hp : P es) (hne : es = [] → op [] ≠ [])
    (H : Sat (TrAt c es q g * (A * F)) w)
    (hR : ∀ x w', Updated c (A * F) (op es) (q + d) (g + min d 1) (30 + (Tb.most q g : Int)) x w' → Io w w' → R (.returned (.int .i64 x)) w') :
    Calls Tryz.prog 48 #[.pointer (some ⟨c.tr, 0, none⟩), .string key, .func (.func gn) #[] cb] w R := by
  obtain ⟨root, L, t, hpsi, H⟩ := sat_tr.1 H
  have hm := t.most hpsi
  have more : ∀ {B B' : Int} {x : Int} {w' : World}, B ≤ B' → Updated c (A * F) (op es) (q + d) (g + min d 1) B x w' → Updated c (A * F) (op es) (q + d) (g + min d 1) B' x w' := fun hb h => by
    rcases h with h | ⟨h1, h2, h3⟩
    · exact .inl h
    · exact .inr ⟨h1, by omega, h3⟩
  rcases t with ⟨rfl, rfl, rfl⟩ | ⟨h, cc, s, hh⟩
  · exact update_first hk eg o hdo hp (hne rfl) hq H fun x w' D I => hR x w' (more (by omega) D) I
  · have := s.pos
    exact update_more hk eg o hdo hp s hh hpsi (by omega) H fun x w' D I => hR x w' (more (by omega) D) I
theorem Updated.drop {X : Asn} {es : List Ky.En} {q g : Nat} {B x : Int} (h : Updated c (X * F) es q g B x w) : Updated c F es q g B x w := by
  rcases h with ⟨h1, H⟩ | ⟨h1, h2, H⟩
  · exact .inl ⟨h1, (H.of_eq (show _ = (TrAt c es q g * F) * X from by ac_rfl)).left⟩
  · exact .inr ⟨h1, h2, (H.of_eq (show _ = (TrErr c * F) * X from by ac_rfl)).left⟩
def PutCells (bk bv : Nat) (key val : Ky.Nm) : Asn := pts bk (.cells #[.string key] 9) * pts bv (.cells #[.string val] 9)
set_option maxRecDepth 100000 in
set_option maxHeartbeats 4000000 in
theorem does_put {bk bv : Nat} {key val : Ky.Nm} (hc : Ky.chk key val = 0) (P : List Ky.En → Prop) : DoesOp (PutCells bk bv key val) 49 #[.pointer (some ⟨bk, 0, none⟩), .pointer (some ⟨bv, 0, none⟩)] (fun l => Ky.put l key val) P := by
  intro F w R l v hr hz hp hv hs H hR
  have HH := Lib.hid hR
  have H1 := H.of_eq (show _ = pts bk (.cells #[.string key] 9) * (pts bv (.cells #[.string val] 9) * F) from by unfold PutCells; ac_rfl)
  have q0 := Sat.read H1.left.at 0
  have q1 := Sat.read H1.right.left.at 0
  simp only [List.getElem?_toArray, List.getElem?_cons_zero, List.getElem?_cons_succ] at q0 q1
  have hck := Ky.chk_ok hc
  have HR := Lib.hid hr
  have HV := Lib.hid hv
  have HS := Lib.hid hs
  have HC := Lib.hid hc
  have HL : Hid (l.length ≤ 5000) := Lib.hid (by have := (Tb.size_low hr.1).1; omega)
  have k1 : Hid (key.size ≤ 1000) := Lib.hid (by omega)
  have k2 : Hid (val.size ≤ 1000) := Lib.hid (by omega)
  obtain ⟨a, cc, rfl, hm⟩ := readsE_len hv
  clear hR hr hz hp hv hs hc hck
  go_enter Tryz.func49, Tryz.ntmps49
  go_wp2_with (go_at_call 50; (with_reducible refine eput_any HR.out (Ky.short_of HR.out) HV.out HS.out HL.out key val HC.out k1.out k2.out H ?_); intro v' w2 H2 I2)
  exact HH.out v' w2 H2 I2
set_option maxRecDepth 100000 in
set_option maxHeartbeats 4000000 in
theorem does_del {bk : Nat} {key : Ky.Nm} : DoesOp (pts bk (.cells #[.string key] 9)) 67 #[.pointer (some ⟨bk, 0, none⟩)] (fun l => Ky.del l key) (fun l => Ky.has key l = true) := by
  intro F w R l v hr hz hp hv hs H hR
  have HH := Lib.hid hR
  have q0 := Sat.read H.left.at 0
  simp only [List.getElem?_toArray, List.getElem?_cons_zero, List.getElem?_cons_succ] at q0
  have HR := Lib.hid hr
  have HV := Lib.hid hv
  have HS := Lib.hid hs
  have HP := Lib.hid hp
  have HL : Hid (l.length ≤ 5000) := Lib.hid (by have := (Tb.size_low hr.1).1; omega)
  obtain ⟨a, cc, rfl, hm⟩ := readsE_len hv
  clear hR hr hz hp hv hs
  go_enter Tryz.func67, Tryz.ntmps67
  go_wp2_with (go_at_call 68; (with_reducible refine edelete_any HR.out (Ky.short_of HR.out) HV.out HS.out HL.out key HP.out H ?_); intro v' w2 H2 I2)
  exact HH.out v' w2 H2 I2
theorem callPut (args : Array Value) (w : World) : (callFunc 49 args).run Tryz.prog w = .ok (.enter 49 args) w := enters_of Tryz.func49 (by kernel_rfl) rfl args w
theorem callDel (args : Array Value) (w : World) : (callFunc 67 args).run Tryz.prog w = .ok (.enter 67 args) w := enters_of Tryz.func67 (by kernel_rfl) rfl args w
theorem tr_cells {es : List Ky.En} {q g : Nat} (H : Sat (TrAt c es q g * F) w) : w.cell? ⟨c.tr, 0, none⟩ = some (.pointer (some ⟨c.k.t, 0, none⟩)) ∧ w.cell? ⟨c.tr, 2, none⟩ = some (.int .i64 0) := by
  obtain ⟨root, L, _, _, H⟩ := sat_tr.1 H
  have := CtAt.cells H
  exact ⟨this.1, this.2.2⟩
set_option maxRecDepth 100000 in
set_option maxHeartbeats 4000000 in
/-- A KEY IS GIVEN A VALUE. -/
theorem ctput_any {P : List Ky.En → Prop} {key val : Ky.Nm} {d g q : Nat} {es : List Ky.En} (hk : c.k.n ≤ 3000) (hg : g ≤ 240) (hq : 60 ≤ q) (hc : Ky.chk key val = 0) (o : Tb.Loc (fun l => Ky.put l key val) P key d) (hp : P es)
    (H : Sat (TrAt c es q g * F) w)
    (hR : ∀ x w', Updated c F (Ky.put es key val) (q + d) (g + min d 1) (30 + (Tb.most q g : Int)) x w' → Io w w' → R (.returned (.int .i64 x)) w') :
    Calls Tryz.prog 23 #[.pointer (some ⟨c.tr, 0, none⟩), .string key, .string val] w R := by
  have HH := Lib.hid hR
  have HO := Lib.hid (And.intro o hp)
  have HC : Hid ((0 : Int) = Ky.chk key val) := Lib.hid hc.symm
  have hck := Ky.chk_ok hc
  have k1 : Hid (key.size ≤ 1000000) := Lib.hid (by omega)
  have k2 : Hid (val.size ≤ 1000000) := Lib.hid (by omega)
  have HNE : Hid (es = [] → (fun l => Ky.put l key val) [] ≠ []) := Lib.hid (fun _ h => by simp [Ky.put, Ky.has] at h)
  have HD : Hid (DoesOp (PutCells w.heap.size (w.heap.size + 1) key val) 49 #[.pointer (some ⟨w.heap.size, 0, none⟩), .pointer (some ⟨w.heap.size + 1, 0, none⟩)] (fun l => Ky.put l key val) P) := Lib.hid (does_put hc P)
  have H1 := ((H.new (.cells #[.string key] 9)).new (.cells #[.string val] 9)).of_eq (show _ = TrAt c es q g * (PutCells w.heap.size (w.heap.size + 1) key val * F) from by unfold PutCells; rw [heap_alloc]; ac_rfl)
  have I1 := ((Io.refl w).alloc (.cells #[.string key] 9)).alloc (.cells #[.string val] 9)
  clear hR o hp hc hck
  go_enter Tryz.func23, Tryz.ntmps23
  go_upto_region 1 with fail
  generalize (w.alloc (.cells #[.string key] 9)).alloc (.cells #[.string val] 9) = w1 at *
  generalize hb : w.heap.size = b at *
  obtain ⟨v0, v2⟩ := tr_cells H1
  have H2 := H1.of_eq (show _ = pts b (.cells #[.string key] 9) * (pts (b + 1) (.cells #[.string val] 9) * (TrAt c es q g * F)) from by unfold PutCells; ac_rfl)
  have q0 := Sat.read H2.left.at 0
  have q1 := Sat.read H2.right.left.at 0
  simp only [List.getElem?_toArray, List.getElem?_cons_zero, List.getElem?_cons_succ] at q0 q1
  go_wp2_with (first
    | (go_at_call 47; (with_reducible refine check_any key val k1.out k2.out HC ?_))
    | (go_at_call 48; (with_reducible refine update_any hk hg hq callPut HO.out.1 HD.out HO.out.2 HNE.out H1 ?_); intro x w2 D2 I2; have D2 := Lib.hid D2))
  exact HH.out x w2 D2.out.drop (I1.trans I2)
set_option maxRecDepth 100000 in
set_option maxHeartbeats 4000000 in
/-- A KEY IS TAKEN AWAY. -/
theorem ctdel_yes {key : Ky.Nm} {g q : Nat} {es : List Ky.En} (hk : c.k.n ≤ 3000) (hg : g ≤ 240) (hq : 60 ≤ q) (hr : Ky.Right es) (hh : Ky.has key es = true)
    (H : Sat (TrAt c es q g * F) w)
    (hR : ∀ d x w', ((d = true ∧ x = 0 ∧ Sat (TrAt c (Ky.del es key) q g * F) w') ∨ (d = false ∧ x = 2 ∧ c.k.room ≤ 30 + (Tb.most q g : Int) ∧ Sat (TrErr c * F) w')) → Io w w' → R (.returned (.tuple #[.bool d, .int .i64 x])) w') :
    Calls Tryz.prog 43 #[.pointer (some ⟨c.tr, 0, none⟩), .string key] w R := by
  have HH := Lib.hid hR
  obtain ⟨val, hval⟩ : ∃ val, Ky.get es key = some val := by
    obtain ⟨h1, h2⟩ := (Ky.has_iff hr).1 hh
    unfold Ky.get
    rw [if_pos hh, List.getElem?_eq_getElem h1]
    exact ⟨_, rfl⟩
  have HG : Hid ((true = true ∧ Ky.get es key = some val) ∨ (true = false ∧ val = ⟨#[]⟩ ∧ Ky.get es key = none)) := Lib.hid (.inl ⟨rfl, hval⟩)
  have HHAS := Lib.hid hh
  have HNE : Hid (es = [] → (fun l => Ky.del l key) [] ≠ []) := Lib.hid (fun e _ => by rw [e] at hh; simp [Ky.has] at hh)
  have HD : Hid (DoesOp (pts w.heap.size (.cells #[.string key] 9)) 67 #[.pointer (some ⟨w.heap.size, 0, none⟩)] (fun l => Ky.del l key) (fun l => Ky.has key l = true)) := Lib.hid does_del
  have H1 := ((H.new (.cells #[.string key] 9))).of_eq (show _ = TrAt c es q g * (pts w.heap.size (.cells #[.string key] 9) * F) from by ac_rfl)
  have I1 := ((Io.refl w).alloc (.cells #[.string key] 9))
  clear hR hval hh hr
  go_enter Tryz.func43, Tryz.ntmps43
  go_upto_region 1 with fail
  generalize w.alloc (.cells #[.string key] 9) = w1 at *
  generalize hb : w.heap.size = b at *
  have q0 := Sat.read H1.right.left.at 0
  simp only [List.getElem?_toArray, List.getElem?_cons_zero, List.getElem?_cons_succ] at q0
  go_upto_region 2 with (go_at_call 66; (with_reducible refine ctget_any hg HG H1 ?_); intro w2 H2 I2)
  have q1 := Sat.read H2.right.left.at 0
  simp only [List.getElem?_toArray, List.getElem?_cons_zero, List.getElem?_cons_succ] at q1
  clear q0
  go_upto_region 4 with (go_at_call 48; (with_reducible refine update_any hk hg hq callDel Tb.loc_gone HD.out HHAS.out HNE.out H2 ?_); intro x w3 D3 I3; have D3 := Lib.hid D3)
  have J3 := (I1.trans I2).trans I3
  rcases D3.out with ⟨rfl, H3⟩ | ⟨rfl, hf, H3⟩
  · clear D3
    go_wp2_with fail
    exact HH.out true 0 w3 (.inl ⟨rfl, rfl, (H3.of_eq (show _ = (TrAt c (Ky.del es key) q g * F) * (pts b (.cells #[.string key] 9)) from by simp only [Nat.add_zero, Nat.zero_min]; ac_rfl)).left⟩) J3
  · clear D3
    obtain ⟨r, H4⟩ := sat_ex.1 H3
    obtain ⟨v0, v1, v2⟩ := cell_cells H4
    obtain ⟨f1, f2⟩ := cell_free H4
    have K4 := cell_setErr (e' := 2) H4
    have J4 := J3.setCell ⟨c.tr, 2, none⟩ (.int .i64 2)
    have HB := Lib.hid hf
    clear hf
    go_wp2_with fail
    exact HH.out false 2 _ (.inr ⟨rfl, rfl, HB.out, sat_ex.2 ⟨r, (K4.of_eq (show _ = (CtCell c r 2 * F) * (pts b (.cells #[.string key] 9)) from by ac_rfl)).left⟩⟩) J4
set_option maxRecDepth 100000 in
set_option maxHeartbeats 4000000 in
theorem ctdel_no {key : Ky.Nm} {g q : Nat} {es : List Ky.En} (hg : g ≤ 240) (hh : Ky.has key es = false)
    (H : Sat (TrAt c es q g * F) w)
    (hR : ∀ w', Sat (TrAt c es q g * F) w' → Io w w' → R (.returned (.tuple #[.bool false, .int .i64 0])) w') :
    Calls Tryz.prog 43 #[.pointer (some ⟨c.tr, 0, none⟩), .string key] w R := by
  have HH := Lib.hid hR
  have HG : Hid ((false = true ∧ Ky.get es key = some ⟨#[]⟩) ∨ (false = false ∧ (⟨#[]⟩ : ByteArray) = ⟨#[]⟩ ∧ Ky.get es key = none)) := Lib.hid (.inr ⟨rfl, rfl, by unfold Ky.get; rw [hh]; rfl⟩)
  have H1 := ((H.new (.cells #[.string key] 9))).of_eq (show _ = TrAt c es q g * (pts w.heap.size (.cells #[.string key] 9) * F) from by ac_rfl)
  have I1 := ((Io.refl w).alloc (.cells #[.string key] 9))
  clear hR hh
  go_enter Tryz.func43, Tryz.ntmps43
  go_upto_region 1 with fail
  generalize w.alloc (.cells #[.string key] 9) = w1 at *
  generalize hb : w.heap.size = b at *
  have q0 := Sat.read H1.right.left.at 0
  simp only [List.getElem?_toArray, List.getElem?_cons_zero, List.getElem?_cons_succ] at q0
  go_wp2_with (go_at_call 66; (with_reducible refine ctget_any hg HG H1 ?_); intro w2 H2 I2)
  exact HH.out _ (H2.of_eq (show _ = (TrAt c es q g * F) * (pts b (.cells #[.string key] 9)) from by ac_rfl)).left (I1.trans I2)
end
end Go.Proofs.YtojiffhknddleaaGreatDoor

/-
  cowtree's visit, by walks. It proves no statement by itself.
-/
namespace Go.Proofs.YtojiffhknddleaaGreatDoor
open Go.RowKit Go.Lib
set_option linter.unusedSimpArgs false
set_option linter.unusedVariables false
set_option linter.unusedSectionVars false
theorem ndV_leaf2 {F : Asn} {l : Bool} {x y z : Value} {es : List Ky.En} (h : NdV F (.agg #[.bool l, x, y, z]) (Ky.lf es)) (hp : 0 < es.length) : l = true ∧ ∃ b off c, x = .slice (some ⟨b, off, none⟩) es.length c ∧ es.length ≤ c ∧ c ≤ maxLen ∧ ReadsE F (.slice (some ⟨b, off, none⟩) es.length c) es := by
  obtain ⟨h0, h1, h2⟩ := ndV_leaf h
  rcases h2 with ⟨_, h3⟩ | ⟨b, off, c, rfl, h4, h5⟩
  · omega
  · exact ⟨h0, b, off, c, rfl, h4, h5, h1⟩
/-- How many more entries may come. -/
structure Room {α : Type} (B : Nat → α → Prop) (step : α → Ky.En → α × Bool) : Prop where
  less : ∀ n s, B (n + 1) s → B n s
  next : ∀ n s x, B (n + 1) s → B n (step s x).1
theorem Room.few {α : Type} {B : Nat → α → Prop} {step : α → Ky.En → α × Bool} (h : Room B step) {n m : Nat} {s : α} (hb : B (n + m) s) : B n s := by
  induction m with
  | zero => exact hb
  | succ m ih => exact ih (h.less _ _ hb)
theorem Room.go {α : Type} {B : Nat → α → Prop} {step : α → Ky.En → α × Bool} (h : Room B step) (l : List Ky.En) {n : Nat} {s : α} (hb : B (l.length + n) s) : B n (Tb.go step s l).1 := by
  induction l generalizing s with
  | nil => simpa [Tb.go] using hb
  | cons x l ih =>
    simp only [Tb.go]
    have hb2 : B (l.length + n) (step s x).1 := h.next _ _ _ (by rw [List.length_cons] at hb; rw [show l.length + n + 1 = l.length + 1 + n by omega]; exact hb)
    split
    · exact ih hb2
    · exact h.few (m := l.length) (by rw [Nat.add_comm]; exact hb2)
/-- WHAT IS DONE WITH ENTRIES, one by one, till it is enough: the state s is held by A s. -/
def YieldOk {α : Type} (A : α → Asn) (B : Nat → α → Prop) (gy : Nat) (cy : Array Value) (step : α → Ky.En → α × Bool) : Prop :=
  ∀ {F : Asn} {w : World} {R : Ending → World → Prop} {l : List Ky.En} {v : Value} (s : α), B l.length s → ReadsE F v l → l.length ≤ 5000 → Sat (A s * F) w →
    (∀ w', Sat (A (Tb.go step s l).1 * F) w' → Io w w' → R (.returned (.bool (Tb.go step s l).2)) w') → Calls Tryz.prog gy (#[v] ++ cy) w R
section
variable {α : Type} {A : α → Asn} {B : Nat → α → Prop} {gy : Nat} {cy : Array Value} {step : α → Ky.En → α × Bool} {c : Cq} {r : Int} {L : Tb.Pg} {key : Ky.Nm}
abbrev VisitOk (A : α → Asn) (B : Nat → α → Prop) (gy : Nat) (cy : Array Value) (step : α → Ky.En → α × Bool) (c : Cq) (r : Int) (L : Tb.Pg) (key : Ky.Nm) (h : Nat) : Prop :=
  ∀ {lo hi : Tb.Bd} {id : Int} {es : List Ky.En} {L0 : Tb.Pg} {cc dp : Nat} {F : Asn} {w : World} {R : Ending → World → Prop} {s : α}, Tb.Sub h lo hi id es L0 cc → Tb.okb lo hi key → (∀ p ∈ L0, p ∈ L) → dp + h < 24 → B (Tb.frm key es).length s → Sat (CtAt c r 0 L * (A s * F)) w →
    (∀ w', Sat (CtAt c r 0 L * (A (Tb.go step s (Tb.frm key es)).1 * F)) w' → Io w w' → R (.returned (.tuple #[.bool (Tb.go step s (Tb.frm key es)).2, .int .i64 0])) w') →
    Calls Tryz.prog 76 #[.pointer (some ⟨c.tr, 0, none⟩), .int .i64 id, .int .i64 (dp : Int), .string key, .func (.func gy) #[] cy] w R
set_option maxRecDepth 100000 in
set_option maxHeartbeats 16000000 in
theorem visit_leaf (eg : ∀ args w, (callFunc gy args).run Tryz.prog w = .ok (.enter gy args) w) (hy : YieldOk A B gy cy step) : VisitOk A B gy cy step c r L key 0 := by
  intro lo hi id es L0 cc dp F w R s0 s o hL hd hb0 H hR
  have HH := Lib.hid hR
  have HY : Hid (YieldOk A B gy cy step) := Lib.hid hy
  obtain ⟨s1, s2, s3, s4, s5, s6, rfl, -⟩ := s
  have N1 : Hid ((id, Ky.lf es) ∈ L) := Lib.hid (hL _ (by simp))
  have N2 := Lib.hid (Ky.NdR.leaf s4)
  have N3 : Hid (Ky.ndSize (Ky.lf es) ≤ 240) := Lib.hid s6
  have HR := Lib.hid s4
  have d1 : (dp : Int) < 24 := by omega
  have HL : Hid (es.length ≤ 5000) := Lib.hid (by have := (Tb.size_low s4.1).1; omega)
  have HPOS : Hid (0 < es.length) := Lib.hid (List.length_pos_iff.2 s5)
  obtain ⟨i, hi2⟩ : ∃ i, i = Ky.pos key es := ⟨_, rfl⟩
  have HI := Lib.hid hi2
  have HHAS : Hid (Ky.has key es = Ky.has key es) := Lib.hid rfl
  obtain ⟨hb, hhb⟩ : ∃ hb, hb = Ky.has key es := ⟨_, rfl⟩
  have HB := Lib.hid hhb
  have HB0 := Lib.hid hb0
  clear hb0
  have HFR : Hid (Tb.frm key es = es.drop i) := Lib.hid (by unfold Tb.frm; rw [← hi2])
  have hle : i ≤ es.length := by rw [hi2]; exact Ky.pos_le key es
  obtain ⟨n1, hn1⟩ : ∃ n, n = es.length := ⟨_, rfl⟩
  have HN := Lib.hid hn1
  have i0 : (0 : Int) ≤ (i : Int) := by omega
  have i1 : (i : Int) ≤ (n1 : Int) := by omega
  have i2 : (n1 : Int) ≤ 5000 := by have := HL.out; omega
  clear hR hy s1 s2 s3 s4 s5 s6 hL hd o hi2 hhb hle hn1
  go_enter Tryz.func76, Tryz.ntmps76
  go_upto_region 2 with (go_at_call 90; (with_reducible refine load_any N1.out N2.out N3.out d1 H ?_); intro G kv w2 NK H2 I2; have NK := Lib.hid NK; have SK := NK.out.shape; obtain ⟨b1, x1, y1, t1, x2, y2, t2, x3, y3, t3, hq⟩ := SK; subst hq)
  obtain ⟨rfl, b4, o4, c4, hq, hc1, hc2, hre⟩ := ndV_leaf2 NK.out HPOS.out
  cases hq
  rw [← HN.out] at hc1 hre ⊢
  have RE := Lib.hid hre
  have H3 := (H2.new (.cells #[.bool true, .slice (some ⟨b4, o4, none⟩) n1 t1, .slice x2 y2 t2, .slice x3 y3 t3] 140)).of_eq (show _ = pts w2.heap.size (.cells #[.bool true, .slice (some ⟨b4, o4, none⟩) n1 t1, .slice x2 y2 t2, .slice x3 y3 t3] 140) * (G * (CtAt c r 0 L * (A s0 * F))) from by ac_rfl)
  have I3 := I2.alloc (.cells #[.bool true, .slice (some ⟨b4, o4, none⟩) n1 t1, .slice x2 y2 t2, .slice x3 y3 t3] 140)
  generalize w2.alloc (.cells #[.bool true, .slice (some ⟨b4, o4, none⟩) n1 t1, .slice x2 y2 t2, .slice x3 y3 t3] 140) = w3 at *
  generalize w2.heap.size = gn at *
  have i3 : (n1 : Int) ≤ (t1 : Int) := by omega
  have i4 : (i : Int) ≤ (t1 : Int) := by omega
  obtain ⟨u0, u1, u2, u3⟩ := nd4 H3
  clear H2 I2 hre NK
  go_upto_region 6 with (go_at_call 73; (with_reducible refine find_any HR.out (RE.out.imp (fun _ hw => hw.right.left)) (by have := HL.out; omega) key H3 HI HB ?_); intro w4 H4 I4; obtain ⟨u0, u1, u2, u3⟩ := nd4 H4)
  obtain ⟨u0, u1, u2, u3⟩ := nd4 H4
  have H5 := H4.of_eq (show _ = A s0 * (CtAt c r 0 L * (G * (pts gn (.cells #[.bool true, .slice (some ⟨b4, o4, none⟩) n1 t1, .slice x2 y2 t2, .slice x3 y3 t3] 140) * F))) from by ac_rfl)
  have RD := reads_drop_if (sz := 2) encE_ok RE.out i (by have := HN.out; omega) (by omega)
  have HDL : Hid ((es.drop i).length ≤ 5000) := Lib.hid (by rw [List.length_drop]; have := HL.out; omega)
  replace RD := RD.imp (G := CtAt c r 0 L * (G * (pts gn (.cells #[.bool true, .slice (some ⟨b4, o4, none⟩) n1 t1, .slice x2 y2 t2, .slice x3 y3 t3] 140) * F))) (fun _ hw => hw.right.left)
  by_cases hci : t1 = i
  · have hd0 : es.drop i = [] := List.drop_eq_nil_of_le (by have := HN.out; omega)
    have HFR0 : Hid (Tb.frm key es = []) := Lib.hid (by rw [HFR.out, hd0])
    clear RD hd0
    have HB1 : Hid (B ([] : List Ky.En).length s0) := Lib.hid (by have := HB0.out; rw [HFR0.out] at this; exact this)
    have RDD := Lib.hid (reads_none (enc := encE) (CtAt c r 0 L * (G * (pts gn (.cells #[.bool true, .slice (some ⟨b4, o4, none⟩) n1 t1, .slice x2 y2 t2, .slice x3 y3 t3] 140) * F))) (some ⟨b4, o4, none⟩) 0)
    subst hci
    go_wp2_with (go_at_fn gy; refine HY.out s0 HB1.out RDD.out (Nat.zero_le _) H5 ?_; intro w5 H6 I6)
    rw [← HFR0.out] at H6 ⊢
    exact HH.out _ (H6.of_eq (show _ = (CtAt c r 0 L * (A (Tb.go step s0 (Tb.frm key es)).1 * F)) * (G * pts gn (.cells #[.bool true, .slice (some ⟨b4, o4, none⟩) n1 t1, .slice x2 y2 t2, .slice x3 y3 t3] 140)) from by ac_rfl)).left ((I3.trans I4).trans I6)
  · rw [if_neg hci] at RD
    have RD := Lib.hid RD
    have HB1 : Hid (B (es.drop i).length s0) := Lib.hid (by have := HB0.out; rw [HFR.out] at this; exact this)
    go_wp2_with (go_at_fn gy; refine HY.out s0 HB1.out RD.out HDL.out H5 ?_; intro w5 H6 I6)
    rw [← HFR.out] at H6 ⊢
    exact HH.out _ (H6.of_eq (show _ = (CtAt c r 0 L * (A (Tb.go step s0 (Tb.frm key es)).1 * F)) * (G * pts gn (.cells #[.bool true, .slice (some ⟨b4, o4, none⟩) n1 t1, .slice x2 y2 t2, .slice x3 y3 t3] 140)) from by ac_rfl)).left ((I3.trans I4).trans I6)
end
end Go.Proofs.YtojiffhknddleaaGreatDoor
