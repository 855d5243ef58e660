/-
  cowtree's change of a leaf, by a walk. It proves no statement by itself.
-/
import Derived.Test.YtojiffhknddleaaGreatDoorV28
import Derived.Test.YtojiffhknddleaaGreatDoorV29
namespace Go.Proofs.YtojiffhknddleaaGreatDoor
open Go.RowKit Go.Lib
set_option linter.unusedSimpArgs false
set_option linter.unusedVariables false
set_option linter.unusedSectionVars false
/-- WHAT IS DONE TO A LEAF's ENTRIES by a function that came in: op; A is what it holds. -/
def DoesOp (A : Asn) (g : Nat) (cb : Array Value) (op : List Ky.En → List Ky.En) (P : List Ky.En → Prop) : Prop :=
  ∀ {F : Asn} {w : World} {R : Ending → World → Prop} {l : List Ky.En} {v : Value}, Ky.Right l → Ky.size l ≤ 240 → P l → ReadsE (A * F) v l → SlOk v l.length → Sat (A * F) w →
    (∀ v' w', Sat (RowE v' (op l) * (A * F)) w' → Io w w' → R (.returned v') w') → Calls Tryz.prog g (#[v] ++ cb) w R
theorem ndV_leaf {F : Asn} {l : Bool} {x y z : Value} {es : List Ky.En} (h : NdV F (.agg #[.bool l, x, y, z]) (Ky.lf es)) : l = true ∧ ReadsE F x es ∧ SlOk x es.length := by
  obtain ⟨se, sk, sx, e, ⟨h1, h2⟩, _⟩ := h
  cases e
  exact ⟨rfl, h1, h2⟩
theorem ndV_of_row {v : Value} {l : List Ky.En} {F : Asn} {w : World} (H : Sat (RowE v l * F) w) (hl : l.length ≤ 5000) : NdV (RowE v l * emp) (.agg #[.bool true, v, .slice none 0 0, .slice none 0 0]) (Ky.lf l) :=
  ⟨_, _, _, rfl, ⟨Reads.of_row (emp_r H.left) (by omega), slOk_row H⟩, ⟨reads_none _ none 0, nil_ok⟩, reads_none _ none 0, nil_ok⟩
theorem PartRes.frame {c : Cq} {r e : Int} {X F : Asn} {M : Tb.Pg} {B : Int} {D : List Int → List Ky.Nm → Tb.Pg → Nat → Prop} {x : Int} {u v : Value} {w : World} (h : PartRes c r e (X * F) M B D x u v w) :
    ∃ Y, Sat (Y * (X * F)) w ∧ ∀ w', Sat (Y * F) w' → PartRes c r e F M B D x u v w' := by
  rcases h with ⟨rfl, kids, keys, L', c', d, H⟩ | ⟨rfl, hb, H⟩
  · exact ⟨RowNu u kids * (RowTx v keys * CtAt c r e (L' ++ M)), H.of_eq (by ac_rfl), fun w' H' => .inl ⟨rfl, kids, keys, L', c', d, H'.of_eq (by ac_rfl)⟩⟩
  · exact ⟨CtCell c r e, H, fun w' H' => .inr ⟨rfl, hb, H'⟩⟩
section
variable {c : Cq} {r e : Int} {L M : Tb.Pg} {F A : Asn} {w : World} {R : Ending → World → Prop}
set_option maxRecDepth 100000 in
set_option maxHeartbeats 16000000 in
/-- A LEAF IS CHANGED. -/
theorem change_leaf {g : Nat} {cb : Array Value} {op : List Ky.En → List Ky.En} {P : List Ky.En → Prop} {key : Ky.Nm} {d : Nat} {lo hi : Tb.Bd} {id dp : Int} {es : List Ky.En} {cc : Nat}
    (s : Tb.Sub 0 lo hi id es L cc) (o : Tb.Loc op P key d) (hlo : Tb.ge lo key) (hhi : Tb.lt hi key) (hp : P es) (hd : dp < 24) (hk : c.k.n ≤ 3000) (eg : ∀ args w, (callFunc g args).run Tryz.prog w = .ok (.enter g args) w) (hdo : DoesOp A g cb op P)
    (H : Sat (CtAt c r e (L ++ M) * (A * F)) w)
    (h : ∀ x a1 n1 c1 a2 n2 c2 w', PartRes c r e (A * F) M (4 + (M.length : Int)) (fun kids keys L' c' => Tb.Done 0 lo hi cc d L kids keys (op es) L' c') x (.slice a1 n1 c1) (.slice a2 n2 c2) w' → Io w w' → R (.returned (.tuple #[.agg #[.slice a1 n1 c1, .slice a2 n2 c2], .int .i64 x])) w') :
    Calls Tryz.prog 70 #[.pointer (some ⟨c.tr, 0, none⟩), .int .i64 id, .int .i64 dp, .string key, .func (.func g) #[] cb] w R := by
  have HH := Lib.hid h
  have HS := Lib.hid s
  have HO := Lib.hid (And.intro o (And.intro hlo (And.intro hhi hp)))
  have s' := s
  obtain ⟨s1, s2, s3, s4, s5, s6, hL, -⟩ := s'
  have N1 : Hid ((id, Ky.lf es) ∈ L ++ M) := Lib.hid (by rw [hL]; simp)
  have N2 := Lib.hid (Ky.NdR.leaf s4)
  have N3 : Hid (Ky.ndSize (Ky.lf es) ≤ 240) := Lib.hid s6
  have HR := Lib.hid (And.intro s4 (And.intro s6 hp))
  have HD := Lib.hid hd
  have HDO : Hid (DoesOp A g cb op P) := Lib.hid hdo
  have HL : Hid ((op es).length ≤ 5000) := Lib.hid (by
    have h1 := o.size es s4 hp
    have h2 := o.le
    have h3 := (Tb.size_low (o.right es s4).1).1
    omega)
  have H1 := (H.new zP).of_eq (show _ = CtAt c r e (L ++ M) * (pts w.heap.size zP * (A * F)) from by ac_rfl)
  have I1 := (Io.refl w).alloc zP
  clear h s o hlo hhi hp s1 s2 s3 s4 s5 s6 hL hd hdo
  go_enter Tryz.func70, Tryz.ntmps70
  go_upto_region 1 with fail
  generalize w.alloc zP = w1 at *
  generalize hb : w.heap.size = b at *
  go_upto_region 2 with (go_at_call 90; with_reducible refine load_any N1.out N2.out N3.out HD.out H1 ?_; intro G kv w2 NK H2 I2; have NK := Lib.hid NK; have SK := NK.out.shape; obtain ⟨b1, x1, y1, t1, x2, y2, t2, x3, y3, t3, hq⟩ := SK; subst hq)
  obtain ⟨rfl, -, -⟩ := ndV_leaf NK.out
  have H3 := (H2.new (.cells #[.bool true, .slice x1 y1 t1, .slice x2 y2 t2, .slice x3 y3 t3] 140)).of_eq (show _ = CtAt c r e (L ++ M) * (pts w2.heap.size (.cells #[.bool true, .slice x1 y1 t1, .slice x2 y2 t2, .slice x3 y3 t3] 140) * (pts b zP * (A * (G * F)))) from by ac_rfl)
  have I3 := (I1.trans I2).alloc (.cells #[.bool true, .slice x1 y1 t1, .slice x2 y2 t2, .slice x3 y3 t3] 140)
  generalize w2.alloc (.cells #[.bool true, .slice x1 y1 t1, .slice x2 y2 t2, .slice x3 y3 t3] 140) = w3 at *
  generalize w2.heap.size = gn at *
  clear H1 H2 I1 I2
  obtain ⟨u0, u1, u2, u3⟩ := nd4 H3.right
  have H4 := H3.of_eq (show _ = A * (CtAt c r e (L ++ M) * (pts gn (.cells #[.bool true, .slice x1 y1 t1, .slice x2 y2 t2, .slice x3 y3 t3] 140) * (pts b zP * (G * F)))) from by ac_rfl)
  have RE := Lib.hid ((ndV_leaf NK.out).2.1.imp (G := A * (CtAt c r e (L ++ M) * (pts gn (.cells #[.bool true, .slice x1 y1 t1, .slice x2 y2 t2, .slice x3 y3 t3] 140) * (pts b zP * (G * F))))) (fun _ hw => hw.right.right.right.right.left))
  have SE := Lib.hid (ndV_leaf NK.out).2.2
  go_wp2_with (first
    | (go_at_fn g; refine HDO.out HR.out.1 HR.out.2.1 HR.out.2.2 RE.out SE.out H4 ?_; intro v5 w5 H5 I5; have SV := rowOf_form3 H5; obtain ⟨a5, n5, k5, hq⟩ := SV; subst hq)
    | (go_at_call 69; with_reducible refine store_leaf HS.out HO.out.1 HO.out.2.1 HO.out.2.2.1 HO.out.2.2.2 hk ((ndV_of_row H5 HL.out).imp (fun _ hw => emp_r hw.left.right.left)) (H5.of_eq (show _ = CtAt c r e (L ++ M) * ((pts b zP * (RowE (.slice a5 n5 k5) (op es) * (pts gn (.cells #[.bool true, .slice x1 y1 t1, .slice x2 y2 t2, .slice x3 y3 t3] 140) * G))) * (A * F)) from by unfold RowE; ac_rfl)) ?_; intro x a1 n1 c1 a2 n2 c2 w6 D6 I6; have D6 := Lib.hid D6; have D7 := D6.out.frame; obtain ⟨Y, H6, hY⟩ := D7; have HY := Lib.hid hY; clear hY D6; have K6 := (H6.of_eq (show _ = (pts b zP * (Y * (A * F))) * (RowE (.slice a5 n5 k5) (op es) * (pts gn (.cells #[.bool true, .slice x1 y1 t1, .slice x2 y2 t2, .slice x3 y3 t3] 140) * G)) from by unfold RowE; ac_rfl)).left; obtain ⟨y0, y1⟩ := nd2 K6; obtain ⟨f0, f1⟩ := nd2f K6))
  have K := K6.cells2 (x' := .slice a1 n1 c1) (y' := .slice a2 n2 c2)
  have J := (((I3.trans I5).trans I6).setCell ⟨b, 0, none⟩ (.slice a1 n1 c1)).setCell ⟨b, 1, none⟩ (.slice a2 n2 c2)
  generalize (w6.setCell ⟨b, 0, none⟩ (.slice a1 n1 c1)).setCell ⟨b, 1, none⟩ (.slice a2 n2 c2) = W at *
  clear y0 y1 f0 f1
  obtain ⟨y0, y1⟩ := nd2 K
  exact bodyPost_ret (v := .tuple #[.agg #[.slice a1 n1 c1, .slice a2 n2 c2], .int .i64 x]) (by simp [results, Tryz.results70, go_sem, y0, y1]) rfl (HH.out _ _ _ _ _ _ _ W (HY.out _ K.right) J)
end
end Go.Proofs.YtojiffhknddleaaGreatDoor
