/-
  Edges: the document's examples, by their walk. It proves no statement by itself.
-/
import Derived.Test.YtmacannchaalaaaE3N
import Derived.Test.YtmacannchaalaaaE3L
namespace Go.Proofs.Ytmacannchaalaaa
open Go.RowKit
set_option linter.unusedSimpArgs false
set_option linter.unusedVariables false

theorem readsP_box {F : Asn} {b : Nat} (x1 x2 y1 y2 : Int) : ReadsP (pts b (.cells #[.int .i64 x1, .int .i64 x2, .int .i64 y1, .int .i64 y2] 25 (0, 0)) * F) (.slice (some ⟨b, 0, none⟩) 2 2) [(x1, x2), (y1, y2)] :=
  ⟨_, 2, rfl, by simp, .inr ⟨b, 0, rfl, fun w hw j u hu => by rw [Nat.zero_add, Sat.read hw.left.at j, List.getElem?_toArray]; exact hu⟩⟩
section
variable {F : Asn} {w : World} {R : Ending → World → Prop}
set_option maxRecDepth 100000 in
set_option maxHeartbeats 4000000 in
theorem works_any (H : Sat F w) (h : ∀ w', Sat F w' → Io w w' → R (.returned (.bool true)) w') : Calls Try.prog 11 #[] w R := by
  have HH := Lib.hid h
  have M1 := Lib.hid (show mkP 5 2 = (2, 5) from by decide)
  have E1 := Lib.hid (show mkE 5 2 = 0 from by decide)
  have M2 := Lib.hid (show mkP 3 3 = (0, 0) from by decide)
  have E2 := Lib.hid (show mkE 3 3 = 31 from by decide)
  have M3 := Lib.hid (show mkP 3 1048576 = (0, 0) from by decide)
  have E3 := Lib.hid (show mkE 3 1048576 = 30 from by decide)
  have K0 := Lib.hid (show keyE 1 258 = 0 from by decide)
  have K1 := Lib.hid (show keyS 1 258 = ⟨#[0, 0, 0, 1, 0, 0, 1, 2]⟩ from by decide)
  obtain ⟨p0, p1, p2⟩ := prs_key K0.out
  rw [K1.out] at p0 p1 p2
  have P0 := Lib.hid p0
  have P1 := Lib.hid p1
  have P2 := Lib.hid p2
  have D := Lib.hid (show Eg.diff [(1, 2), (3, 4)] [(1, 2), (2, 9)] = [((2, 9), true), ((3, 4), false)] from by decide)
  have V := Lib.hid (show verE (-1) = 30 from by decide)
  have C : Hid (0 = cmpP (2, 5) (2, 5)) := Lib.hid (by decide)
  have Q1 := fun W => eql_pair (2, 5) (2, 5) W
  have Q2 := fun W => eql_change ((2, 9), true) ((2, 9), true) W
  have Q3 := fun W => eql_change ((3, 4), false) ((3, 4), false) W
  simp only [decide_true] at Q1 Q2 Q3
  clear h p0 p1 p2
  go_enter Try.func11, Try.ntmps11
  go_wp2_with (first
    | (go_at_call 13; first
      | (with_reducible refine make_any H 5 2 ?_; intro w1 H1 I1; rw [M1.out, E1.out]; have B1 := H1.new (.cells #[.int .i64 2, .int .i64 5] 25))
      | (with_reducible refine make_any B1 3 3 ?_; intro w2 H2 I2; rw [M2.out, E2.out]; have B2 := H2.alloc (.cells #[.int .i64 0, .int .i64 0] 25))
      | (with_reducible refine make_any B2 3 1048576 ?_; intro w3 H3 I3; rw [M3.out, E3.out]; have B3 := H3.alloc (.cells #[.int .i64 0, .int .i64 0] 25)))
    | (go_at_call 15; with_reducible refine key_any B3 1 258 ?_; intro w4 H4 I4; rw [K0.out, K1.out])
    | (go_at_call 16; refine parse_any H4 _ (by decide) ?_; intro w5 H5 I5; rw [P0.out, P1.out, P2.out, if_pos rfl, if_pos rfl]; have C1 := H5.new (.cells #[.int .i64 1, .int .i64 2, .int .i64 3, .int .i64 4] 25); have C2 := C1.new (.cells #[.int .i64 1, .int .i64 2, .int .i64 2, .int .i64 9] 25); have zs : (w5.alloc (.cells #[.int .i64 1, .int .i64 2, .int .i64 3, .int .i64 4] 25)).heap.size = w5.heap.size + 1 := (by simp); rw [zs] at C2)
    | (go_at_call 24; refine diff_any (l := [(1, 2), (3, 4)]) (m := [(1, 2), (2, 9)]) (readsP_box 1 2 3 4).with (by decide) (readsP_box 1 2 2 9) (by decide) C2 ?_; intro v6 w6 H6 I6; rw [D.out] at H6; obtain ⟨g6, c6, rfl⟩ := row_shape H6 (by decide); have r0 := row_read H6 0 _ rfl; have r1 := row_read H6 1 _ rfl; have r2 := row_read H6 2 _ rfl; have r3 := row_read H6 3 _ rfl; have r4 := row_read H6 4 _ rfl; have r5 := row_read H6 5 _ rfl; obtain ⟨z0, z1⟩ := box_cells H6.right.right.right; simp only [List.length_cons, List.length_nil, Nat.zero_add, Nat.reduceAdd] at r0 r1 r2 r3 r4 r5)
    | (go_at_call 14; with_reducible refine vertex_any (-1) ?_; rw [V.out])
    | (go_at_call 18; with_reducible refine cmp_d (2, 5) (2, 5) C H6.right.right.right ?_; intro w7 H7 I7))
  refine HH.out _ H7.right ?_
  exact ((((((I1.alloc _).trans I2).trans ((Io.refl w2).alloc _)).trans I3).trans ((Io.refl w3).alloc _)).trans I4).trans ((I5.trans (((Io.refl w5).alloc _).alloc _)).trans (I6.trans I7))
end
end Go.Proofs.Ytmacannchaalaaa
