/-
  Runs: the document's examples, by their walk. It proves no statement by itself.
-/
import Derived.Test.YtaekcmpeglagnaaRq2
import Derived.Test.YtaekcmpeglagnaaRd
import Derived.Test.YtaekcmpeglagnaaRm
namespace Go.Proofs.Ytaekcmpeglagnaa
open Go.RowKit Go.Lib
set_option linter.unusedSimpArgs false
set_option linter.unusedVariables false

section
variable {F : Asn} {w : World} {R : Ending → World → Prop}
theorem reads_two {b : Nat} (x1 x2 y1 y2 : Int) : ReadsR (pts b (.cells #[.int .i64 x1, .int .i64 x2, .int .i64 y1, .int .i64 y2] 28 (0, 0)) * F) (.slice (some ⟨b, 0, none⟩) 2 2) [(x1, x2), (y1, y2)] :=
  ⟨_, 2, rfl, by simp, .inr ⟨b, 0, rfl, fun w hw j u hu => by rw [Nat.zero_add, Sat.read hw.left.at j, List.getElem?_toArray]; exact hu⟩⟩
theorem reads_three {b : Nat} (x1 x2 y1 y2 z1 z2 : Int) : ReadsR (pts b (.cells #[.int .i64 x1, .int .i64 x2, .int .i64 y1, .int .i64 y2, .int .i64 z1, .int .i64 z2] 28 (0, 0)) * F) (.slice (some ⟨b, 0, none⟩) 3 3) [(x1, x2), (y1, y2), (z1, z2)] :=
  ⟨_, 3, rfl, by simp, .inr ⟨b, 0, rfl, fun w hw j u hu => by rw [Nat.zero_add, Sat.read hw.left.at j, List.getElem?_toArray]; exact hu⟩⟩
theorem readsI_len {v : Value} {l : List Int} (h : ReadsI F v l) : ∃ a c, v = .slice a l.length c ∧ (l.length : Int) ≤ 9223372036854775807 := by
  obtain ⟨a, c, h1, h2, _⟩ := h
  exact ⟨a, c, h1, by omega⟩
set_option maxRecDepth 100000 in
set_option maxHeartbeats 8000000 in
theorem works_any (H : Sat F w) (h : ∀ w', Sat F w' → Io w w' → R (.returned (.bool true)) w') : Calls Try.prog 9 #[] w R := by
  have HH := Lib.hid h
  have N1 := Lib.hid (show Rs.norm [(5, 7), (1, 2), (3, 3)] = [(1, 3), (5, 7)] from by decide)
  have N2 := Lib.hid (show Rs.minus [(1, 9)] [(3, 4), (9, 12)] = [(1, 2), (5, 8)] from by decide)
  have N3 := Lib.hid (show Rs.minus [(1, 3)] [(2, 2)] = [(1, 1), (3, 3)] from by decide)
  have N4 := Lib.hid (show firstOf (Rs.norm [(1, 3), (5, 7)]) = (1, true) from by decide)
  have N5 := Lib.hid (show (6 : Int) = Rs.count [(1, 3), (5, 7)] from by decide)
  have N6 := Lib.hid (show true = decide (Rs.Has [(1, 3), (5, 7)] 6) from by decide)
  have N7 := Lib.hid (show false = decide (Rs.Has [(1, 3), (5, 7)] 4) from by decide)
  have N8 := Lib.hid (show [1, 2, 3, 5, 6, 7] = (Rs.elems (Rs.norm [(1, 3), (5, 7)])).take (9 : Int).toNat from by decide)
  have A0 := H.new (.cells #[.int .i64 5, .int .i64 7, .int .i64 1, .int .i64 2, .int .i64 3, .int .i64 3] 28)
  clear h
  go_enter Try.func9, Try.ntmps9
  go_wp2_with (first
    | (go_at_call 19; with_reducible refine norm_any (reads_three 5 7 1 2 3 3) (by decide) A0 ?_; intro v1 w1 H1 I1; rw [N1.out] at H1; have r1 := Reads.of_row H1 (by decide); have C1 := H1.new (.cells #[.int .i64 1, .int .i64 9] 28); have C2 := C1.new (.cells #[.int .i64 3, .int .i64 4, .int .i64 9, .int .i64 12] 28); have zs : (w1.alloc (.cells #[.int .i64 1, .int .i64 9] 28)).heap.size = w1.heap.size + 1 := (by simp); rw [zs] at C2)
    | (go_at_call 20; refine minusr_any (reads_one 1 9).with (by decide) (reads_two 3 4 9 12) (by decide) C2 ?_; intro v2 w2 H2 I2; rw [N2.out] at H2; have r2 := Reads.of_row H2 (by decide); have D1 := H2.new (.cells #[.int .i64 1, .int .i64 3] 28))
    | (go_at_call 23; with_reducible refine remove_any (reads_one 1 3) (by decide) 2 D1 ?_; intro v3 w3 H3 I3; rw [N3.out] at H3; have r3 := Reads.of_row H3 (by decide))
    | (go_at_call 11; with_reducible refine first_any r1.with.with.with.with.with (by decide) N4 H3 ?_; intro w4 H4 I4; have E1 := H4.new (.cells #[.int .i64 1, .int .i64 3, .int .i64 5, .int .i64 7] 28))
    | (go_at_call 22; first
      | (with_reducible refine rsamer_any r1.with.with.with.with.with.with (reads_two 1 3 5 7) (d := true) (Lib.hid (decide_eq_true rfl).symm) E1 ?_; intro w5 H5 I5; have E2 := H5.new (.cells #[.int .i64 1, .int .i64 2, .int .i64 5, .int .i64 8] 28))
      | (with_reducible refine rsamer_any r2.with.with.with.with (reads_two 1 2 5 8) (d := true) (Lib.hid (decide_eq_true rfl).symm) E2 ?_; intro w6 H6 I6; have E3 := H6.new (.cells #[.int .i64 1, .int .i64 1, .int .i64 3, .int .i64 3] 28))
      | (with_reducible refine rsamer_any r3.with.with.with (reads_two 1 1 3 3) (d := true) (Lib.hid (decide_eq_true rfl).symm) E3 ?_; intro w7 H7 I7))
    | (go_at_call 14; with_reducible refine count_any r1.with.with.with.with.with.with.with.with (by decide) N5 H7 ?_; intro w8 H8 I8)
    | (go_at_call 12; first
      | (with_reducible refine has_any r1.with.with.with.with.with.with.with.with 6 N6 H8 ?_; intro w9 H9 I9)
      | (with_reducible refine has_any r1.with.with.with.with.with.with.with.with 4 N7 H9 ?_; intro w10 H10 I10))
    | (go_at_call 16; with_reducible refine list_any r1.with.with.with.with.with.with.with.with (by decide) 9 N8 H10 ?_; intro v11 w11 H11 I11; obtain ⟨a11, c11, rfl, -⟩ := readsI_len (Reads.of_row H11 (by decide))))
  refine HH.out _ H11.right.right.right.right.right.right.right.right.right.right.right ?_
  exact (((((Io.refl w).alloc _).trans I1).trans ((((Io.refl w1).alloc _).alloc _).trans I2)).trans (((Io.refl w2).alloc _).trans I3)).trans (I4.trans ((((Io.refl w4).alloc _).trans I5).trans ((((Io.refl w5).alloc _).trans I6).trans ((((Io.refl w6).alloc _).trans I7).trans (I8.trans (I9.trans (I10.trans I11)))))))
end
end Go.Proofs.Ytaekcmpeglagnaa
