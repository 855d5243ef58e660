/-
  alloc.New, cowtree.New over a new disk, by walks. It proves no statement by itself.
-/
import Derived.Test.YtojiffhknddleaaGreatDoorV33
import Derived.Test.YtojiffhknddleaaGreatDoorV37
namespace Go.Proofs.YtojiffhknddleaaGreatDoor
open Go.RowKit Go.Lib
set_option linter.unusedSimpArgs false
set_option linter.unusedVariables false
set_option linter.unusedSectionVars false
section
variable {F : Asn} {w : World} {R : Ending → World → Prop}
theorem Al.Ok.first {room : Int} (h : 2 ≤ room) : Al.Ok room ⟨[], 2, []⟩ where
  canon := by simp [Rs.Canon]
  low := by simp
  high := h
  free := fun i hi => absurd hi (Rs.mem_nil i)
  keys := by simp
  full := fun i h1 h2 => by simp only at h2; omega
theorem meet_first : Rs.meet [] [(2, 1)] = [] := by decide
set_option maxRecDepth 100000 in
set_option maxHeartbeats 8000000 in
theorem alnew_any {q p n : Nat} (hn : n ≤ 3000) (H : Sat (IsPf q p (Dk.new n) * F) w)
    (hR : ∀ t b w', Sat (PgAt ⟨t, b, q, p, n⟩ [] * F) w' → Io w w' → R (.returned (.pointer (some ⟨t, 0, none⟩))) w') :
    Calls Tryz.prog 32 #[.pointer (some ⟨q, 0, none⟩), .slice none 0 0, .int .i64 2] w R := by
  have HH := Lib.hid hR
  have hl : (Dk.new n).sure.length ≤ 16384 := by simp [Dk.new]; omega
  have hln : ((Dk.new n).sure.length : Int) = (n : Int) := by simp [Dk.new]
  have HLE := Lib.hid hl
  have hmm := @run_makeMap Tryz.prog
  clear hR
  have hmin : min (2 : Int) (max (n : Int) 2) = 2 := by omega
  go_enter Tryz.func32, Tryz.ntmps32
  have H1 := row_lit encR_ok (2, 1) (H.new (.cells #[.int .i64 2, .int .i64 1] 107))
  have I1 := (Io.refl w).alloc (.cells #[.int .i64 2, .int .i64 1] 107)
  have RD := Lib.hid ((Reads.of_row (emp_r H1.left) (by simp)).imp (G := RowR (.slice (some ⟨w.heap.size, 0, none⟩) 1 1) [(2, 1)] * (IsPf q p (Dk.new n) * F)) (fun _ hw => emp_r hw.left))
  go_wp2_with (first
    | (go_at_call 56; refine pf_room H HLE.out ?_; rw [hln])
    | (go_at_call 57; refine meet_any (reads_none _ none 0) (by simp) RD.out (by simp) H1 ?_; intro v' w2 H2 I2; rw [meet_first] at H2; obtain ⟨a3, n3, c3, hq⟩ := rowR_form H2; subst hq))
  have H3 := (map_new (ek := ekC) (ev := evC) H2).new (.cells #[.pointer (some ⟨q, 0, none⟩), .slice a3 n3 c3, .int .i64 2, .map (some w2.heap.size)] 111)
  have e1 : (w2.alloc (.map #[] 0)).heap.size = w2.heap.size + 1 := by simp
  rw [e1] at H3
  refine HH.out (w2.heap.size + 1) w2.heap.size _ (sat_pg.2 ⟨.slice a3 n3 c3, ⟨[], 2, []⟩, Al.Ok.first (by unfold Tq.room; simp only; omega), .refl _, ?_⟩) ((((I1.trans I2).alloc _).alloc _))
  exact (H3.of_eq (show _ = (TxAt ⟨w2.heap.size + 1, w2.heap.size, q, p, n⟩ (.slice a3 n3 c3) ⟨[], 2, []⟩ * F) * RowR (.slice (some ⟨w.heap.size, 0, none⟩) 1 1) [(2, 1)] from by unfold TxAt TxCell RowR; ac_rfl)).left
set_option maxRecDepth 100000 in
set_option maxHeartbeats 2000000 in
theorem ctnew_any {k : Tq} {L : Tb.Pg} (H : Sat (PgAt k L * F) w)
    (hR : ∀ tr w', Sat (CtAt ⟨tr, k⟩ 0 0 L * F) w' → Io w w' → R (.returned (.pointer (some ⟨tr, 0, none⟩))) w') :
    Calls Tryz.prog 31 #[.pointer (some ⟨k.t, 0, none⟩), .int .i64 0] w R := by
  have H1 := H.new (.cells #[.pointer (some ⟨k.t, 0, none⟩), .int .i64 0, .int .i64 0] 93)
  have HH := Lib.hid (hR w.heap.size _ (H1.of_eq (show _ = CtAt ⟨w.heap.size, k⟩ 0 0 L * F from by unfold CtAt CtCell; ac_rfl)) ((Io.refl w).alloc _))
  clear hR
  go_enter Tryz.func31, Tryz.ntmps31
  go_wp2_with fail
  exact HH.out
theorem tr_first {c : Cq} {q g : Nat} (H : Sat (CtAt c 0 0 [] * F) w) : Sat (TrAt c [] q g * F) w := sat_tr.2 ⟨0, [], .inl ⟨rfl, rfl, rfl⟩, by simp [Tb.psi], H⟩
end
end Go.Proofs.YtojiffhknddleaaGreatDoor
