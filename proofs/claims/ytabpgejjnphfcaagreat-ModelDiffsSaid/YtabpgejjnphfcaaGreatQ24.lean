/-
  The model of the index: commit, branch, drop, by their walks. It proves no statement by itself.
-/
import Derived.Test.YtabpgejjnphfcaaGreatQ22
import Derived.Test.YtabpgejjnphfcaaGreatQ23
namespace Go.Proofs.YtabpgejjnphfcaaGreat
open Go.RowKit Go.Lib
open Md (Nm St)
set_option linter.unusedSimpArgs false
set_option linter.unusedVariables false
set_option linter.unusedSectionVars false
section
variable {F : Asn} {w : World} {R : Ending → World → Prop} {h : Mh} {S : MV}
theorem ModelAt.ofV {l : List (Int × (Int × Value × List Pr))} (H : Sat (MapAt ekI evV h.bv l * (MCell h S.next * (MapAt ekS ekI h.bh S.heads * (MapAt ekS evP h.bp S.pend * F)))) w) : Sat (ModelAt h { S with vers := l } * F) w := H.of_eq (by unfold ModelAt MapsAt; ac_rfl)
theorem ModelAt.ofH {l : List (Nm × Int)} (H : Sat (MapAt ekS ekI h.bh l * (MCell h S.next * (MapAt ekI evV h.bv S.vers * (MapAt ekS evP h.bp S.pend * F)))) w) : Sat (ModelAt h { S with heads := l } * F) w := H.of_eq (by unfold ModelAt MapsAt; ac_rfl)
theorem ModelAt.ofP {l : List (Nm × (Value × List Pr))} (H : Sat (MapAt ekS evP h.bp l * (MCell h S.next * (MapAt ekI evV h.bv S.vers * (MapAt ekS ekI h.bh S.heads * F)))) w) : Sat (ModelAt h { S with pend := l } * F) w := H.of_eq (by unfold ModelAt MapsAt; ac_rfl)
theorem ModelAt.setNext (H : Sat (ModelAt h S * F) w) (n : Int) : Sat (ModelAt h { S with next := n } * F) (w.setCell ⟨h.b, 3, none⟩ (.int .i64 n)) := by
  unfold ModelAt MCell at H
  rw [star_assoc] at H
  exact (H.cell 3 (.int .i64 n)).of_eq (by unfold ModelAt MCell; rw [star_assoc]; rfl)
theorem ModelAt.free (H : Sat (ModelAt h S * F) w) (j : Nat) : w.frozen? ⟨h.b, j, none⟩ = false := by
  unfold ModelAt MCell at H
  exact Sat.free H.left.left.at j
theorem ModelAt.lt (H : Sat (ModelAt h S * F) w) : h.b < w.heap.size := by
  unfold ModelAt MCell at H
  exact H.left.left.lt
def MV.commit (S : MV) (n : Nm) : MV := { vers := aput S.vers S.next (Md.hget S.st n, S.now n), heads := aput S.heads n S.next, pend := adel S.pend n, next := S.next + 1 }
theorem MV.commit_st {S : MV} {n : Nm} (hn : ¬ 1048576 < S.next) : (S.commit n).st = (Md.commit S.st n).1 := by
  have hn' : ¬ 1048576 < S.st.next := hn
  unfold Md.commit
  rw [if_neg hn']
  unfold MV.commit
  simp only [MV.st, aput_amap, adel_amap]
  have : Md.now S.st n = (S.now n).2 := S.now_st n
  unfold MV.st at this
  rw [this]
  rfl
theorem MV.commit_ok {S : MV} {n : Nm} {p : Pl} (h : S.Ok p) : (S.commit n).Ok p := by
  refine ⟨fun id x e => ?_, fun m x e => ?_⟩
  · unfold MV.commit at e
    simp only [Md.aget_put] at e
    split at e
    · cases e; exact h.now n
    · exact h.v id x e
  · unfold MV.commit at e
    simp only [Md.aget_del] at e
    split at e
    · cases e
    · exact h.q m x e
/-- The block of an answer. -/
def ansZ (r : Nat) : Asn := pts r (.cells #[.int .i64 0, .int .i64 0, .bool false, .int .i64 0, .slice none 0 0, .slice none 0 0, .slice none 0 0, .slice none 0 0] 37 (0, 0))
def ansA (r : Nat) (A : Md.An) (s : Sl4) : Asn := pts r (.cells #[.int .i64 A.err, .int .i64 A.version, .bool A.yes, .int .i64 A.count, s.c, s.p, s.v, s.b] 37 (0, 0))
/-- The rows of an answer are slices. -/
structure Sl4.Fit (s : Sl4) : Prop where
  c : s.c.oneCell' = true
  p : s.p.oneCell' = true
  v : s.v.oneCell' = true
  b : s.b.oneCell' = true
theorem nil4_fit : nil4.Fit := ⟨rfl, rfl, rfl, rfl⟩
theorem Tryz.sizeAns : (Tryz.prog.info? 37).map (·.size) = some 8 := by kernel_rfl
theorem store_ans {r : Nat} {A : Md.An} {s : Sl4} {ops : Array Oper} {rest : List Oper} {o : Oper} {a : Act} {Q : Exit → Act → World → Prop} (hgd : o.guard = none) (x y : Operand) (ho : o.op = .store 37 x y) (hx : a.eval x = .pointer (some ⟨r, 0, none⟩)) (hs : s.Fit)
    (H : Sat (ansZ r * F) w) (hy : a.eval y = ansV A s)
    (h : ∀ w', Sat (ansA r A s * F) w' → Io w w' → wpList Tryz.prog ops Q rest (a.put o.dst undef) w') : wpList Tryz.prog ops Q (o :: rest) a w := by
  obtain ⟨h1, h2, h3, h4⟩ := hs
  exact wpList_store_sl hgd 37 x y ho hx hy H Tryz.sizeAns rfl (by
    refine Array.all_eq_true_iff_forall_mem.2 fun v hv => ?_
    simp only [List.mem_toArray, List.mem_cons, List.not_mem_nil, or_false] at hv
    rcases hv with rfl | rfl | rfl | rfl | rfl | rfl | rfl | rfl <;> first | rfl | assumption) h
theorem ansA_reads {r : Nat} {A : Md.An} {s : Sl4} (H : Sat (ansA r A s * F) w) : w.cell? ⟨r, 0, none⟩ = some (.int .i64 A.err) ∧ w.cell? ⟨r, 1, none⟩ = some (.int .i64 A.version) ∧ w.cell? ⟨r, 2, none⟩ = some (.bool A.yes) ∧ w.cell? ⟨r, 3, none⟩ = some (.int .i64 A.count) ∧
    w.cell? ⟨r, 4, none⟩ = some s.c ∧ w.cell? ⟨r, 5, none⟩ = some s.p ∧ w.cell? ⟨r, 6, none⟩ = some s.v ∧ w.cell? ⟨r, 7, none⟩ = some s.b := by
  have k := H.left.at
  exact ⟨Sat.read k 0, Sat.read k 1, Sat.read k 2, Sat.read k 3, Sat.read k 4, Sat.read k 5, Sat.read k 6, Sat.read k 7⟩
theorem ansZ_new (H : Sat F w) : Sat (ansZ w.heap.size * F) (w.alloc (.cells #[.int .i64 0, .int .i64 0, .bool false, .int .i64 0, .slice none 0 0, .slice none 0 0, .slice none 0 0, .slice none 0 0] 37)) := H.new _
theorem io_ansZ (w : World) : Io w (w.alloc (.cells #[.int .i64 0, .int .i64 0, .bool false, .int .i64 0, .slice none 0 0, .slice none 0 0, .slice none 0 0, .slice none 0 0] 37)) := (Io.refl w).alloc _
set_option maxRecDepth 100000 in
set_option maxHeartbeats 4000000 in
theorem commit_any (n : Nm) {va : Option Addr} {vl vc : Nat} {l : List Pr} (HVL : Hid ((.slice va vl vc, l) = S.now n)) (hs : 0 ≤ S.next ∧ S.next ≤ 9223372036854775806) (H : Sat (ModelAt h S * F) w)
    (hh : ∀ w', Sat (ModelAt h (if 1048576 < S.next then S else S.commit n) * F) w' → Io w w' → R (.returned (ansV (Md.commit S.st n).2 nil4)) w') :
    Calls Tryz.prog 69 #[h.ptr, .string n] w R := by
  have HH := Lib.hid hh
  clear hh
  have H0 := ansZ_new H
  have I0 := io_ansZ w
  by_cases hn : 1048576 < S.next
  · have HE : Hid ((Md.commit S.st n).2 = Md.fail 195) := Lib.hid (by have hn' : 1048576 < S.st.next := hn; unfold Md.commit; rw [if_pos hn'])
    rw [HE.out, if_pos hn] at HH
    go_enter Tryz.func69, Tryz.ntmps69
    go_upto_region 1 with fail
    generalize w.alloc (.cells #[.int .i64 0, .int .i64 0, .bool false, .int .i64 0, .slice none 0 0, .slice none 0 0, .slice none 0 0, .slice none 0 0] 37) = w0 at *
    generalize w.heap.size = r at *
    obtain ⟨c0, c1, c2, c3⟩ := ModelAt.cells H0.right
    go_wp2_with (first
      | (go_at_call 35; with_reducible refine fail_any 195 H0 ?_; intro w1 H1 I1)
      | (with_reducible refine store_ans rfl (.tmp 4) (.tmp 11) rfl rfl nil4_fit H1 rfl ?_; intro w2 H2 I2; obtain ⟨d0, d1, d2, d3, d4, d5, d6, d7⟩ := ansA_reads H2))
    exact bodyPost_ret (v := ansV (Md.fail 195) nil4) (by simp [results, Tryz.results69, go_sem, d0, d1, d2, d3, d4, d5, d6, d7]) rfl (HH.out _ H2.right ((I0.trans I1).trans I2))
  · have HE : Hid ((Md.commit S.st n).2 = { version := S.next }) := Lib.hid (by have hn' : ¬ 1048576 < S.st.next := hn; unfold Md.commit; rw [if_neg hn']; rfl)
    rw [HE.out, if_neg hn] at HH
    go_enter Tryz.func69, Tryz.ntmps69
    go_upto_region 1 with fail
    generalize w.alloc (.cells #[.int .i64 0, .int .i64 0, .bool false, .int .i64 0, .slice none 0 0, .slice none 0 0, .slice none 0 0, .slice none 0 0] 37) = w0 at *
    generalize w.heap.size = r at *
    have H1 : Sat (ModelAt h S * (ansZ r * F)) w0 := H0.of_eq (by ac_rfl)
    obtain ⟨c0, c1, c2, c3⟩ := ModelAt.cells H1
    have hn2 : S.next ≤ 1048576 := by omega
    go_upto_region 4 with fail
    have Z0 : _ ∧ _ := ⟨ModelAt.cells H1.drew, look_head H1.drew n⟩
    have HZ := Lib.hid (fun W (hW : Sat (ModelAt h S * (ansZ r * F)) W) => (⟨ModelAt.cells hW, look_head hW n⟩ : _ ∧ _))
    have H1d := H1.drew
    go_region_held3 (fun W => (W.cell? ⟨h.b, 0, none⟩ = some (.map (some h.bv)) ∧ W.cell? ⟨h.b, 1, none⟩ = some (.map (some h.bh)) ∧ W.cell? ⟨h.b, 2, none⟩ = some (.map (some h.bp)) ∧ W.cell? ⟨h.b, 3, none⟩ = some (.int .i64 S.next)) ∧ (Instr.lookup 71 (.map (some h.bh)) (.string n) false).run Tryz.prog W = .ok (.int .i64 (Md.hget S.st n)) W) (first | exact Z0 | exact Z1 | exact Z2) (first
      | (go_at_call 42; with_reducible refine now_any n HVL H1d ?_; intro w1 H2 I2; have Z1 := HZ.out _ H2; obtain ⟨w2, e2, H3, I3⟩ := run_update (P := Tryz.prog) (T := 70) intKey Tryz.underlying70 Tryz.underlying3 (ModelAt.asV H2) S.next (Md.hget S.st n, .slice va vl vc, l); have K3 := ModelAt.ofV H3; have Z2 : _ ∧ _ := ⟨ModelAt.cells K3, look_head K3 n⟩))
    all_goals
      obtain ⟨a0, a1, a2, a3⟩ := ModelAt.cells K3
      obtain ⟨w3, e4, H4, I4⟩ := run_update (P := Tryz.prog) (T := 71) strKey Tryz.underlying71 Tryz.underlying9 (ModelAt.asH K3) n S.next
      have K4 := ModelAt.ofH H4
      obtain ⟨b0, b1, b2, b3⟩ := ModelAt.cells K4
      obtain ⟨w4, e5, H5, I5⟩ := run_delete (P := Tryz.prog) (T := 72) strKey Tryz.underlying72 Tryz.underlying9 (ModelAt.asP K4) n 0 9
      have K5 := ModelAt.ofP H5
      obtain ⟨f0, f1, f2, f3⟩ := ModelAt.cells K5
      have fr := ModelAt.free K5 3
      have K6 := ModelAt.setNext K5 (S.next + 1)
      have I6 := ((((((I0.drew).trans I2).trans I3).trans I4).trans I5).setCell ⟨h.b, 3, none⟩ (.int .i64 (S.next + 1)))
      have K7 : Sat (ansZ r * (ModelAt h (S.commit n) * F)) (w4.setCell ⟨h.b, 3, none⟩ (.int .i64 (S.next + 1))) := K6.of_eq (by unfold MV.commit; rw [← HVL.out]; ac_rfl)
      have hs1 : S.next + 1 ≤ 9223372036854775807 := by omega
      simp only at a0 a1 a2 a3 b0 b1 b2 b3 f0 f1 f2 f3 e4 e5
      clear HZ Z0 Z1 Z2
      go_wp2_with (first
        | (with_reducible refine store_ans rfl (.tmp 4) (.tmp 50) rfl rfl nil4_fit (A := { version := S.next }) K7 rfl ?_; intro w7 H7 I7; obtain ⟨d0, d1, d2, d3, d4, d5, d6, d7⟩ := ansA_reads H7))
      exact bodyPost_ret (v := ansV { version := S.next } nil4) (by simp [results, Tryz.results69, go_sem, d0, d1, d2, d3, d4, d5, d6, d7]) rfl (HH.out _ H7.right (I6.trans I7))
end
end Go.Proofs.YtabpgejjnphfcaaGreat
