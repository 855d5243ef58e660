/-
  Rows of runs; when two runs are one; the document's clip, by its walk. It proves no statement by itself.
-/
import Derived.Test.YtaekcmpeglagnaaR8b
import Derived.Test.YtaekcmpeglagnaaRw
import Derived.Test.YtaekcmpeglagnaaRows
import Derived.Lib.Hide
import Derived.Laws.StructEq
import Derived.Deep.RegionHeld3
namespace Go.Proofs.Ytaekcmpeglagnaa
open Go.RowKit Go.Lib
set_option linter.unusedSimpArgs false
set_option linter.unusedVariables false

/-- A run's cells. -/
def encR (x : Rn) : List Value := [.int .i64 x.1, .int .i64 x.2]
theorem encR_ok : Enc encR 2 := ⟨fun _ => rfl, fun x u hu => by simp [encR] at hu; rcases hu with rfl | rfl <;> rfl⟩
theorem Try.rowR : RowTy Try.prog 22 28 2 16 := ⟨Try.underlying22, ⟨.agg #[.int .i64 0, .int .i64 0], rfl, by kernel_rfl⟩, by omega⟩
abbrev RowR (v : Value) (l : List Rn) : Asn := RowOf 28 2 encR v l
abbrev ReadsR (F : Asn) (v : Value) (l : List Rn) : Prop := Reads encR F v l
theorem readsR_get {F : Asn} {a : Option Addr} {n c : Nat} {l : List Rn} (hl : ReadsR F (.slice a n c) l) (k : Nat) (hk : k < l.length) : ∃ b off x1 x2, a = some ⟨b, off, none⟩ ∧ l[k] = (x1, x2) ∧ ∀ w, Sat F w →
    w.cell? ⟨b, off + k * 2, none⟩ = some (.int .i64 x1) ∧ w.cell? ⟨b, off + k * 2 + 1, none⟩ = some (.int .i64 x2) := by
  obtain ⟨b, off, h1, h2⟩ := hl.get encR_ok k hk
  exact ⟨b, off, _, _, h1, rfl, fun w hw => ⟨h2 w hw 0 _ (by omega) rfl, h2 w hw 1 _ (by omega) rfl⟩⟩
theorem readsR_len {F : Asn} {v : Value} {l : List Rn} (h : ReadsR F v l) : ∃ a c, v = .slice a l.length c ∧ (l.length : Int) ≤ 9223372036854775807 := by
  obtain ⟨a, c, h1, h2, _⟩ := h
  exact ⟨a, c, h1, by omega⟩
theorem Sat.mid {A B C : Asn} {w : World} (h : Sat (A * (B * C)) w) : Sat (A * C) w := (h.of_eq (show A * (B * C) = B * (A * C) from by ac_rfl)).right
theorem box_cells {x y : Value} {t : TypeId} {b : Nat} {R : Asn} {w : World} (H : Sat (pts b (.cells #[x, y] t (0, 0)) * R) w) : w.cell? ⟨b, 0, none⟩ = some x ∧ w.cell? ⟨b, 1, none⟩ = some y := ⟨Sat.read H.left.at 0, Sat.read H.left.at 1⟩
theorem box_free {x y : Value} {t : TypeId} {b : Nat} {R : Asn} {w : World} (H : Sat (pts b (.cells #[x, y] t (0, 0)) * R) w) : w.frozen? ⟨b, 0, none⟩ = false ∧ w.frozen? ⟨b, 1, none⟩ = false := ⟨Sat.free H.left.at 0, Sat.free H.left.at 1⟩
theorem box_set {x y x' y' : Value} {t : TypeId} {b : Nat} {R : Asn} {w : World} (H : Sat (pts b (.cells #[x, y] t (0, 0)) * R) w) : Sat (pts b (.cells #[x', y'] t (0, 0)) * R) ((w.setCell ⟨b, 0, none⟩ x').setCell ⟨b, 1, none⟩ y') := by
  have := (H.cell 0 x').cell 1 y'
  exact this
theorem row_nilR {F : Asn} {w : World} (H : Sat F w) : Sat (RowR (.slice none 0 0) [] * F) w := rowOf_nil H
/-- `!=` at a run. -/
theorem eql_run (x y : Rn) (w : World) : (binOp .eql 28 (.agg #[.int .i64 x.1, .int .i64 x.2]) (.agg #[.int .i64 y.1, .int .i64 y.2])).run Try.prog w = .ok (.bool (decide (x = y))) w := by
  have u3 := Try.underlying3
  have a3 := Try.isAgg3
  have z3 := Try.sizeOf3
  have hS : Try.prog.underlying 28 = some (.struct (Try.prog.fieldsOf 28)) := by kernel_rfl
  have hp : Try.prog.stoodInHeld 28 = false := by kernel_rfl
  rw [run_eql_struct, show (10000 : Nat) = 9999 + 1 from rfl, run_equalIn_agg w 9999 28 _ _ hS hp]
  simp only [Program.fieldsOf, Try.underlying28]
  go_simp
  obtain ⟨x1, x2⟩ := x
  obtain ⟨y1, y2⟩ := y
  by_cases h1 : x1 = y1 <;> by_cases h2 : x2 = y2 <;> simp [h1, h2]
theorem neq_run (x y : Rn) (w : World) : (binOp .neq 28 (.agg #[.int .i64 x.1, .int .i64 x.2]) (.agg #[.int .i64 y.1, .int .i64 y.2])).run Try.prog w = .ok (.bool (!decide (x = y))) w := by
  have h := eql_run x y w
  rw [run_eql_struct] at h
  rw [run_neq_struct]
  cases hr : (Op.equalIn 10000 28 (.agg #[.int .i64 x.1, .int .i64 x.2]) (.agg #[.int .i64 y.1, .int .i64 y.2])).run Try.prog w with
  | ok b w' =>
    rw [hr] at h
    simp only [Result.andThen_ok] at h ⊢
    cases h
    rfl
  | _ => rw [hr] at h; cases h
section
variable {F : Asn} {w : World} {R : Ending → World → Prop} {l m : List Rn} {v u : Value}
set_option maxRecDepth 100000 in
set_option maxHeartbeats 1000000 in
theorem rclip_at (x1 x2 m1 m2 : Int) (d : Bool) (h1 : (x1 < 0 ∧ m1 = 0) ∨ (0 ≤ x1 ∧ m1 = x1)) (h2 : (4294967295 < x2 ∧ m2 = 4294967295) ∨ (x2 ≤ 4294967295 ∧ m2 = x2)) (hd : d = decide (m1 ≤ m2)) (H : Sat F w) (h : ∀ w', Sat F w' → Io w w' → R (.returned (.tuple #[.agg #[.int .i64 m1, .int .i64 m2], .bool d])) w') :
    Calls Try.prog 35 #[.agg #[.int .i64 x1, .int .i64 x2]] w R := by
  have HH := Lib.hid h
  have HD := Lib.hid hd
  clear h hd
  rcases h1 with ⟨h1, rfl⟩ | ⟨h1, rfl⟩ <;> rcases h2 with ⟨h2, rfl⟩ | ⟨h2, rfl⟩
  · go_enter Try.func35, Try.ntmps35
    go_wp2_with fail
    go_region
    go_wp2_with fail
    refine bodyPost_ret (v := .tuple #[.agg #[.int .i64 (0), .int .i64 (4294967295)], .bool d]) ?_ rfl ?_
    · have hd' := HD.out
      simp [results, Try.results35, go_sem]
      all_goals (first | exact hd' | (rw [hd']; done) | (rw [hd']; simp; done) | (rw [hd']; simp; omega))
    · exact HH.out _ (((H.alloc _).alloc _).alloc _).drew (((((Io.refl w).alloc _).alloc _).alloc _).drew)
  · go_enter Try.func35, Try.ntmps35
    go_wp2_with fail
    go_region
    go_wp2_with fail
    refine bodyPost_ret (v := .tuple #[.agg #[.int .i64 0, .int .i64 m2], .bool d]) ?_ rfl ?_
    · have hd' := HD.out
      simp [results, Try.results35, go_sem]
      all_goals (first | exact hd' | (rw [hd']; done) | (rw [hd']; simp; done) | (rw [hd']; simp; omega))
    · exact HH.out _ (((H.alloc _).alloc _).alloc _).drew (((((Io.refl w).alloc _).alloc _).alloc _).drew)
  · go_enter Try.func35, Try.ntmps35
    go_wp2_with fail
    go_region
    go_wp2_with fail
    refine bodyPost_ret (v := .tuple #[.agg #[.int .i64 m1, .int .i64 4294967295], .bool d]) ?_ rfl ?_
    · have hd' := HD.out
      simp [results, Try.results35, go_sem]
      all_goals (first | exact hd' | (rw [hd']; done) | (rw [hd']; simp; done) | (rw [hd']; simp; omega))
    · exact HH.out _ (((H.alloc _).alloc _).alloc _).drew (((((Io.refl w).alloc _).alloc _).alloc _).drew)
  · go_enter Try.func35, Try.ntmps35
    go_wp2_with fail
    go_region
    go_wp2_with fail
    refine bodyPost_ret (v := .tuple #[.agg #[.int .i64 m1, .int .i64 m2], .bool d]) ?_ rfl ?_
    · have hd' := HD.out
      simp [results, Try.results35, go_sem]
      all_goals (first | exact hd' | (rw [hd']; done) | (rw [hd']; simp; done) | (rw [hd']; simp; omega))
    · exact HH.out _ (((H.alloc _).alloc _).alloc _).drew (((((Io.refl w).alloc _).alloc _).alloc _).drew)
theorem rclip_any (x : Rn) {c : Rn} {d : Bool} (hc : Hid (c = Rs.clip x)) (hd : Hid (d = decide (c.1 ≤ c.2))) (H : Sat F w) (h : ∀ w', Sat F w' → Io w w' → R (.returned (.tuple #[.agg #[.int .i64 c.1, .int .i64 c.2], .bool d])) w') :
    Calls Try.prog 35 #[.agg #[.int .i64 x.1, .int .i64 x.2]] w R := by
  have c1 : c.1 = max x.1 0 := by rw [hc.out]; rfl
  have c2 : c.2 = min x.2 4294967295 := by rw [hc.out]; rfl
  exact rclip_at x.1 x.2 c.1 c.2 d (by omega) (by omega) hd.out H h
end
end Go.Proofs.Ytaekcmpeglagnaa
