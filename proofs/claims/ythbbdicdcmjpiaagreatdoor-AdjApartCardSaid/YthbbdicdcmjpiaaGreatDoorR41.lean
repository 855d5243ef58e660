/-
  The document's lists of pairs: Less, Has, by their walks. It proves no statement by itself.
-/
import Derived.Test.YthbbdicdcmjpiaaGreatDoorR34
import Derived.Test.YthbbdicdcmjpiaaGreatDoorR03
namespace Go.Proofs.YthbbdicdcmjpiaaGreatDoor
open Go.RowKit
set_option linter.unusedSimpArgs false
set_option linter.unusedVariables false

theorem readsP_at {F : Asn} {a : Option Addr} {n c : Nat} {l : List Pr} (hl : ReadsP F (.slice a n c) l) (k : Nat) (hk : k < l.length) : ∃ b off, a = some ⟨b, off, none⟩ ∧ ∀ w, Sat F w →
    w.cell? ⟨b, off + k * 2, none⟩ = some (.int .i64 l[k].1) ∧ w.cell? ⟨b, off + k * 2 + 1, none⟩ = some (.int .i64 l[k].2) := by
  obtain ⟨a', c', h1, _, h3⟩ := hl
  cases h1
  rcases h3 with rfl | ⟨b, off, e, h3⟩
  · simp at hk
  · refine ⟨b, off, e, fun w hw => ⟨?_, ?_⟩⟩
    · have := h3 w hw (2 * k) _ (pv_get0 l k hk)
      rwa [Nat.mul_comm 2 k] at this
    · have := h3 w hw (2 * k + 1) _ (pv_get1 l k hk)
      rwa [Nat.mul_comm 2 k, ← Nat.add_assoc] at this

section
variable {F : Asn} {w : World} {R : Ending → World → Prop} {l : List Pr} {v : Value}
end
end Go.Proofs.YthbbdicdcmjpiaaGreatDoor

/-
  Rows of pairs: a row reads as its pairs; append of one pair, of a row of pairs. It proves no statement by itself.
-/
namespace Go.Proofs.YthbbdicdcmjpiaaGreatDoor
open Go.RowKit
set_option linter.unusedSimpArgs false
set_option linter.unusedVariables false

/-- A row of pairs that is owned. -/
abbrev RowP (v : Value) (l : List Pr) : Asn := Row 35 2 v l.length (pv l)

theorem readsP_row {F : Asn} {w : World} {v : Value} {l : List Pr} (H : Sat (RowP v l * F) w) (hl : l.length ≤ 1000000) : ReadsP (RowP v l * F) v l := by
  obtain ⟨hx, ⟨rfl, h0, _⟩ | ⟨g, cap, cur, rfl, h2, h3, h4, h5, _⟩⟩ := sat_row.1 H
  · have : l = [] := List.eq_nil_of_length_eq_zero h0
    subst this
    exact ⟨none, 0, rfl, by simp, .inl rfl⟩
  · refine ⟨some ⟨g, 0, none⟩, cap, rfl, by omega, .inr ⟨g, 0, rfl, fun w' hw' j u hu => ?_⟩⟩
    obtain ⟨_, ⟨h0, _⟩ | ⟨g', cap', cur', e1, e2, e3, e4, e5, h⟩⟩ := sat_row.1 hw'
    · cases h0
    · cases e1
      rw [Nat.zero_add, Sat.read h.left.at j]
      have hj : j < (pv l).length := (List.getElem?_eq_some_iff.1 hu).1
      rw [← e5, List.length_take] at hj
      rw [← e5, List.getElem?_take_of_lt (by omega), Array.getElem?_toList] at hu
      exact hu
theorem readsP_get {F : Asn} {a : Option Addr} {n c : Nat} {l : List Pr} (hl : ReadsP F (.slice a n c) l) (k : Nat) (hk : k < l.length) : ∃ b off x1 x2, a = some ⟨b, off, none⟩ ∧ l[k] = (x1, x2) ∧ ∀ w, Sat F w →
    w.cell? ⟨b, off + k * 2, none⟩ = some (.int .i64 x1) ∧ w.cell? ⟨b, off + k * 2 + 1, none⟩ = some (.int .i64 x2) := by
  obtain ⟨b, off, h1, h2⟩ := readsP_at hl k hk
  exact ⟨b, off, _, _, h1, rfl, h2⟩
theorem Sat.mid {A B C : Asn} {w : World} (h : Sat (A * (B * C)) w) : Sat (A * C) w := (h.of_eq (show A * (B * C) = B * (A * C) from by ac_rfl)).right
theorem box_cells {x y : Value} {t : TypeId} {b : Nat} {R : Asn} {w : World} (H : Sat (pts b (.cells #[x, y] t (0, 0)) * R) w) : w.cell? ⟨b, 0, none⟩ = some x ∧ w.cell? ⟨b, 1, none⟩ = some y := ⟨Sat.read H.left.at 0, Sat.read H.left.at 1⟩
theorem row_nilP {F : Asn} {w : World} (H : Sat F w) : Sat (RowP (.slice none 0 0) [] * F) w := row_nil _ _ _ _ H

section
variable {R : Asn} {w : World} {ops : Array Oper} {rest : List Oper} {o : Oper} {a : Act} {Q : Exit → Act → World → Prop}
/-- append of one pair that has just been laid in a block of its own. -/
theorem wpList_append_pair (hgd : o.guard = none) (s x : Operand) (ho : o.op = .call { callee := .builtin .append, args := #[s, x], argTypes := #[29, 29] })
    {v : Value} {l : List Pr} (hs : a.eval s = v) (H : Sat (RowP v l * R) w) (hl : l.length ≤ 1000000) {b c : Nat} {x1 x2 : Int} (hx : a.eval x = .slice (some ⟨b, 0, none⟩) 1 c) (hb : b = w.heap.size)
    (h : ∀ v' w', Sat (RowP v' (l ++ [(x1, x2)]) * R) w' → Io w w' → wpList Tryz.prog ops Q rest (a.put o.dst v') w') :
    wpList Tryz.prog ops Q (o :: rest) a (w.alloc (.cells #[.int .i64 x1, .int .i64 x2] 35)) := by
  obtain ⟨i0, hi, hz0, hz1, hz2⟩ := info_parts Tryz.info35
  refine wpList_append_new hgd s x 29 ho 35 Tryz.underlying29 hi hz0 hz1 hz2 rfl hs H 1 c [.int .i64 x1, .int .i64 x2] hx hb rfl rfl (by omega) (by omega) (by omega) ?_
  intro g c' w' H' I'
  refine h _ w' (H'.of_eq ?_) I'
  unfold RowP
  rw [show (l ++ [(x1, x2)]).length = l.length + 1 from by simp, pv_append]
  rfl
end
end Go.Proofs.YthbbdicdcmjpiaaGreatDoor

/-
  The document's lists of pairs: Put, by its walk. It proves no statement by itself.
-/
namespace Go.Proofs.YthbbdicdcmjpiaaGreatDoor
open Go.RowKit
set_option linter.unusedSimpArgs false
set_option linter.unusedVariables false

section
variable {F : Asn} {w : World} {R : Ending → World → Prop} {l : List Pr} {v : Value}
end
end Go.Proofs.YthbbdicdcmjpiaaGreatDoor

/-
  The document's lists of pairs: Sort, Without, Same, by their walks. It proves no statement by itself.
-/
namespace Go.Proofs.YthbbdicdcmjpiaaGreatDoor
open Go.RowKit
set_option linter.unusedSimpArgs false
set_option linter.unusedVariables false

/-- `!=` at a pair. -/
theorem neq_pair (x y : Pr) (w : World) : (binOp .neq 35 (.agg #[.int .i64 x.1, .int .i64 x.2]) (.agg #[.int .i64 y.1, .int .i64 y.2])).run Tryz.prog w = .ok (.bool (!decide (x = y))) w := by
  have h := eql_pair x y w
  rw [run_eql_struct] at h
  rw [run_neq_struct]
  cases hr : (Op.equalIn 10000 35 (.agg #[.int .i64 x.1, .int .i64 x.2]) (.agg #[.int .i64 y.1, .int .i64 y.2])).run Tryz.prog w with
  | ok b w' =>
    rw [hr] at h
    simp only [Result.andThen_ok] at h ⊢
    cases h
    rfl
  | _ => rw [hr] at h; cases h
theorem readsP_len {F : Asn} {v : Value} {l : List Pr} (h : ReadsP F v l) : ∃ a c, v = .slice a l.length c ∧ (l.length : Int) ≤ 9223372036854775807 := by
  obtain ⟨a, c, h1, h2, _⟩ := h
  exact ⟨a, c, h1, by omega⟩

namespace Eg
theorem put_len (l : List Pr) (p : Pr) : (put l p).length ≤ l.length + 1 := by
  have ins_len : ∀ l : List Pr, (ins p l).length = l.length + 1 := by
    intro l
    induction l with
    | nil => rfl
    | cons q l ih =>
      unfold ins
      split
      · rfl
      · simp [ih]
  unfold put
  split
  · omega
  · rw [ins_len]; omega
theorem without_len (l : List Pr) (p : Pr) : (without l p).length ≤ l.length := List.length_filter_le _ _
end Eg

section
variable {F : Asn} {w : World} {R : Ending → World → Prop} {l m : List Pr} {v u : Value}
set_option maxRecDepth 100000 in
set_option maxHeartbeats 2000000 in
theorem rsame_any (hv : ReadsP F v l) (hu : ReadsP F u m) {d : Bool} (hd : Hid (d = decide (l = m))) (H : Sat F w) (h : ∀ w', Sat F w' → Io w w' → R (.returned (.bool d)) w') :
    Calls Tryz.prog 18 #[v, u] w R := by
  obtain ⟨a, c, rfl, hm⟩ := readsP_len hv
  obtain ⟨a', c', rfl, hm'⟩ := readsP_len hu
  have HV := Lib.hid (fun k hk => readsP_get hv k hk)
  have HU := Lib.hid (fun k hk => readsP_get hu k hk)
  have HH := Lib.hid h
  clear h hv hu
  by_cases hn : l.length = m.length
  · go_enter Tryz.func18, Tryz.ntmps18
    go_wp2_with fail
    go_loopw [5] (fun x wr => ∃ (k : Nat), k ≤ l.length ∧ x = .int .i64 (k : Int) ∧ Hid (l.take k = m.take k) ∧ Sat F wr ∧ Io w wr) (fun x _ => l.length - (intOf x).toNat)
    case atStart => exact ⟨0, by omega, rfl, Lib.hid rfl, H, Io.refl _⟩
    case round =>
      obtain ⟨k, hk, rfl, hs, Hk, Ik⟩ := hrel
      by_cases hlt : k < l.length
      · have hlti : (k : Int) < (l.length : Int) := by omega
        have hltm : (k : Int) < (m.length : Int) := by omega
        obtain ⟨b, off, x1, x2, rfl, hx, hc⟩ := HV.out k hlt
        obtain ⟨b', off', y1, y2, rfl, hy, hc'⟩ := HU.out k (by omega)
        have Hn := fun n => Hk.drewN n
        have In := fun n => Ik.drewN n
        obtain ⟨c0, c1⟩ := hc wr Hk
        obtain ⟨e0, e1⟩ := hc' wr Hk
        have EQ := fun W => neq_pair (x1, x2) (y1, y2) W
        obtain ⟨eq, heq⟩ : ∃ e, e = decide ((x1, x2) = (y1, y2)) := ⟨_, rfl⟩
        rw [← heq] at EQ
        have HE : Hid (eq = decide (l[k] = m[k]'(by omega))) := Lib.hid (by rw [heq, hx, hy])
        clear hc hc' hx hy heq
        simp only at EQ
        cases eq with
        | true =>
          have HS' : Hid (l.take (k + 1) = m.take (k + 1)) := Lib.hid (by rw [List.take_succ_eq_append_getElem hlt, List.take_succ_eq_append_getElem (by omega), hs.out, of_decide_eq_true HE.out.symm])
          simp only [Bool.not_true] at EQ
          clear HE hs
          go_wp2_with fail
          go_quiet (fail)
          go_wp2_with fail
          go_roundw
          case rel => exact ⟨k + 1, by omega, by go_num, HS', Hn _, In _⟩
          case measure => simp [intOf]; omega
        | false =>
          have fin := fun n => HH.out _ (Hn n) (In n)
          have hne : d = false := by
            rw [hd.out]
            refine decide_eq_false ?_
            rintro rfl
            exact of_decide_eq_false HE.out.symm rfl
          subst hne
          simp only [Bool.not_false] at EQ
          clear HE hs HH
          go_wp2_with fail
          go_quiet (fail)
          go_wp2_with fail
          exact fin _
      · obtain rfl : k = l.length := by omega
        have hge : ¬ (l.length : Int) < (l.length : Int) := by omega
        have he : d = true := by
          rw [hd.out]
          refine decide_eq_true ?_
          have := hs.out
          rwa [List.take_length, hn, List.take_length] at this
        subst he
        clear HV HU
        go_wp2_with fail
        exact HH.out _ Hk Ik
  · have hni : ¬ (l.length : Int) = (m.length : Int) := by omega
    have he : d = false := by
      rw [hd.out]
      refine decide_eq_false ?_
      rintro rfl
      exact hn rfl
    subst he
    have HN := Lib.hid hn
    have hq : ((l.length : Int) != (m.length : Int)) = true := by rw [bne_iff_ne]; exact hni
    clear HV HU hn hni
    go_enter Tryz.func18, Tryz.ntmps18
    go_wp2_with fail
    exact HH.out _ H (Io.refl _)
end
end Go.Proofs.YthbbdicdcmjpiaaGreatDoor
