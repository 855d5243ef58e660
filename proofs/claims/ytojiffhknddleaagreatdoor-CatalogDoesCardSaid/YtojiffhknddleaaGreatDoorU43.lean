/-
  Versions, branches, and rows of them that are the same, by walks. It proves no statement by itself.
-/
import Derived.Test.YtojiffhknddleaaGreatDoorRows
import Derived.Test.YtojiffhknddleaaGreatDoorU40
import Derived.Test.YtojiffhknddleaaGreatDoorU20
import Derived.Lib.Hide
import Derived.BigQuiet
import Derived.Test.YtojiffhknddleaaGreatDoorU35
namespace Go.Proofs.YtojiffhknddleaaGreatDoor
open Go.RowKit Go.Lib
open Md (Nm St)
set_option linter.unusedSimpArgs false
set_option linter.unusedVariables false
set_option linter.unusedSectionVars false
theorem reads_len9 {α : Type} {enc : α → List Value} {F : Asn} {v : Value} {l : List α} (h : Reads enc F v l) : ∃ a c, v = .slice a l.length c ∧ (l.length : Int) ≤ 9223372036854775807 := by
  obtain ⟨a, c, h1, h2, _⟩ := h
  exact ⟨a, c, h1, by omega⟩
theorem readsB_get {F : Asn} {a : Option Addr} {n c : Nat} {l : List Md.Br} (hl : ReadsB F (.slice a n c) l) (k : Nat) (hk : k < l.length) : ∃ b off nm hd, a = some ⟨b, off, none⟩ ∧ l[k] = ⟨nm, hd⟩ ∧ ∀ w, Sat F w → w.cell? ⟨b, off + k * 2, none⟩ = some (.string nm) ∧ w.cell? ⟨b, off + k * 2 + 1, none⟩ = some (.int .i64 hd) := by
  obtain ⟨b, off, h1, h2⟩ := hl.get encBr_ok k hk
  obtain ⟨x, hx⟩ : ∃ x, l[k] = x := ⟨_, rfl⟩
  obtain ⟨nm, hd⟩ := x
  refine ⟨b, off, nm, hd, h1, hx, fun w hw => ?_⟩
  have h3 := h2 w hw
  rw [hx] at h3
  exact ⟨h3 0 _ (by omega) rfl, h3 1 _ (by omega) rfl⟩
theorem readsV_get2 {F : Asn} {a : Option Addr} {n c : Nat} {l : List Md.Ver} (hl : ReadsV F (.slice a n c) l) (k : Nat) (hk : k < l.length) : ∃ b off i p r e, a = some ⟨b, off, none⟩ ∧ l[k] = ⟨i, p, r, e⟩ ∧ ∀ w, Sat F w →
    w.cell? ⟨b, off + k * 4, none⟩ = some (.int .i64 i) ∧ w.cell? ⟨b, off + k * 4 + 1, none⟩ = some (.int .i64 p) ∧ w.cell? ⟨b, off + k * 4 + 2, none⟩ = some (.int .i64 r) ∧ w.cell? ⟨b, off + k * 4 + 3, none⟩ = some (.int .i64 e) := by
  obtain ⟨b, off, h1, h2⟩ := hl.get encV4_ok k hk
  obtain ⟨x, hx⟩ : ∃ x, l[k] = x := ⟨_, rfl⟩
  obtain ⟨i, p, r, e⟩ := x
  refine ⟨b, off, i, p, r, e, h1, hx, fun w hw => ?_⟩
  have h3 := h2 w hw
  rw [hx] at h3
  exact ⟨h3 0 _ (by omega) rfl, h3 1 _ (by omega) rfl, h3 2 _ (by omega) rfl, h3 3 _ (by omega) rfl⟩
theorem nm_beq (x y : Nm) : (x.toList == y.toList) = decide (x = y) := by
  by_cases h : x = y
  · subst h; simp
  · have : x.toList ≠ y.toList := fun e => h (nm_ext e)
    simp [h, this]
theorem eql_ver (x y : Md.Ver) (w : World) : (binOp .eql 30 (.agg #[.int .i64 x.id, .int .i64 x.parent, .int .i64 x.root, .int .i64 x.edges]) (.agg #[.int .i64 y.id, .int .i64 y.parent, .int .i64 y.root, .int .i64 y.edges])).run Tryz.prog w = .ok (.bool (decide (x = y))) w := by
  have u3 := Tryz.underlying3
  have a3 := Tryz.isAgg3
  have z3 := Tryz.sizeOf3
  have hS : Tryz.prog.underlying 30 = some (.struct (Tryz.prog.fieldsOf 30)) := by kernel_rfl
  have hp : Tryz.prog.stoodInHeld 30 = false := by kernel_rfl
  rw [run_eql_struct, show (10000 : Nat) = 9999 + 1 from rfl, run_equalIn_agg w 9999 30 _ _ hS hp]
  simp only [Program.fieldsOf, Tryz.underlying30]
  go_simp
  obtain ⟨x1, x2, x3, x4⟩ := x
  obtain ⟨y1, y2, y3, y4⟩ := y
  by_cases h1 : x1 = y1 <;> by_cases h2 : x2 = y2 <;> by_cases h3 : x3 = y3 <;> by_cases h4 : x4 = y4 <;> simp [h1, h2, h3, h4]
theorem eql_br (x y : Md.Br) (w : World) : (binOp .eql 65 (.agg #[.string x.name, .int .i64 x.head]) (.agg #[.string y.name, .int .i64 y.head])).run Tryz.prog w = .ok (.bool (decide (x = y))) w := by
  have u3 := Tryz.underlying3
  have a3 := Tryz.isAgg3
  have z3 := Tryz.sizeOf3
  have u9 := Tryz.underlying9
  have a9 := Tryz.isAgg9
  have z9 := Tryz.sizeOf9
  have hS : Tryz.prog.underlying 65 = some (.struct (Tryz.prog.fieldsOf 65)) := by kernel_rfl
  have hp : Tryz.prog.stoodInHeld 65 = false := by kernel_rfl
  have hb := nm_beq x.name y.name
  rw [run_eql_struct, show (10000 : Nat) = 9999 + 1 from rfl, run_equalIn_agg w 9999 65 _ _ hS hp]
  simp only [Program.fieldsOf, Tryz.underlying65]
  go_simp
  obtain ⟨x1, x2⟩ := x
  obtain ⟨y1, y2⟩ := y
  simp only at hb ⊢
  try rw [hb]
  by_cases h1 : x1 = y1
  · subst h1
    by_cases h2 : x2 = y2 <;> simp [h2]
  · have h1' : ¬ x1.toList = y1.toList := fun e => h1 (nm_ext e)
    by_cases h2 : x2 = y2 <;> simp [h1, h1', h2]
theorem neq_ver (x y : Md.Ver) (w : World) : (binOp .neq 30 (.agg #[.int .i64 x.id, .int .i64 x.parent, .int .i64 x.root, .int .i64 x.edges]) (.agg #[.int .i64 y.id, .int .i64 y.parent, .int .i64 y.root, .int .i64 y.edges])).run Tryz.prog w = .ok (.bool (!decide (x = y))) w := by
  have h := eql_ver x y w
  rw [run_eql_struct] at h
  rw [run_neq_struct]
  cases hr : (Op.equalIn 10000 30 (.agg #[.int .i64 x.id, .int .i64 x.parent, .int .i64 x.root, .int .i64 x.edges]) (.agg #[.int .i64 y.id, .int .i64 y.parent, .int .i64 y.root, .int .i64 y.edges])).run Tryz.prog w with
  | ok b w' =>
    rw [hr] at h
    simp only [Result.andThen_ok] at h ⊢
    cases h
    rfl
  | _ => rw [hr] at h; cases h
theorem neq_br (x y : Md.Br) (w : World) : (binOp .neq 65 (.agg #[.string x.name, .int .i64 x.head]) (.agg #[.string y.name, .int .i64 y.head])).run Tryz.prog w = .ok (.bool (!decide (x = y))) w := by
  have h := eql_br x y w
  rw [run_eql_struct] at h
  rw [run_neq_struct]
  cases hr : (Op.equalIn 10000 65 (.agg #[.string x.name, .int .i64 x.head]) (.agg #[.string y.name, .int .i64 y.head])).run Tryz.prog w with
  | ok b w' =>
    rw [hr] at h
    simp only [Result.andThen_ok] at h ⊢
    cases h
    rfl
  | _ => rw [hr] at h; cases h
section
variable {F : Asn} {w : World} {R : Ending → World → Prop} {v u : Value}
set_option maxRecDepth 100000 in
set_option maxHeartbeats 2000000 in
theorem rsamever_any {l m : List Md.Ver} (hv : ReadsV F v l) (hu : ReadsV F u m) {d : Bool} (hd : Hid (d = decide (l = m))) (H : Sat F w) (h : ∀ w', Sat F w' → Io w w' → R (.returned (.bool d)) w') :
    Calls Tryz.prog 29 #[v, u] w R := by
  obtain ⟨a, c, rfl, hm⟩ := reads_len9 hv
  obtain ⟨a', c', rfl, hm'⟩ := reads_len9 hu
  have HV := Lib.hid (fun k hk => readsV_get2 hv k hk)
  have HU := Lib.hid (fun k hk => readsV_get2 hu k hk)
  have HH := Lib.hid h
  clear h hv hu
  by_cases hn : l.length = m.length
  · go_enter Tryz.func29, Tryz.ntmps29
    go_wp2_with fail
    go_loopw [5] (fun x wr => ∃ (k : Nat), k ≤ l.length ∧ x = .int .i64 (k : Int) ∧ Hid (l.take k = m.take k) ∧ Sat F wr ∧ Io w wr) (fun x _ => l.length - (RowKit.intOf x).toNat)
    case atStart => exact ⟨0, by omega, rfl, Lib.hid rfl, H, Io.refl _⟩
    case round =>
      obtain ⟨k, hk, rfl, hs, Hk, Ik⟩ := hrel
      by_cases hlt : k < l.length
      · have hlti : (k : Int) < (l.length : Int) := by omega
        have hltm : (k : Int) < (m.length : Int) := by omega
        obtain ⟨b, off, x1, x2, x3, x4, rfl, hx, hc⟩ := HV.out k hlt
        obtain ⟨b', off', y1, y2, y3, y4, rfl, hy, hc'⟩ := HU.out k (by omega)
        have Hn := fun n => Hk.drewN n
        have In := fun n => Ik.drewN n
        obtain ⟨c0, c1, c2, c3⟩ := hc wr Hk
        obtain ⟨e0, e1, e2, e3⟩ := hc' wr Hk
        have EQ := fun W => neq_ver (⟨x1, x2, x3, x4⟩ : Md.Ver) (⟨y1, y2, y3, y4⟩ : Md.Ver) W
        obtain ⟨eq, heq⟩ : ∃ e, e = decide ((⟨x1, x2, x3, x4⟩ : Md.Ver) = (⟨y1, y2, y3, y4⟩ : Md.Ver)) := ⟨_, rfl⟩
        rw [← heq] at EQ
        have HE : Hid (eq = decide (l[k] = m[k]'(by omega))) := Lib.hid (by rw [heq, hx, hy])
        clear hc hc' hx hy heq
        simp only at EQ
        cases eq with
        | true =>
          have HS' : Hid (l.take (k + 1) = m.take (k + 1)) := Lib.hid (by rw [List.take_succ_eq_append_getElem hlt, List.take_succ_eq_append_getElem (by omega), hs.out, of_decide_eq_true HE.out.symm])
          simp only [Bool.not_true] at EQ
          clear HE hs
          go_wp2_with fail
          go_quiet (fail)
          go_wp2_with fail
          go_roundw
          case rel => exact ⟨k + 1, by omega, by go_num, HS', Hn _, In _⟩
          case measure => simp [RowKit.intOf]; omega
        | false =>
          have fin := fun n => HH.out _ (Hn n) (In n)
          have hne : d = false := by
            rw [hd.out]
            refine decide_eq_false ?_
            rintro rfl
            exact of_decide_eq_false HE.out.symm rfl
          subst hne
          simp only [Bool.not_false] at EQ
          clear HE hs HH
          go_wp2_with fail
          go_quiet (fail)
          go_wp2_with fail
          exact fin _
      · obtain rfl : k = l.length := by omega
        have hge : ¬ (l.length : Int) < (l.length : Int) := by omega
        have he : d = true := by
          rw [hd.out]
          refine decide_eq_true ?_
          have := hs.out
          rwa [List.take_length, hn, List.take_length] at this
        subst he
        clear HV HU
        go_wp2_with fail
        exact HH.out _ Hk Ik
  · have hni : ¬ (l.length : Int) = (m.length : Int) := by omega
    have he : d = false := by
      rw [hd.out]
      refine decide_eq_false ?_
      rintro rfl
      exact hn rfl
    subst he
    have HN := Lib.hid hn
    have hq : ((l.length : Int) != (m.length : Int)) = true := by rw [bne_iff_ne]; exact hni
    clear HV HU hn hni
    go_enter Tryz.func29, Tryz.ntmps29
    go_wp2_with fail
    exact HH.out _ H (Io.refl _)
set_option maxRecDepth 100000 in
set_option maxHeartbeats 2000000 in
theorem rsamebr_any {l m : List Md.Br} (hv : ReadsB F v l) (hu : ReadsB F u m) {d : Bool} (hd : Hid (d = decide (l = m))) (H : Sat F w) (h : ∀ w', Sat F w' → Io w w' → R (.returned (.bool d)) w') :
    Calls Tryz.prog 30 #[v, u] w R := by
  obtain ⟨a, c, rfl, hm⟩ := reads_len9 hv
  obtain ⟨a', c', rfl, hm'⟩ := reads_len9 hu
  have HV := Lib.hid (fun k hk => readsB_get hv k hk)
  have HU := Lib.hid (fun k hk => readsB_get hu k hk)
  have HH := Lib.hid h
  clear h hv hu
  by_cases hn : l.length = m.length
  · go_enter Tryz.func30, Tryz.ntmps30
    go_wp2_with fail
    go_loopw [5] (fun x wr => ∃ (k : Nat), k ≤ l.length ∧ x = .int .i64 (k : Int) ∧ Hid (l.take k = m.take k) ∧ Sat F wr ∧ Io w wr) (fun x _ => l.length - (RowKit.intOf x).toNat)
    case atStart => exact ⟨0, by omega, rfl, Lib.hid rfl, H, Io.refl _⟩
    case round =>
      obtain ⟨k, hk, rfl, hs, Hk, Ik⟩ := hrel
      by_cases hlt : k < l.length
      · have hlti : (k : Int) < (l.length : Int) := by omega
        have hltm : (k : Int) < (m.length : Int) := by omega
        obtain ⟨b, off, x1, x2, rfl, hx, hc⟩ := HV.out k hlt
        obtain ⟨b', off', y1, y2, rfl, hy, hc'⟩ := HU.out k (by omega)
        have Hn := fun n => Hk.drewN n
        have In := fun n => Ik.drewN n
        obtain ⟨c0, c1⟩ := hc wr Hk
        obtain ⟨e0, e1⟩ := hc' wr Hk
        have EQ := fun W => neq_br (⟨x1, x2⟩ : Md.Br) (⟨y1, y2⟩ : Md.Br) W
        obtain ⟨eq, heq⟩ : ∃ e, e = decide ((⟨x1, x2⟩ : Md.Br) = (⟨y1, y2⟩ : Md.Br)) := ⟨_, rfl⟩
        rw [← heq] at EQ
        have HE : Hid (eq = decide (l[k] = m[k]'(by omega))) := Lib.hid (by rw [heq, hx, hy])
        clear hc hc' hx hy heq
        simp only at EQ
        cases eq with
        | true =>
          have HS' : Hid (l.take (k + 1) = m.take (k + 1)) := Lib.hid (by rw [List.take_succ_eq_append_getElem hlt, List.take_succ_eq_append_getElem (by omega), hs.out, of_decide_eq_true HE.out.symm])
          simp only [Bool.not_true] at EQ
          clear HE hs
          go_wp2_with fail
          go_quiet (fail)
          go_wp2_with fail
          go_roundw
          case rel => exact ⟨k + 1, by omega, by go_num, HS', Hn _, In _⟩
          case measure => simp [RowKit.intOf]; omega
        | false =>
          have fin := fun n => HH.out _ (Hn n) (In n)
          have hne : d = false := by
            rw [hd.out]
            refine decide_eq_false ?_
            rintro rfl
            exact of_decide_eq_false HE.out.symm rfl
          subst hne
          simp only [Bool.not_false] at EQ
          clear HE hs HH
          go_wp2_with fail
          go_quiet (fail)
          go_wp2_with fail
          exact fin _
      · obtain rfl : k = l.length := by omega
        have hge : ¬ (l.length : Int) < (l.length : Int) := by omega
        have he : d = true := by
          rw [hd.out]
          refine decide_eq_true ?_
          have := hs.out
          rwa [List.take_length, hn, List.take_length] at this
        subst he
        clear HV HU
        go_wp2_with fail
        exact HH.out _ Hk Ik
  · have hni : ¬ (l.length : Int) = (m.length : Int) := by omega
    have he : d = false := by
      rw [hd.out]
      refine decide_eq_false ?_
      rintro rfl
      exact hn rfl
    subst he
    have HN := Lib.hid hn
    have hq : ((l.length : Int) != (m.length : Int)) = true := by rw [bne_iff_ne]; exact hni
    clear HV HU hn hni
    go_enter Tryz.func30, Tryz.ntmps30
    go_wp2_with fail
    exact HH.out _ H (Io.refl _)
end
end Go.Proofs.YtojiffhknddleaaGreatDoor

/-
  The document's lists on the heap, and where things are in them, by walks. It proves no statement by itself.
-/
namespace Go.Proofs.YtojiffhknddleaaGreatDoor
open Go.RowKit Go.Lib
open Md (Nm St)
set_option linter.unusedSimpArgs false
set_option linter.unusedVariables false
set_option linter.unusedSectionVars false
/-- The document's lists. -/
def LAt (l : Nat) (vv vb : Value) (V : List Md.Ver) (B : List Md.Br) : Asn := pts l (.cells #[vv, vb] 43 (0, 0)) * (RowV vv V * RowB vb B)
abbrev lptr (l : Nat) : Value := .pointer (some ⟨l, 0, none⟩)
theorem dreadsV_get {F : Asn} {a : Option Addr} {n c : Nat} {l : List Md.Ver} (hl : ReadsV F (.slice a n c) l) (k : Nat) (hk : k < l.length) : ∃ b off i p r e, a = some ⟨b, off, none⟩ ∧ l[k] = ⟨i, p, r, e⟩ ∧ ∀ w, Sat F w →
    w.cell? ⟨b, off + k * 4, none⟩ = some (.int .i64 i) ∧ w.cell? ⟨b, off + k * 4 + 1, none⟩ = some (.int .i64 p) ∧ w.cell? ⟨b, off + k * 4 + 2, none⟩ = some (.int .i64 r) ∧ w.cell? ⟨b, off + k * 4 + 3, none⟩ = some (.int .i64 e) := by
  obtain ⟨b, off, h1, h2⟩ := hl.get encV4_ok k hk
  obtain ⟨x, hx⟩ : ∃ x, l[k] = x := ⟨_, rfl⟩
  obtain ⟨i, p, r, e⟩ := x
  refine ⟨b, off, i, p, r, e, h1, hx, fun w hw => ?_⟩
  have h3 := h2 w hw
  rw [hx] at h3
  exact ⟨h3 0 _ (by omega) rfl, h3 1 _ (by omega) rfl, h3 2 _ (by omega) rfl, h3 3 _ (by omega) rfl⟩
theorem dreadsB_get {F : Asn} {a : Option Addr} {n c : Nat} {l : List Md.Br} (hl : ReadsB F (.slice a n c) l) (k : Nat) (hk : k < l.length) : ∃ b off nm hd, a = some ⟨b, off, none⟩ ∧ l[k] = ⟨nm, hd⟩ ∧ ∀ w, Sat F w → w.cell? ⟨b, off + k * 2, none⟩ = some (.string nm) ∧ w.cell? ⟨b, off + k * 2 + 1, none⟩ = some (.int .i64 hd) := by
  obtain ⟨b, off, h1, h2⟩ := hl.get encBr_ok k hk
  obtain ⟨x, hx⟩ : ∃ x, l[k] = x := ⟨_, rfl⟩
  obtain ⟨nm, hd⟩ := x
  refine ⟨b, off, nm, hd, h1, hx, fun w hw => ?_⟩
  have h3 := h2 w hw
  rw [hx] at h3
  exact ⟨h3 0 _ (by omega) rfl, h3 1 _ (by omega) rfl⟩
theorem rowOf_shape {α : Type} {enc : α → List Value} {sz : Nat} {e : TypeId} {v : Value} {l : List α} {F : Asn} {w : World} (H : Sat (RowOf e sz enc v l * F) w) : ∃ a c, v = .slice a l.length c := by
  obtain ⟨hx, ⟨rfl, h0, _⟩ | ⟨g, cap, cur, rfl, h2, h3, h4, h5, _⟩⟩ := sat_row.1 H
  · exact ⟨none, 0, by rw [h0]⟩
  · exact ⟨_, _, rfl⟩
namespace Md
def vnum (V : List Ver) (id : Int) : Int := if vplace V id < V.length then (vplace V id : Int) else -1
def bnum (B : List Br) (n : Nm) : Int := if bplace B n < B.length then (bplace B n : Int) else -1
theorem vplace_here {V : List Ver} {id : Int} {k : Nat} (hk : k < V.length) (h : k ≤ vplace V id) (e : V[k].id = id) : vplace V id = k := by
  refine Nat.le_antisymm ?_ h
  refine Decidable.byContradiction fun hc => ?_
  have := List.not_of_lt_findIdx (show k < List.findIdx (fun v : Ver => decide (v.id = id)) V from by unfold vplace at hc; omega)
  simp [e] at this
theorem vplace_next {V : List Ver} {id : Int} {k : Nat} (hk : k < V.length) (h : k ≤ vplace V id) (e : ¬ V[k].id = id) : k + 1 ≤ vplace V id := by
  rcases Nat.eq_or_lt_of_le h with h1 | h1
  · subst h1; exact absurd (vplace_get hk) e
  · exact h1
theorem bplace_here {B : List Br} {n : Nm} {k : Nat} (hk : k < B.length) (h : k ≤ bplace B n) (e : B[k].name = n) : bplace B n = k := by
  refine Nat.le_antisymm ?_ h
  refine Decidable.byContradiction fun hc => ?_
  have := List.not_of_lt_findIdx (show k < List.findIdx (fun v : Br => decide (v.name = n)) B from by unfold bplace at hc; omega)
  simp [e] at this
theorem bplace_next {B : List Br} {n : Nm} {k : Nat} (hk : k < B.length) (h : k ≤ bplace B n) (e : ¬ B[k].name = n) : k + 1 ≤ bplace B n := by
  rcases Nat.eq_or_lt_of_le h with h1 | h1
  · subst h1; exact absurd (bplace_get hk) e
  · exact h1
end Md
section
variable {F : Asn} {w : World} {R : Ending → World → Prop} {l : Nat} {vv vb : Value} {V : List Md.Ver} {B : List Md.Br}
theorem LAt.cells (H : Sat (LAt l vv vb V B * F) w) : w.cell? ⟨l, 0, none⟩ = some vv ∧ w.cell? ⟨l, 1, none⟩ = some vb := by
  unfold LAt at H
  exact ⟨Sat.read H.left.left.at 0, Sat.read H.left.left.at 1⟩
theorem LAt.asV (H : Sat (LAt l vv vb V B * F) w) : Sat (RowV vv V * (pts l (.cells #[vv, vb] 43 (0, 0)) * (RowB vb B * F))) w := H.of_eq (by unfold LAt; ac_rfl)
theorem LAt.asB (H : Sat (LAt l vv vb V B * F) w) : Sat (RowB vb B * (pts l (.cells #[vv, vb] 43 (0, 0)) * (RowV vv V * F))) w := H.of_eq (by unfold LAt; ac_rfl)
theorem LAt.shape (H : Sat (LAt l vv vb V B * F) w) : (∃ a c, vv = .slice a V.length c) ∧ ∃ a c, vb = .slice a B.length c := ⟨rowOf_shape (LAt.asV H), rowOf_shape (LAt.asB H)⟩
theorem LAt.readV (H : Sat (LAt l vv vb V B * F) w) (hV : V.length ≤ 1000000) : ReadsV (LAt l vv vb V B * F) vv V := (Reads.of_row (LAt.asV H) hV).imp fun _ h => LAt.asV h
theorem LAt.readB (H : Sat (LAt l vv vb V B * F) w) (hB : B.length ≤ 1000000) : ReadsB (LAt l vv vb V B * F) vb B := (Reads.of_row (LAt.asB H) hB).imp fun _ h => LAt.asB h
set_option maxRecDepth 100000 in
set_option maxHeartbeats 2000000 in
theorem rfind_any (id : Int) (hV : V.length ≤ 1000000) (H : Sat (LAt l vv vb V B * F) w) {r : Int} (hr : Hid (r = Md.vnum V id)) (h : ∀ w', Sat (LAt l vv vb V B * F) w' → Io w w' → R (.returned (.int .i64 r)) w') :
    Calls Tryz.prog 44 #[lptr l, .int .i64 id] w R := by
  obtain ⟨⟨a, c, rfl⟩, _⟩ := LAt.shape H
  have HC := Lib.hid (fun W (hW : Sat (LAt l (.slice a V.length c) vb V B * F) W) => LAt.cells hW)
  have HV := Lib.hid (fun k hk => dreadsV_get (LAt.readV H hV) k hk)
  have HH := Lib.hid h
  clear h
  go_enter Tryz.func44, Tryz.ntmps44
  go_wp2_with fail
  go_loopw [5] (fun x wr => ∃ (k : Nat), k ≤ V.length ∧ x = .int .i64 (k : Int) ∧ Hid (k ≤ Md.vplace V id) ∧ Sat (LAt l (.slice a V.length c) vb V B * F) wr ∧ Io w wr) (fun x _ => V.length - (RowKit.intOf x).toNat)
  case atStart => exact ⟨0, by omega, rfl, Lib.hid (Nat.zero_le _), H, Io.refl _⟩
  case round =>
    obtain ⟨k, hk, rfl, hs, Hk, Ik⟩ := hrel
    obtain ⟨c0, c1⟩ := HC.out _ Hk
    by_cases hlt : k < V.length
    · have hlti : (k : Int) < (V.length : Int) := by omega
      have hk0 : (0 : Int) ≤ (k : Int) := by omega
      obtain ⟨b, off, i, p, q, e, rfl, hx, hc⟩ := HV.out k hlt
      obtain ⟨g0, g1, g2, g3⟩ := hc wr Hk
      by_cases he : i = id
      · subst he
        have e1 := Md.vplace_here hlt hs.out (by rw [hx])
        obtain rfl : r = (k : Int) := by rw [hr.out]; unfold Md.vnum; rw [e1, if_pos hlt]
        clear hc hx hs e1
        go_wp2_with fail
        exact HH.out _ Hk Ik
      · have hs' : Hid (k + 1 ≤ Md.vplace V id) := Lib.hid (Md.vplace_next hlt hs.out (by rw [hx]; exact he))
        clear hc hx hs
        go_wp2_with fail
        go_roundw
        case rel => exact ⟨k + 1, by omega, by go_num, hs', Hk, Ik⟩
        case measure => simp [RowKit.intOf]; omega
    · obtain rfl : k = V.length := by omega
      have hge : ¬ (V.length : Int) < (V.length : Int) := by omega
      obtain rfl : r = -1 := by rw [hr.out]; unfold Md.vnum; rw [if_neg (by have := hs.out; omega)]
      clear HV hs
      go_wp2_with fail
      exact HH.out _ Hk Ik
set_option maxRecDepth 100000 in
set_option maxHeartbeats 2000000 in
theorem rbranch_any (n : Nm) (hB : B.length ≤ 1000000) (H : Sat (LAt l vv vb V B * F) w) {r : Int} (hr : Hid (r = Md.bnum B n)) (h : ∀ w', Sat (LAt l vv vb V B * F) w' → Io w w' → R (.returned (.int .i64 r)) w') :
    Calls Tryz.prog 46 #[lptr l, .string n] w R := by
  obtain ⟨_, a, c, rfl⟩ := LAt.shape H
  have HC := Lib.hid (fun W (hW : Sat (LAt l vv (.slice a B.length c) V B * F) W) => LAt.cells hW)
  have HV := Lib.hid (fun k hk => dreadsB_get (LAt.readB H hB) k hk)
  have HH := Lib.hid h
  clear h
  go_enter Tryz.func46, Tryz.ntmps46
  go_wp2_with fail
  go_loopw [5] (fun x wr => ∃ (k : Nat), k ≤ B.length ∧ x = .int .i64 (k : Int) ∧ Hid (k ≤ Md.bplace B n) ∧ Sat (LAt l vv (.slice a B.length c) V B * F) wr ∧ Io w wr) (fun x _ => B.length - (RowKit.intOf x).toNat)
  case atStart => exact ⟨0, by omega, rfl, Lib.hid (Nat.zero_le _), H, Io.refl _⟩
  case round =>
    obtain ⟨k, hk, rfl, hs, Hk, Ik⟩ := hrel
    obtain ⟨c0, c1⟩ := HC.out _ Hk
    by_cases hlt : k < B.length
    · have hlti : (k : Int) < (B.length : Int) := by omega
      have hk0 : (0 : Int) ≤ (k : Int) := by omega
      obtain ⟨b, off, nm, hd, rfl, hx, hc⟩ := HV.out k hlt
      obtain ⟨g0, g1⟩ := hc wr Hk
      by_cases he : nm = n
      · subst he
        have e1 := Md.bplace_here hlt hs.out (by rw [hx])
        obtain rfl : r = (k : Int) := by rw [hr.out]; unfold Md.bnum; rw [e1, if_pos hlt]
        have e2 : (nm.toList == nm.toList) = true := by simp
        clear hc hx hs e1
        go_wp2_with fail
        exact HH.out _ Hk Ik
      · have hs' : Hid (k + 1 ≤ Md.bplace B n) := Lib.hid (Md.bplace_next hlt hs.out (by rw [hx]; exact he))
        have e3 : ¬ nm.toList = n.toList := fun e => he (nm_ext e)
        have e2 : (nm.toList == n.toList) = false := by simpa using e3
        clear hc hx hs
        go_wp2_with fail
        go_roundw
        case rel => exact ⟨k + 1, by omega, by go_num, hs', Hk, Ik⟩
        case measure => simp [RowKit.intOf]; omega
    · obtain rfl : k = B.length := by omega
      have hge : ¬ (B.length : Int) < (B.length : Int) := by omega
      obtain rfl : r = -1 := by rw [hr.out]; unfold Md.bnum; rw [if_neg (by have := hs.out; omega)]
      clear HV hs
      go_wp2_with fail
      exact HH.out _ Hk Ik
end
end Go.Proofs.YtojiffhknddleaaGreatDoor
