/-
  Versions, branches, and rows of them that are the same, by walks. It proves no statement by itself.
-/
import Derived.Test.YtojiffhknddleaaGreatDoorRows
import Derived.Test.YtojiffhknddleaaGreatDoorS40
import Derived.Test.YtojiffhknddleaaGreatDoorS20
import Derived.Lib.Hide
import Derived.BigQuiet
namespace Go.Proofs.YtojiffhknddleaaGreatDoor
open Go.RowKit Go.Lib
open Md (Nm St)
set_option linter.unusedSimpArgs false
set_option linter.unusedVariables false
set_option linter.unusedSectionVars false
theorem reads_len9 {α : Type} {enc : α → List Value} {F : Asn} {v : Value} {l : List α} (h : Reads enc F v l) : ∃ a c, v = .slice a l.length c ∧ (l.length : Int) ≤ 9223372036854775807 := by
  obtain ⟨a, c, h1, h2, _⟩ := h
  exact ⟨a, c, h1, by omega⟩
theorem readsB_get {F : Asn} {a : Option Addr} {n c : Nat} {l : List Md.Br} (hl : ReadsB F (.slice a n c) l) (k : Nat) (hk : k < l.length) : ∃ b off nm hd, a = some ⟨b, off, none⟩ ∧ l[k] = ⟨nm, hd⟩ ∧ ∀ w, Sat F w → w.cell? ⟨b, off + k * 2, none⟩ = some (.string nm) ∧ w.cell? ⟨b, off + k * 2 + 1, none⟩ = some (.int .i64 hd) := by
  obtain ⟨b, off, h1, h2⟩ := hl.get encBr_ok k hk
  obtain ⟨x, hx⟩ : ∃ x, l[k] = x := ⟨_, rfl⟩
  obtain ⟨nm, hd⟩ := x
  refine ⟨b, off, nm, hd, h1, hx, fun w hw => ?_⟩
  have h3 := h2 w hw
  rw [hx] at h3
  exact ⟨h3 0 _ (by omega) rfl, h3 1 _ (by omega) rfl⟩
theorem readsV_get2 {F : Asn} {a : Option Addr} {n c : Nat} {l : List Md.Ver} (hl : ReadsV F (.slice a n c) l) (k : Nat) (hk : k < l.length) : ∃ b off i p r e, a = some ⟨b, off, none⟩ ∧ l[k] = ⟨i, p, r, e⟩ ∧ ∀ w, Sat F w →
    w.cell? ⟨b, off + k * 4, none⟩ = some (.int .i64 i) ∧ w.cell? ⟨b, off + k * 4 + 1, none⟩ = some (.int .i64 p) ∧ w.cell? ⟨b, off + k * 4 + 2, none⟩ = some (.int .i64 r) ∧ w.cell? ⟨b, off + k * 4 + 3, none⟩ = some (.int .i64 e) := by
  obtain ⟨b, off, h1, h2⟩ := hl.get encV4_ok k hk
  obtain ⟨x, hx⟩ : ∃ x, l[k] = x := ⟨_, rfl⟩
  obtain ⟨i, p, r, e⟩ := x
  refine ⟨b, off, i, p, r, e, h1, hx, fun w hw => ?_⟩
  have h3 := h2 w hw
  rw [hx] at h3
  exact ⟨h3 0 _ (by omega) rfl, h3 1 _ (by omega) rfl, h3 2 _ (by omega) rfl, h3 3 _ (by omega) rfl⟩
theorem nm_beq (x y : Nm) : (x.toList == y.toList) = decide (x = y) := by
  by_cases h : x = y
  · subst h; simp
  · have : x.toList ≠ y.toList := fun e => h (nm_ext e)
    simp [h, this]
theorem eql_ver (x y : Md.Ver) (w : World) : (binOp .eql 30 (.agg #[.int .i64 x.id, .int .i64 x.parent, .int .i64 x.root, .int .i64 x.edges]) (.agg #[.int .i64 y.id, .int .i64 y.parent, .int .i64 y.root, .int .i64 y.edges])).run Tryz.prog w = .ok (.bool (decide (x = y))) w := by
  have u3 := Tryz.underlying3
  have a3 := Tryz.isAgg3
  have z3 := Tryz.sizeOf3
  have hS : Tryz.prog.underlying 30 = some (.struct (Tryz.prog.fieldsOf 30)) := by kernel_rfl
  have hp : Tryz.prog.stoodInHeld 30 = false := by kernel_rfl
  rw [run_eql_struct, show (10000 : Nat) = 9999 + 1 from rfl, run_equalIn_agg w 9999 30 _ _ hS hp]
  simp only [Program.fieldsOf, Tryz.underlying30]
  go_simp
  obtain ⟨x1, x2, x3, x4⟩ := x
  obtain ⟨y1, y2, y3, y4⟩ := y
  by_cases h1 : x1 = y1 <;> by_cases h2 : x2 = y2 <;> by_cases h3 : x3 = y3 <;> by_cases h4 : x4 = y4 <;> simp [h1, h2, h3, h4]
theorem eql_br (x y : Md.Br) (w : World) : (binOp .eql 65 (.agg #[.string x.name, .int .i64 x.head]) (.agg #[.string y.name, .int .i64 y.head])).run Tryz.prog w = .ok (.bool (decide (x = y))) w := by
  have u3 := Tryz.underlying3
  have a3 := Tryz.isAgg3
  have z3 := Tryz.sizeOf3
  have u9 := Tryz.underlying9
  have a9 := Tryz.isAgg9
  have z9 := Tryz.sizeOf9
  have hS : Tryz.prog.underlying 65 = some (.struct (Tryz.prog.fieldsOf 65)) := by kernel_rfl
  have hp : Tryz.prog.stoodInHeld 65 = false := by kernel_rfl
  have hb := nm_beq x.name y.name
  rw [run_eql_struct, show (10000 : Nat) = 9999 + 1 from rfl, run_equalIn_agg w 9999 65 _ _ hS hp]
  simp only [Program.fieldsOf, Tryz.underlying65]
  go_simp
  obtain ⟨x1, x2⟩ := x
  obtain ⟨y1, y2⟩ := y
  simp only at hb ⊢
  try rw [hb]
  by_cases h1 : x1 = y1
  · subst h1
    by_cases h2 : x2 = y2 <;> simp [h2]
  · have h1' : ¬ x1.toList = y1.toList := fun e => h1 (nm_ext e)
    by_cases h2 : x2 = y2 <;> simp [h1, h1', h2]
theorem neq_ver (x y : Md.Ver) (w : World) : (binOp .neq 30 (.agg #[.int .i64 x.id, .int .i64 x.parent, .int .i64 x.root, .int .i64 x.edges]) (.agg #[.int .i64 y.id, .int .i64 y.parent, .int .i64 y.root, .int .i64 y.edges])).run Tryz.prog w = .ok (.bool (!decide (x = y))) w := by
  have h := eql_ver x y w
  rw [run_eql_struct] at h
  rw [run_neq_struct]
  cases hr : (Op.equalIn 10000 30 (.agg #[.int .i64 x.id, .int .i64 x.parent, .int .i64 x.root, .int .i64 x.edges]) (.agg #[.int .i64 y.id, .int .i64 y.parent, .int .i64 y.root, .int .i64 y.edges])).run Tryz.prog w with
  | ok b w' =>
    rw [hr] at h
    simp only [Result.andThen_ok] at h ⊢
    cases h
    rfl
  | _ => rw [hr] at h; cases h
theorem neq_br (x y : Md.Br) (w : World) : (binOp .neq 65 (.agg #[.string x.name, .int .i64 x.head]) (.agg #[.string y.name, .int .i64 y.head])).run Tryz.prog w = .ok (.bool (!decide (x = y))) w := by
  have h := eql_br x y w
  rw [run_eql_struct] at h
  rw [run_neq_struct]
  cases hr : (Op.equalIn 10000 65 (.agg #[.string x.name, .int .i64 x.head]) (.agg #[.string y.name, .int .i64 y.head])).run Tryz.prog w with
  | ok b w' =>
    rw [hr] at h
    simp only [Result.andThen_ok] at h ⊢
    cases h
    rfl
  | _ => rw [hr] at h; cases h
section
variable {F : Asn} {w : World} {R : Ending → World → Prop} {v u : Value}
set_option maxRecDepth 100000 in
set_option maxHeartbeats 2000000 in
theorem rsamever_any {l m : List Md.Ver} (hv : ReadsV F v l) (hu : ReadsV F u m) {d : Bool} (hd : Hid (d = decide (l = m))) (H : Sat F w) (h : ∀ w', Sat F w' → Io w w' → R (.returned (.bool d)) w') :
    Calls Tryz.prog 29 #[v, u] w R := by
  obtain ⟨a, c, rfl, hm⟩ := reads_len9 hv
  obtain ⟨a', c', rfl, hm'⟩ := reads_len9 hu
  have HV := Lib.hid (fun k hk => readsV_get2 hv k hk)
  have HU := Lib.hid (fun k hk => readsV_get2 hu k hk)
  have HH := Lib.hid h
  clear h hv hu
  by_cases hn : l.length = m.length
  · go_enter Tryz.func29, Tryz.ntmps29
    go_wp2_with fail
    go_loopw [5] (fun x wr => ∃ (k : Nat), k ≤ l.length ∧ x = .int .i64 (k : Int) ∧ Hid (l.take k = m.take k) ∧ Sat F wr ∧ Io w wr) (fun x _ => l.length - (RowKit.intOf x).toNat)
    case atStart => exact ⟨0, by omega, rfl, Lib.hid rfl, H, Io.refl _⟩
    case round =>
      obtain ⟨k, hk, rfl, hs, Hk, Ik⟩ := hrel
      by_cases hlt : k < l.length
      · have hlti : (k : Int) < (l.length : Int) := by omega
        have hltm : (k : Int) < (m.length : Int) := by omega
        obtain ⟨b, off, x1, x2, x3, x4, rfl, hx, hc⟩ := HV.out k hlt
        obtain ⟨b', off', y1, y2, y3, y4, rfl, hy, hc'⟩ := HU.out k (by omega)
        have Hn := fun n => Hk.drewN n
        have In := fun n => Ik.drewN n
        obtain ⟨c0, c1, c2, c3⟩ := hc wr Hk
        obtain ⟨e0, e1, e2, e3⟩ := hc' wr Hk
        have EQ := fun W => neq_ver (⟨x1, x2, x3, x4⟩ : Md.Ver) (⟨y1, y2, y3, y4⟩ : Md.Ver) W
        obtain ⟨eq, heq⟩ : ∃ e, e = decide ((⟨x1, x2, x3, x4⟩ : Md.Ver) = (⟨y1, y2, y3, y4⟩ : Md.Ver)) := ⟨_, rfl⟩
        rw [← heq] at EQ
        have HE : Hid (eq = decide (l[k] = m[k]'(by omega))) := Lib.hid (by rw [heq, hx, hy])
        clear hc hc' hx hy heq
        simp only at EQ
        cases eq with
        | true =>
          have HS' : Hid (l.take (k + 1) = m.take (k + 1)) := Lib.hid (by rw [List.take_succ_eq_append_getElem hlt, List.take_succ_eq_append_getElem (by omega), hs.out, of_decide_eq_true HE.out.symm])
          simp only [Bool.not_true] at EQ
          clear HE hs
          go_wp2_with fail
          go_quiet (fail)
          go_wp2_with fail
          go_roundw
          case rel => exact ⟨k + 1, by omega, by go_num, HS', Hn _, In _⟩
          case measure => simp [RowKit.intOf]; omega
        | false =>
          have fin := fun n => HH.out _ (Hn n) (In n)
          have hne : d = false := by
            rw [hd.out]
            refine decide_eq_false ?_
            rintro rfl
            exact of_decide_eq_false HE.out.symm rfl
          subst hne
          simp only [Bool.not_false] at EQ
          clear HE hs HH
          go_wp2_with fail
          go_quiet (fail)
          go_wp2_with fail
          exact fin _
      · obtain rfl : k = l.length := by omega
        have hge : ¬ (l.length : Int) < (l.length : Int) := by omega
        have he : d = true := by
          rw [hd.out]
          refine decide_eq_true ?_
          have := hs.out
          rwa [List.take_length, hn, List.take_length] at this
        subst he
        clear HV HU
        go_wp2_with fail
        exact HH.out _ Hk Ik
  · have hni : ¬ (l.length : Int) = (m.length : Int) := by omega
    have he : d = false := by
      rw [hd.out]
      refine decide_eq_false ?_
      rintro rfl
      exact hn rfl
    subst he
    have HN := Lib.hid hn
    have hq : ((l.length : Int) != (m.length : Int)) = true := by rw [bne_iff_ne]; exact hni
    clear HV HU hn hni
    go_enter Tryz.func29, Tryz.ntmps29
    go_wp2_with fail
    exact HH.out _ H (Io.refl _)
set_option maxRecDepth 100000 in
set_option maxHeartbeats 2000000 in
theorem rsamebr_any {l m : List Md.Br} (hv : ReadsB F v l) (hu : ReadsB F u m) {d : Bool} (hd : Hid (d = decide (l = m))) (H : Sat F w) (h : ∀ w', Sat F w' → Io w w' → R (.returned (.bool d)) w') :
    Calls Tryz.prog 30 #[v, u] w R := by
  obtain ⟨a, c, rfl, hm⟩ := reads_len9 hv
  obtain ⟨a', c', rfl, hm'⟩ := reads_len9 hu
  have HV := Lib.hid (fun k hk => readsB_get hv k hk)
  have HU := Lib.hid (fun k hk => readsB_get hu k hk)
  have HH := Lib.hid h
  clear h hv hu
  by_cases hn : l.length = m.length
  · go_enter Tryz.func30, Tryz.ntmps30
    go_wp2_with fail
    go_loopw [5] (fun x wr => ∃ (k : Nat), k ≤ l.length ∧ x = .int .i64 (k : Int) ∧ Hid (l.take k = m.take k) ∧ Sat F wr ∧ Io w wr) (fun x _ => l.length - (RowKit.intOf x).toNat)
    case atStart => exact ⟨0, by omega, rfl, Lib.hid rfl, H, Io.refl _⟩
    case round =>
      obtain ⟨k, hk, rfl, hs, Hk, Ik⟩ := hrel
      by_cases hlt : k < l.length
      · have hlti : (k : Int) < (l.length : Int) := by omega
        have hltm : (k : Int) < (m.length : Int) := by omega
        obtain ⟨b, off, x1, x2, rfl, hx, hc⟩ := HV.out k hlt
        obtain ⟨b', off', y1, y2, rfl, hy, hc'⟩ := HU.out k (by omega)
        have Hn := fun n => Hk.drewN n
        have In := fun n => Ik.drewN n
        obtain ⟨c0, c1⟩ := hc wr Hk
        obtain ⟨e0, e1⟩ := hc' wr Hk
        have EQ := fun W => neq_br (⟨x1, x2⟩ : Md.Br) (⟨y1, y2⟩ : Md.Br) W
        obtain ⟨eq, heq⟩ : ∃ e, e = decide ((⟨x1, x2⟩ : Md.Br) = (⟨y1, y2⟩ : Md.Br)) := ⟨_, rfl⟩
        rw [← heq] at EQ
        have HE : Hid (eq = decide (l[k] = m[k]'(by omega))) := Lib.hid (by rw [heq, hx, hy])
        clear hc hc' hx hy heq
        simp only at EQ
        cases eq with
        | true =>
          have HS' : Hid (l.take (k + 1) = m.take (k + 1)) := Lib.hid (by rw [List.take_succ_eq_append_getElem hlt, List.take_succ_eq_append_getElem (by omega), hs.out, of_decide_eq_true HE.out.symm])
          simp only [Bool.not_true] at EQ
          clear HE hs
          go_wp2_with fail
          go_quiet (fail)
          go_wp2_with fail
          go_roundw
          case rel => exact ⟨k + 1, by omega, by go_num, HS', Hn _, In _⟩
          case measure => simp [RowKit.intOf]; omega
        | false =>
          have fin := fun n => HH.out _ (Hn n) (In n)
          have hne : d = false := by
            rw [hd.out]
            refine decide_eq_false ?_
            rintro rfl
            exact of_decide_eq_false HE.out.symm rfl
          subst hne
          simp only [Bool.not_false] at EQ
          clear HE hs HH
          go_wp2_with fail
          go_quiet (fail)
          go_wp2_with fail
          exact fin _
      · obtain rfl : k = l.length := by omega
        have hge : ¬ (l.length : Int) < (l.length : Int) := by omega
        have he : d = true := by
          rw [hd.out]
          refine decide_eq_true ?_
          have := hs.out
          rwa [List.take_length, hn, List.take_length] at this
        subst he
        clear HV HU
        go_wp2_with fail
        exact HH.out _ Hk Ik
  · have hni : ¬ (l.length : Int) = (m.length : Int) := by omega
    have he : d = false := by
      rw [hd.out]
      refine decide_eq_false ?_
      rintro rfl
      exact hn rfl
    subst he
    have HN := Lib.hid hn
    have hq : ((l.length : Int) != (m.length : Int)) = true := by rw [bne_iff_ne]; exact hni
    clear HV HU hn hni
    go_enter Tryz.func30, Tryz.ntmps30
    go_wp2_with fail
    exact HH.out _ H (Io.refl _)
end
end Go.Proofs.YtojiffhknddleaaGreatDoor
