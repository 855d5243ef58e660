/-
  The document's answers held against one another, by walks. It proves no statement by itself.
-/
import Derived.Test.YtabpgejjnphfcaaGreatKWP
namespace Go.Proofs.YtabpgejjnphfcaaGreat
open Go.RowKit Go.Lib Go.MapKept
open Md (Nm St)
set_option linter.unusedSimpArgs false
set_option linter.unusedVariables false
set_option linter.unusedSectionVars false
theorem readsB_get {F : Asn} {a : Option Addr} {n c : Nat} {l : List Md.Br} (hl : ReadsB F (.slice a n c) l) (k : Nat) (hk : k < l.length) : ∃ b off nm hd, a = some ⟨b, off, none⟩ ∧ l[k] = ⟨nm, hd⟩ ∧ ∀ w, Sat F w → w.cell? ⟨b, off + k * 2, none⟩ = some (.string nm) ∧ w.cell? ⟨b, off + k * 2 + 1, none⟩ = some (.int .i64 hd) := by
  obtain ⟨b, off, h1, h2⟩ := hl.get encBr_ok k hk
  obtain ⟨x, hx⟩ : ∃ x, l[k] = x := ⟨_, rfl⟩
  obtain ⟨nm, hd⟩ := x
  refine ⟨b, off, nm, hd, h1, hx, fun w hw => ?_⟩
  have h3 := h2 w hw
  rw [hx] at h3
  exact ⟨h3 0 _ (by omega) rfl, h3 1 _ (by omega) rfl⟩
theorem readsV_get2 {F : Asn} {a : Option Addr} {n c : Nat} {l : List Md.Ver} (hl : ReadsV F (.slice a n c) l) (k : Nat) (hk : k < l.length) : ∃ b off i p r e, a = some ⟨b, off, none⟩ ∧ l[k] = ⟨i, p, r, e⟩ ∧ ∀ w, Sat F w →
    w.cell? ⟨b, off + k * 4, none⟩ = some (.int .i64 i) ∧ w.cell? ⟨b, off + k * 4 + 1, none⟩ = some (.int .i64 p) ∧ w.cell? ⟨b, off + k * 4 + 2, none⟩ = some (.int .i64 r) ∧ w.cell? ⟨b, off + k * 4 + 3, none⟩ = some (.int .i64 e) := by
  obtain ⟨b, off, h1, i, p, r, e, h2, h3⟩ := readsV_get hl k hk
  exact ⟨b, off, i, p, r, e, h1, h2, h3⟩
theorem dec_self {α : Type} [DecidableEq α] (l : List α) : Hid (true = decide (l = l)) := Lib.hid (decide_eq_true rfl).symm
theorem readsP_imp {F G : Asn} {v : Value} {l : List Pr} (h : ReadsP F v l) (k : ∀ w, Sat G w → Sat F w) : ReadsP G v l := by
  obtain ⟨a, c, h1, h2, h3⟩ := h
  refine ⟨a, c, h1, h2, ?_⟩
  rcases h3 with h3 | ⟨b, off, e, h3⟩
  · exact .inl h3
  · exact .inr ⟨b, off, e, fun w hw => h3 w (k w hw)⟩
theorem nm_beq (x y : Nm) : (x.toList == y.toList) = decide (x = y) := by
  by_cases h : x = y
  · subst h; simp
  · have : x.toList ≠ y.toList := fun e => h (nm_ext e)
    simp [h, this]
theorem eql_ver (x y : Md.Ver) (w : World) : (binOp .eql 44 (.agg #[.int .i64 x.id, .int .i64 x.parent, .int .i64 x.root, .int .i64 x.edges]) (.agg #[.int .i64 y.id, .int .i64 y.parent, .int .i64 y.root, .int .i64 y.edges])).run Tryz.prog w = .ok (.bool (decide (x = y))) w := by
  have u3 := Tryz.underlying3
  have a3 := Tryz.isAgg3
  have z3 := Tryz.sizeOf3
  have hS : Tryz.prog.underlying 44 = some (.struct (Tryz.prog.fieldsOf 44)) := by kernel_rfl
  have hp : Tryz.prog.stoodInHeld 44 = false := by kernel_rfl
  rw [run_eql_struct, show (10000 : Nat) = 9999 + 1 from rfl, run_equalIn_agg w 9999 44 _ _ hS hp]
  simp only [Program.fieldsOf, Tryz.underlying44]
  go_simp
  obtain ⟨x1, x2, x3, x4⟩ := x
  obtain ⟨y1, y2, y3, y4⟩ := y
  by_cases h1 : x1 = y1 <;> by_cases h2 : x2 = y2 <;> by_cases h3 : x3 = y3 <;> by_cases h4 : x4 = y4 <;> simp [h1, h2, h3, h4]
theorem eql_br (x y : Md.Br) (w : World) : (binOp .eql 55 (.agg #[.string x.name, .int .i64 x.head]) (.agg #[.string y.name, .int .i64 y.head])).run Tryz.prog w = .ok (.bool (decide (x = y))) w := by
  have u3 := Tryz.underlying3
  have a3 := Tryz.isAgg3
  have z3 := Tryz.sizeOf3
  have u9 := Tryz.underlying9
  have a9 := Tryz.isAgg9
  have z9 := Tryz.sizeOf9
  have hS : Tryz.prog.underlying 55 = some (.struct (Tryz.prog.fieldsOf 55)) := by kernel_rfl
  have hp : Tryz.prog.stoodInHeld 55 = false := by kernel_rfl
  have hb := nm_beq x.name y.name
  rw [run_eql_struct, show (10000 : Nat) = 9999 + 1 from rfl, run_equalIn_agg w 9999 55 _ _ hS hp]
  simp only [Program.fieldsOf, Tryz.underlying55]
  go_simp
  obtain ⟨x1, x2⟩ := x
  obtain ⟨y1, y2⟩ := y
  simp only at hb ⊢
  try rw [hb]
  by_cases h1 : x1 = y1
  · subst h1
    by_cases h2 : x2 = y2 <;> simp [h2]
  · have h1' : ¬ x1.toList = y1.toList := fun e => h1 (nm_ext e)
    by_cases h2 : x2 = y2 <;> simp [h1, h1', h2]
theorem neq_ver (x y : Md.Ver) (w : World) : (binOp .neq 44 (.agg #[.int .i64 x.id, .int .i64 x.parent, .int .i64 x.root, .int .i64 x.edges]) (.agg #[.int .i64 y.id, .int .i64 y.parent, .int .i64 y.root, .int .i64 y.edges])).run Tryz.prog w = .ok (.bool (!decide (x = y))) w := by
  have h := eql_ver x y w
  rw [run_eql_struct] at h
  rw [run_neq_struct]
  cases hr : (Op.equalIn 10000 44 (.agg #[.int .i64 x.id, .int .i64 x.parent, .int .i64 x.root, .int .i64 x.edges]) (.agg #[.int .i64 y.id, .int .i64 y.parent, .int .i64 y.root, .int .i64 y.edges])).run Tryz.prog w with
  | ok b w' =>
    rw [hr] at h
    simp only [Result.andThen_ok] at h ⊢
    cases h
    rfl
  | _ => rw [hr] at h; cases h
theorem neq_br (x y : Md.Br) (w : World) : (binOp .neq 55 (.agg #[.string x.name, .int .i64 x.head]) (.agg #[.string y.name, .int .i64 y.head])).run Tryz.prog w = .ok (.bool (!decide (x = y))) w := by
  have h := eql_br x y w
  rw [run_eql_struct] at h
  rw [run_neq_struct]
  cases hr : (Op.equalIn 10000 55 (.agg #[.string x.name, .int .i64 x.head]) (.agg #[.string y.name, .int .i64 y.head])).run Tryz.prog w with
  | ok b w' =>
    rw [hr] at h
    simp only [Result.andThen_ok] at h ⊢
    cases h
    rfl
  | _ => rw [hr] at h; cases h
section
variable {F : Asn} {w : World} {R : Ending → World → Prop} {v u : Value}
set_option maxRecDepth 100000 in
set_option maxHeartbeats 2000000 in
theorem rsamever_any {l m : List Md.Ver} (hv : ReadsV F v l) (hu : ReadsV F u m) {d : Bool} (hd : Hid (d = decide (l = m))) (H : Sat F w) (h : ∀ w', Sat F w' → Io w w' → R (.returned (.bool d)) w') :
    Calls Tryz.prog 48 #[v, u] w R := by
  obtain ⟨a, c, rfl, hm⟩ := reads_len hv
  obtain ⟨a', c', rfl, hm'⟩ := reads_len hu
  have HV := Lib.hid (fun k hk => readsV_get2 hv k hk)
  have HU := Lib.hid (fun k hk => readsV_get2 hu k hk)
  have HH := Lib.hid h
  clear h hv hu
  by_cases hn : l.length = m.length
  · go_enter Tryz.func48, Tryz.ntmps48
    go_wp2_with fail
    go_loopw [5] (fun x wr => ∃ (k : Nat), k ≤ l.length ∧ x = .int .i64 (k : Int) ∧ Hid (l.take k = m.take k) ∧ Sat F wr ∧ Io w wr) (fun x _ => l.length - (intOf x).toNat)
    case atStart => exact ⟨0, by omega, rfl, Lib.hid rfl, H, Io.refl _⟩
    case round =>
      obtain ⟨k, hk, rfl, hs, Hk, Ik⟩ := hrel
      by_cases hlt : k < l.length
      · have hlti : (k : Int) < (l.length : Int) := by omega
        have hltm : (k : Int) < (m.length : Int) := by omega
        obtain ⟨b, off, x1, x2, x3, x4, rfl, hx, hc⟩ := HV.out k hlt
        obtain ⟨b', off', y1, y2, y3, y4, rfl, hy, hc'⟩ := HU.out k (by omega)
        have Hn := fun n => Hk.drewN n
        have In := fun n => Ik.drewN n
        obtain ⟨c0, c1, c2, c3⟩ := hc wr Hk
        obtain ⟨e0, e1, e2, e3⟩ := hc' wr Hk
        have EQ := fun W => neq_ver (⟨x1, x2, x3, x4⟩ : Md.Ver) (⟨y1, y2, y3, y4⟩ : Md.Ver) W
        obtain ⟨eq, heq⟩ : ∃ e, e = decide ((⟨x1, x2, x3, x4⟩ : Md.Ver) = (⟨y1, y2, y3, y4⟩ : Md.Ver)) := ⟨_, rfl⟩
        rw [← heq] at EQ
        have HE : Hid (eq = decide (l[k] = m[k]'(by omega))) := Lib.hid (by rw [heq, hx, hy])
        clear hc hc' hx hy heq
        simp only at EQ
        cases eq with
        | true =>
          have HS' : Hid (l.take (k + 1) = m.take (k + 1)) := Lib.hid (by rw [List.take_succ_eq_append_getElem hlt, List.take_succ_eq_append_getElem (by omega), hs.out, of_decide_eq_true HE.out.symm])
          simp only [Bool.not_true] at EQ
          clear HE hs
          go_wp2_with fail
          go_quiet (fail)
          go_wp2_with fail
          go_roundw
          case rel => exact ⟨k + 1, by omega, by go_num, HS', Hn _, In _⟩
          case measure => simp [intOf]; omega
        | false =>
          have fin := fun n => HH.out _ (Hn n) (In n)
          have hne : d = false := by
            rw [hd.out]
            refine decide_eq_false ?_
            rintro rfl
            exact of_decide_eq_false HE.out.symm rfl
          subst hne
          simp only [Bool.not_false] at EQ
          clear HE hs HH
          go_wp2_with fail
          go_quiet (fail)
          go_wp2_with fail
          exact fin _
      · obtain rfl : k = l.length := by omega
        have hge : ¬ (l.length : Int) < (l.length : Int) := by omega
        have he : d = true := by
          rw [hd.out]
          refine decide_eq_true ?_
          have := hs.out
          rwa [List.take_length, hn, List.take_length] at this
        subst he
        clear HV HU
        go_wp2_with fail
        exact HH.out _ Hk Ik
  · have hni : ¬ (l.length : Int) = (m.length : Int) := by omega
    have he : d = false := by
      rw [hd.out]
      refine decide_eq_false ?_
      rintro rfl
      exact hn rfl
    subst he
    have HN := Lib.hid hn
    have hq : ((l.length : Int) != (m.length : Int)) = true := by rw [bne_iff_ne]; exact hni
    clear HV HU hn hni
    go_enter Tryz.func48, Tryz.ntmps48
    go_wp2_with fail
    exact HH.out _ H (Io.refl _)
set_option maxRecDepth 100000 in
set_option maxHeartbeats 2000000 in
theorem rsamebr_any {l m : List Md.Br} (hv : ReadsB F v l) (hu : ReadsB F u m) {d : Bool} (hd : Hid (d = decide (l = m))) (H : Sat F w) (h : ∀ w', Sat F w' → Io w w' → R (.returned (.bool d)) w') :
    Calls Tryz.prog 49 #[v, u] w R := by
  obtain ⟨a, c, rfl, hm⟩ := reads_len hv
  obtain ⟨a', c', rfl, hm'⟩ := reads_len hu
  have HV := Lib.hid (fun k hk => readsB_get hv k hk)
  have HU := Lib.hid (fun k hk => readsB_get hu k hk)
  have HH := Lib.hid h
  clear h hv hu
  by_cases hn : l.length = m.length
  · go_enter Tryz.func49, Tryz.ntmps49
    go_wp2_with fail
    go_loopw [5] (fun x wr => ∃ (k : Nat), k ≤ l.length ∧ x = .int .i64 (k : Int) ∧ Hid (l.take k = m.take k) ∧ Sat F wr ∧ Io w wr) (fun x _ => l.length - (intOf x).toNat)
    case atStart => exact ⟨0, by omega, rfl, Lib.hid rfl, H, Io.refl _⟩
    case round =>
      obtain ⟨k, hk, rfl, hs, Hk, Ik⟩ := hrel
      by_cases hlt : k < l.length
      · have hlti : (k : Int) < (l.length : Int) := by omega
        have hltm : (k : Int) < (m.length : Int) := by omega
        obtain ⟨b, off, x1, x2, rfl, hx, hc⟩ := HV.out k hlt
        obtain ⟨b', off', y1, y2, rfl, hy, hc'⟩ := HU.out k (by omega)
        have Hn := fun n => Hk.drewN n
        have In := fun n => Ik.drewN n
        obtain ⟨c0, c1⟩ := hc wr Hk
        obtain ⟨e0, e1⟩ := hc' wr Hk
        have EQ := fun W => neq_br (⟨x1, x2⟩ : Md.Br) (⟨y1, y2⟩ : Md.Br) W
        obtain ⟨eq, heq⟩ : ∃ e, e = decide ((⟨x1, x2⟩ : Md.Br) = (⟨y1, y2⟩ : Md.Br)) := ⟨_, rfl⟩
        rw [← heq] at EQ
        have HE : Hid (eq = decide (l[k] = m[k]'(by omega))) := Lib.hid (by rw [heq, hx, hy])
        clear hc hc' hx hy heq
        simp only at EQ
        cases eq with
        | true =>
          have HS' : Hid (l.take (k + 1) = m.take (k + 1)) := Lib.hid (by rw [List.take_succ_eq_append_getElem hlt, List.take_succ_eq_append_getElem (by omega), hs.out, of_decide_eq_true HE.out.symm])
          simp only [Bool.not_true] at EQ
          clear HE hs
          go_wp2_with fail
          go_quiet (fail)
          go_wp2_with fail
          go_roundw
          case rel => exact ⟨k + 1, by omega, by go_num, HS', Hn _, In _⟩
          case measure => simp [intOf]; omega
        | false =>
          have fin := fun n => HH.out _ (Hn n) (In n)
          have hne : d = false := by
            rw [hd.out]
            refine decide_eq_false ?_
            rintro rfl
            exact of_decide_eq_false HE.out.symm rfl
          subst hne
          simp only [Bool.not_false] at EQ
          clear HE hs HH
          go_wp2_with fail
          go_quiet (fail)
          go_wp2_with fail
          exact fin _
      · obtain rfl : k = l.length := by omega
        have hge : ¬ (l.length : Int) < (l.length : Int) := by omega
        have he : d = true := by
          rw [hd.out]
          refine decide_eq_true ?_
          have := hs.out
          rwa [List.take_length, hn, List.take_length] at this
        subst he
        clear HV HU
        go_wp2_with fail
        exact HH.out _ Hk Ik
  · have hni : ¬ (l.length : Int) = (m.length : Int) := by omega
    have he : d = false := by
      rw [hd.out]
      refine decide_eq_false ?_
      rintro rfl
      exact hn rfl
    subst he
    have HN := Lib.hid hn
    have hq : ((l.length : Int) != (m.length : Int)) = true := by rw [bne_iff_ne]; exact hni
    clear HV HU hn hni
    go_enter Tryz.func49, Tryz.ntmps49
    go_wp2_with fail
    exact HH.out _ H (Io.refl _)
set_option maxRecDepth 100000 in
set_option maxHeartbeats 4000000 in
/-- Answers that are the same. -/
theorem sameans_any {e ver n : Int} {y : Bool} {C : List Ch} {P : List Pr} {V : List Md.Ver} {B : List Md.Br} {ca pa va ba ca' pa' va' ba' : Option Addr} {cc pc vc bc cc' pc' vc' bc' : Nat}
    (hc : ReadsC F (.slice ca C.length cc) C) (hp : ReadsP F (.slice pa P.length pc) P) (hv : ReadsV F (.slice va V.length vc) V) (hb : ReadsB F (.slice ba B.length bc) B)
    (hc' : ReadsC F (.slice ca' C.length cc') C) (hp' : ReadsP F (.slice pa' P.length pc') P) (hv' : ReadsV F (.slice va' V.length vc') V) (hb' : ReadsB F (.slice ba' B.length bc') B)
    (H : Sat F w) (hh : ∀ w', Sat F w' → Io w w' → R (.returned (.bool true)) w') :
    Calls Tryz.prog 22 #[.agg #[.int .i64 e, .int .i64 ver, .bool y, .int .i64 n, .slice ca C.length cc, .slice pa P.length pc, .slice va V.length vc, .slice ba B.length bc], .agg #[.int .i64 e, .int .i64 ver, .bool y, .int .i64 n, .slice ca' C.length cc', .slice pa' P.length pc', .slice va' V.length vc', .slice ba' B.length bc']] w R := by
  have HH := Lib.hid hh
  clear hh
  have T1 := Lib.hid (show true = decide (C = C) from (decide_eq_true rfl).symm)
  have H1 : Sat (pts w.heap.size (.cells #[.int .i64 e, .int .i64 ver, .bool y, .int .i64 n, .slice ca C.length cc, .slice pa P.length pc, .slice va V.length vc, .slice ba B.length bc] 37 (0, 0)) * F) (w.alloc (.cells #[.int .i64 e, .int .i64 ver, .bool y, .int .i64 n, .slice ca C.length cc, .slice pa P.length pc, .slice va V.length vc, .slice ba B.length bc] 37)) := H.new _
  have H2 := H1.new (.cells #[.int .i64 e, .int .i64 ver, .bool y, .int .i64 n, .slice ca' C.length cc', .slice pa' P.length pc', .slice va' V.length vc', .slice ba' B.length bc'] 37)
  have hz : (w.alloc (.cells #[.int .i64 e, .int .i64 ver, .bool y, .int .i64 n, .slice ca C.length cc, .slice pa P.length pc, .slice va V.length vc, .slice ba B.length bc] 37)).heap.size = w.heap.size + 1 := by simp
  rw [hz] at H2
  have I2 := ((Io.refl w).alloc (.cells #[.int .i64 e, .int .i64 ver, .bool y, .int .i64 n, .slice ca C.length cc, .slice pa P.length pc, .slice va V.length vc, .slice ba B.length bc] 37)).alloc (.cells #[.int .i64 e, .int .i64 ver, .bool y, .int .i64 n, .slice ca' C.length cc', .slice pa' P.length pc', .slice va' V.length vc', .slice ba' B.length bc'] 37)
  clear H1 hz
  go_enter Tryz.func22, Tryz.ntmps22
  go_upto_region 1 with fail
  generalize (w.alloc (.cells #[.int .i64 e, .int .i64 ver, .bool y, .int .i64 n, .slice ca C.length cc, .slice pa P.length pc, .slice va V.length vc, .slice ba B.length bc] 37)).alloc (.cells #[.int .i64 e, .int .i64 ver, .bool y, .int .i64 n, .slice ca' C.length cc', .slice pa' P.length pc', .slice va' V.length vc', .slice ba' B.length bc'] 37) = w0 at *
  generalize w.heap.size + 1 = q2 at *
  generalize w.heap.size = q1 at *
  obtain ⟨X, hX⟩ : ∃ X, X = pts q2 (.cells #[.int .i64 e, .int .i64 ver, .bool y, .int .i64 n, .slice ca' C.length cc', .slice pa' P.length pc', .slice va' V.length vc', .slice ba' B.length bc'] 37 (0, 0)) * (pts q1 (.cells #[.int .i64 e, .int .i64 ver, .bool y, .int .i64 n, .slice ca C.length cc, .slice pa P.length pc, .slice va V.length vc, .slice ba B.length bc] 37 (0, 0)) * F) := ⟨_, rfl⟩
  rw [← hX] at H2
  have HF : Hid (∀ W, Sat X W → Sat F W) := Lib.hid (fun W hW => by rw [hX] at hW; exact hW.right.right)
  have HA := Lib.hid (fun W (hW : Sat X W) => (by rw [hX] at hW; have k := hW.right.left.at; exact ⟨Sat.read k 0, Sat.read k 1, Sat.read k 2, Sat.read k 3, Sat.read k 4, Sat.read k 5, Sat.read k 6, Sat.read k 7⟩ : W.cell? ⟨q1, 0, none⟩ = some (.int .i64 e) ∧ W.cell? ⟨q1, 1, none⟩ = some (.int .i64 ver) ∧ W.cell? ⟨q1, 2, none⟩ = some (.bool y) ∧ W.cell? ⟨q1, 3, none⟩ = some (.int .i64 n) ∧ W.cell? ⟨q1, 4, none⟩ = some (.slice ca C.length cc) ∧ W.cell? ⟨q1, 5, none⟩ = some (.slice pa P.length pc) ∧ W.cell? ⟨q1, 6, none⟩ = some (.slice va V.length vc) ∧ W.cell? ⟨q1, 7, none⟩ = some (.slice ba B.length bc)))
  have HB := Lib.hid (fun W (hW : Sat X W) => (by rw [hX] at hW; have k := hW.left.at; exact ⟨Sat.read k 0, Sat.read k 1, Sat.read k 2, Sat.read k 3, Sat.read k 4, Sat.read k 5, Sat.read k 6, Sat.read k 7⟩ : W.cell? ⟨q2, 0, none⟩ = some (.int .i64 e) ∧ W.cell? ⟨q2, 1, none⟩ = some (.int .i64 ver) ∧ W.cell? ⟨q2, 2, none⟩ = some (.bool y) ∧ W.cell? ⟨q2, 3, none⟩ = some (.int .i64 n) ∧ W.cell? ⟨q2, 4, none⟩ = some (.slice ca' C.length cc') ∧ W.cell? ⟨q2, 5, none⟩ = some (.slice pa' P.length pc') ∧ W.cell? ⟨q2, 6, none⟩ = some (.slice va' V.length vc') ∧ W.cell? ⟨q2, 7, none⟩ = some (.slice ba' B.length bc')))
  have rc := hc.imp HF.out
  have rc' := hc'.imp HF.out
  have rp := readsP_imp hp HF.out
  have rp' := readsP_imp hp' HF.out
  have rv := hv.imp HF.out
  have rv' := hv'.imp HF.out
  have rb := hb.imp HF.out
  have rb' := hb'.imp HF.out
  clear hX hc hc' hp hp' hv hv' hb hb' T1
  obtain ⟨a0, a1, a2, a3, a4, a5, a6, a7⟩ := HA.out _ H2
  obtain ⟨b0, b1, b2, b3, b4, b5, b6, b7⟩ := HB.out _ H2
  go_wp2_with (first
    | (go_at_call 47; with_reducible refine rsamec_any rc rc' (dec_self C) H2 ?_; intro w3 H3 I3; obtain ⟨a30, a31, a32, a33, a34, a35, a36, a37⟩ := HA.out _ H3; obtain ⟨b30, b31, b32, b33, b34, b35, b36, b37⟩ := HB.out _ H3)
    | (go_at_call 20; with_reducible refine rsame_any rp rp' (dec_self P) H3 ?_; intro w4 H4 I4; obtain ⟨a40, a41, a42, a43, a44, a45, a46, a47⟩ := HA.out _ H4; obtain ⟨b40, b41, b42, b43, b44, b45, b46, b47⟩ := HB.out _ H4)
    | (go_at_call 48; with_reducible refine rsamever_any rv rv' (dec_self V) H4 ?_; intro w5 H5 I5; obtain ⟨a50, a51, a52, a53, a54, a55, a56, a57⟩ := HA.out _ H5; obtain ⟨b50, b51, b52, b53, b54, b55, b56, b57⟩ := HB.out _ H5)
    | (go_at_call 49; with_reducible refine rsamebr_any rb rb' (dec_self B) H5 ?_; intro w6 H6 I6; obtain ⟨a60, a61, a62, a63, a64, a65, a66, a67⟩ := HA.out _ H6; obtain ⟨b60, b61, b62, b63, b64, b65, b66, b67⟩ := HB.out _ H6))
  exact HH.out _ (HF.out _ H6) ((((I2.trans I3).trans I4).trans I5).trans I6)
end
end Go.Proofs.YtabpgejjnphfcaaGreat
