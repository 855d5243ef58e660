/-
  CatalogErrs, by its walk. It proves no statement by itself.
-/
import Derived.Test.YtojiffhknddleaaGreatDoorT50
namespace Go.Proofs.YtojiffhknddleaaGreatDoor
open Go.RowKit Go.Lib
set_option linter.unusedSimpArgs false
set_option linter.unusedVariables false
set_option linter.unusedSectionVars false
theorem nd7c {F : Asn} {w : World} {a : Nat} {t : TypeId} {v0 v1 v2 v3 v4 v5 v6 : Value} (H : Sat (pts a (.cells #[v0, v1, v2, v3, v4, v5, v6] t (0, 0)) * F) w) :
    w.cell? ⟨a, 0, none⟩ = some v0 ∧ w.cell? ⟨a, 1, none⟩ = some v1 ∧ w.cell? ⟨a, 2, none⟩ = some v2 ∧ w.cell? ⟨a, 3, none⟩ = some v3 ∧ w.cell? ⟨a, 4, none⟩ = some v4 ∧ w.cell? ⟨a, 5, none⟩ = some v5 ∧ w.cell? ⟨a, 6, none⟩ = some v6 :=
  ⟨Sat.read H.left.at 0, Sat.read H.left.at 1, Sat.read H.left.at 2, Sat.read H.left.at 3, Sat.read H.left.at 4, Sat.read H.left.at 5, Sat.read H.left.at 6⟩
theorem nd7s {F : Asn} {w : World} {a : Nat} {t : TypeId} {v0 v1 v2 v3 v4 v5 v6 : Value} (u : Value) (H : Sat (pts a (.cells #[v0, v1, v2, v3, v4, v5, v6] t (0, 0)) * F) w) :
    Sat (pts a (.cells #[v0, v1, v2, u, v4, v5, v6] t (0, 0)) * F) (w.setCell ⟨a, 3, none⟩ u) := H.cell 3 u
theorem nd7f {F : Asn} {w : World} {a : Nat} {t : TypeId} {v0 v1 v2 v3 v4 v5 v6 : Value} (H : Sat (pts a (.cells #[v0, v1, v2, v3, v4, v5, v6] t (0, 0)) * F) w) : w.frozen? ⟨a, 3, none⟩ = false := Sat.free H.left.at 3
section
variable {F : Asn} {w : World} {R : Ending → World → Prop}
set_option maxRecDepth 100000 in
set_option maxHeartbeats 16000000 in
theorem catalogErrs_walk (s : Int) (hm : -9223372036854775808 ≤ s) {l : List Act19} {v : Value} (hv : Reads encA19 F v l) (hz : ∀ x ∈ l, x.s.size ≤ 9223372036854775807) (H : Sat F w) (h : ∀ w', Sat F w' → Io w w' → R (.returned (.bool true)) w') :
    Calls Tryz.prog 6 #[.int .i64 s, v] w R := by
  have HH := Lib.hid h
  have HVR := Lib.hid hv
  have HZ := Lib.hid hz
  have HM := Lib.hid hm
  obtain ⟨a0, c0, rfl, hm'⟩ := reads_len9 hv
  have HV := Lib.hid (fun k hk => readsA19_get hv k hk)
  clear h hv hz hm
  go_enter Tryz.func6, Tryz.ntmps6
  go_upto_region 5 with (first
    | (go_at_call 8; (with_reducible refine works19_any H ?_); intro w1 H1 I1)
    | (go_at_call 14; (refine over19_any HVR.out HZ.out H1 ?_); intro d w2 hd H2 I2; have HD := Lib.hid hd; clear hd)
    | fail)
  have J2 := I1.trans I2
  cases d with
  | true =>
    have FIN := Lib.hid (HH.out _ H2 J2)
    go_wp2_with fail
    exact FIN.out
  | false =>
    obtain ⟨hl100, hs60⟩ := HD.out rfl
    have HL : Hid (l.length ≤ 100) := Lib.hid hl100
    have HS := Lib.hid hs60
    clear hl100 hs60 HD
    by_cases h6 : (60 : Int) < s
    · have FIN := Lib.hid (HH.out _ H2 J2)
      go_wp2_with fail
      exact FIN.out
    · have H60 : Hid (s ≤ 60) := Lib.hid (by omega)
      go_wp2_with (first
        | (go_at_call 9; (refine lcat2_any H60.out HM.out H2 ?_); intro a c w3 hn H3 I3; have HC := Lib.hid (show c.k.n ≤ 3000 by have := H60.out; omega); clear hn)
        | fail)
      have J3 := J2.trans I3
      have S3 : Sts a c F 0 w3 := .inl ⟨[], [], by simp, by simp, H3⟩
      clear H H1 H2 H3 I1 I2 I3 J2
      go_loopw [9] (fun x wr => ∃ (k : Nat), k ≤ l.length ∧ x = .int .i64 (k : Int) ∧ Sts a c F k wr ∧ Io w wr) (fun x _ => l.length - (RowKit.intOf x).toNat)
      case atStart => exact ⟨0, by omega, rfl, S3, J3⟩
      case round =>
        obtain ⟨k, hk, rfl, Hk, Ik⟩ := hrel
        clear S3 J3
        by_cases hlt : k < l.length
        · have hlti : (k : Int) < (l.length : Int) := by omega
          have hk0 : (0 : Int) ≤ (k : Int) := by omega
          obtain ⟨b1, o1, x0, x1, x2, x3, x4, x5, x6, rfl, hx, hc⟩ := HV.out k hlt
          obtain ⟨g0, g1, g2, g3, g4, g5, g6⟩ := hc _ Hk.right
          have HZ6 : Hid (x6.size ≤ 1000) := Lib.hid (by have := HS.out l[k] (List.getElem_mem hlt); rw [hx] at this; simp only at this; omega)
          have HK1 : Hid (k ≤ 100) := Lib.hid (by have := HL.out; omega)
          clear hc hx
          have H2 : Sts a c (pts wr.heap.size (.cells #[.int .i64 x0, .int .i64 x1, .int .i64 x2, .int .i64 x3, .int .i64 x4, .int .i64 x5, .string x6] 45 (0, 0)) * F) k (wr.alloc (.cells #[.int .i64 x0, .int .i64 x1, .int .i64 x2, .int .i64 x3, .int .i64 x4, .int .i64 x5, .string x6] 45)) := Hk.new [.int .i64 x0, .int .i64 x1, .int .i64 x2, .int .i64 x3, .int .i64 x4, .int .i64 x5, .string x6] 45
          have I2 := Ik.alloc (.cells #[.int .i64 x0, .int .i64 x1, .int .i64 x2, .int .i64 x3, .int .i64 x4, .int .i64 x5, .string x6] 45)
          go_upto_region 12 with fail
          generalize wr.alloc (.cells #[.int .i64 x0, .int .i64 x1, .int .i64 x2, .int .i64 x3, .int .i64 x4, .int .i64 x5, .string x6] 45) = w2 at *
          generalize wr.heap.size = bz at *
          have f3 := nd7f H2.right
          obtain ⟨y0, y1, y2, y3, y4, y5, y6⟩ := nd7c H2.right
          have K3 := Sts.box H2 (fun G h => nd7s (.int .i64 0) h)
          have J3 := I2.setCell ⟨bz, 3, none⟩ (.int .i64 0)
          clear g0 g1 g2 g3 g4 g5 g6 H2 I2 Hk Ik
          go_upto_region 13 with fail
          clear y0 y1 y2 y3 y4 y5 y6 f3
          generalize w2.setCell ⟨bz, 3, none⟩ (.int .i64 0) = w4 at *
          obtain ⟨y0, y1, y2, y3, y4, y5, y6⟩ := nd7c K3.right
          by_cases r0 : x0.tmod 3 = 0
          · go_upto_region 21 with (first
              | (go_at_call 10; (with_reducible refine st_put HK1.out HC x1 x2 0 x4 K3 ?_); intro e w5 he H5 I5)
              | fail)
            by_cases he2 : e = 2
            · subst he2
              have KE := he.out.2 rfl
              go_wp2_with (first
                | (go_at_call 28; (with_reducible refine kerrE_any KE ?_); intro w6 H6 I6)
                | fail)
              go_roundw
              case rel => exact ⟨k + 1, by omega, by go_num, .inr (swap3 H6).right, (J3.trans I5).trans I6⟩
              case measure => simp [RowKit.intOf]; omega
            · have he3 := he.out.1
              have de2 : decide (e = 2) = false := decide_eq_false he2
              have be2 : (e == 2) = false := by simpa using he2
              have de3 : decide (e = 3) = false := decide_eq_false he3
              have be3 : (e == 3) = false := by simpa using he3
              go_wp2_with fail
              go_roundw
              case rel => exact ⟨k + 1, by omega, by go_num, H5.drop, J3.trans I5⟩
              case measure => simp [RowKit.intOf]; omega
          · by_cases r1 : x0.tmod 3 = 1
            · go_upto_region 21 with (first
                | (go_at_call 11; (with_reducible refine st_make HK1.out HC x6 x1 HZ6 K3 ?_); intro e w5 he H5 I5)
                | fail)
              by_cases he2 : e = 2
              · subst he2
                have KE := he.out.2 rfl
                go_wp2_with (first
                  | (go_at_call 28; (with_reducible refine kerrE_any KE ?_); intro w6 H6 I6)
                  | fail)
                go_roundw
                case rel => exact ⟨k + 1, by omega, by go_num, .inr (swap3 H6).right, (J3.trans I5).trans I6⟩
                case measure => simp [RowKit.intOf]; omega
              · have he3 := he.out.1
                have de2 : decide (e = 2) = false := decide_eq_false he2
                have be2 : (e == 2) = false := by simpa using he2
                have de3 : decide (e = 3) = false := decide_eq_false he3
                have be3 : (e == 3) = false := by simpa using he3
                go_wp2_with fail
                go_roundw
                case rel => exact ⟨k + 1, by omega, by go_num, H5.drop, J3.trans I5⟩
                case measure => simp [RowKit.intOf]; omega
            · by_cases r2 : x0.tmod 3 = 2
              · go_upto_region 21 with (first
                  | (go_at_call 16; (with_reducible refine st_drop HK1.out HC x5 K3 ?_); intro e w5 he H5 I5)
                  | fail)
                by_cases he2 : e = 2
                · subst he2
                  have KE := he.out.2 rfl
                  go_wp2_with (first
                    | (go_at_call 28; (with_reducible refine kerrE_any KE ?_); intro w6 H6 I6)
                    | fail)
                  go_roundw
                  case rel => exact ⟨k + 1, by omega, by go_num, .inr (swap3 H6).right, (J3.trans I5).trans I6⟩
                  case measure => simp [RowKit.intOf]; omega
                · have he3 := he.out.1
                  have de2 : decide (e = 2) = false := decide_eq_false he2
                  have be2 : (e == 2) = false := by simpa using he2
                  have de3 : decide (e = 3) = false := decide_eq_false he3
                  have be3 : (e == 3) = false := by simpa using he3
                  go_wp2_with fail
                  go_roundw
                  case rel => exact ⟨k + 1, by omega, by go_num, H5.drop, J3.trans I5⟩
                  case measure => simp [RowKit.intOf]; omega
              · go_wp2_with fail
                go_roundw
                case rel => exact ⟨k + 1, by omega, by go_num, (K3.drop).mono (by omega), J3⟩
                case measure => simp [RowKit.intOf]; omega
        · obtain rfl : k = l.length := by omega
          have hge : ¬ (l.length : Int) < (l.length : Int) := by omega
          have HG : Hid (l.length ≤ 240) := Lib.hid (by have := HL.out; omega)
          clear HV HS HZ HVR
          rcases Hk with ⟨V, B, h1, h2, Hk⟩ | Hk
          · have HVB : Hid (V.length + B.length ≤ 1000) := Lib.hid (by have := HL.out; omega)
            go_wp2_with (first
              | (go_at_call 25; (with_reducible refine versions_any HG.out HVB.out Hk ?_); intro vv w4 H4 I4; have H5 := H4.right)
              | (go_at_call 12; (with_reducible refine branches_any HG.out HVB.out H5 ?_); intro vb w6 H6 I6)
              | (go_at_call 28; (with_reducible refine kerr0_any H6.right ?_); intro w7 H7 I7)
              | fail)
            exact HH.out _ H7.right (((Ik.trans I4).trans I6).trans I7)
          · go_wp2_with (first
              | (go_at_call 25; (with_reducible refine versions_err Hk ?_); intro w4 H4 I4)
              | (go_at_call 12; (with_reducible refine branches_err H4 ?_); intro w6 H6 I6)
              | (go_at_call 28; (with_reducible refine kerrE_any H6 ?_); intro w7 H7 I7)
              | (go_at_call 28; (with_reducible refine kerrE_any H7 ?_); intro w8 H8 I8)
              | (go_at_call 28; (with_reducible refine kerrE_any H8 ?_); intro w9 H9 I9)
              | fail)
            exact HH.out _ H9.right (((((Ik.trans I4).trans I6).trans I7).trans I8).trans I9)
end
end Go.Proofs.YtojiffhknddleaaGreatDoor
