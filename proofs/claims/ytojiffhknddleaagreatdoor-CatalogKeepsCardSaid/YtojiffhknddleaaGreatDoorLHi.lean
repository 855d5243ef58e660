/-
  CatalogKeeps, by its walk: what is ahead of the last act. It proves no statement by itself.
-/
import Derived.Test.YtojiffhknddleaaGreatDoorS48
import Derived.Test.YtojiffhknddleaaGreatDoorS50
namespace Go.Proofs.YtojiffhknddleaaGreatDoor
open Go.RowKit Go.Lib
set_option linter.unusedSimpArgs false
set_option linter.unusedVariables false
set_option linter.unusedSectionVars false
namespace Ca
def Pt (V : List Md.Ver) (v : Md.Ver) (e : Int) (V' : List Md.Ver) : Prop := (OkV v ∧ e = 0 ∧ V' = vput V v) ∨ (¬ OkV v ∧ e = 1 ∧ V' = V)
theorem Pt.len {V V' : List Md.Ver} {v : Md.Ver} {e : Int} (h : Pt V v e V') : V'.length ≤ V.length + 1 := by
  rcases h with ⟨_, _, rfl⟩ | ⟨_, _, rfl⟩
  · exact vput_len V v
  · omega
theorem Pt.done {V V' : List Md.Ver} {B : List Md.Br} {v : Md.Ver} {n : Int} {s : Ky.Nm} {e : Int} (h : Pt V v e V') : Done V B v n s 0 e V' B := by
  rcases h with ⟨a, rfl, rfl⟩ | ⟨a, rfl, rfl⟩
  · exact .put a
  · exact .noput a
end Ca
section
variable {a : Nat} {c : Cq} {F : Asn} {w : World} {R : Ending → World → Prop} {V : List Md.Ver} {B : List Md.Br} {q g : Nat}
/-- Put, whatever is put. -/
theorem kput_any (x1 x2 x3 x4 : Int) (hk : c.k.n ≤ 3000) (hg : g ≤ 240) (hq : 60 ≤ q) (hroom : Hid (30 + (Tb.most q g : Int) < c.k.room)) (H : Sat (KtAt a c V B q g * F) w)
    (hR : ∀ e V' w', Hid (Ca.Pt V ⟨x1, x2, x3, x4⟩ e V') → Sat (KtAt a c V' B (q + 19) (g + 1) * F) w' → Io w w' → R (.returned (.int .i64 e)) w') :
    Calls Tryz.prog 10 #[.pointer (some ⟨a, 0, none⟩), .agg #[.int .i64 x1, .int .i64 x2, .int .i64 x3, .int .i64 x4]] w R := by
  by_cases ok : Ca.OkV ⟨x1, x2, x3, x4⟩
  · exact kput_yes ⟨x1, x2, x3, x4⟩ ok hk hg hq hroom H fun w' H' I => hR _ _ w' (Lib.hid (.inl ⟨ok, rfl, rfl⟩)) H' I
  · exact kput_no ⟨x1, x2, x3, x4⟩ ok H fun w' H' I => hR _ _ w' (Lib.hid (.inr ⟨ok, rfl, rfl⟩)) (KtAt.mono (by omega) (by omega) H') I
theorem room_keeps {c : Cq} {k : Nat} (hc : Hid (c.k.n = 1500)) (hk : k ≤ 201) : Hid (30 + (Tb.most (60 + 19 * k) k : Int) < c.k.room) := Lib.hid (kroom hc.out (by
  unfold Tb.most
  have h1 : k / 11 + 2 ≤ 20 := by omega
  have h2 := Nat.mul_le_mul (show 60 + 19 * k ≤ 3879 by omega) h1
  omega))
theorem kk_put {k : Nat} (x1 x2 x3 x4 : Int) (hc : Hid (c.k.n = 1500)) (hk : k ≤ 201) (H : Sat (KtAt a c V B (60 + 19 * k) k * F) w)
    (hR : ∀ e V' w', Hid (Ca.Pt V ⟨x1, x2, x3, x4⟩ e V') → Sat (KtAt a c V' B (60 + 19 * (k + 1)) (k + 1) * F) w' → Io w w' → R (.returned (.int .i64 e)) w') :
    Calls Tryz.prog 10 #[.pointer (some ⟨a, 0, none⟩), .agg #[.int .i64 x1, .int .i64 x2, .int .i64 x3, .int .i64 x4]] w R :=
  kput_any x1 x2 x3 x4 (by have := hc.out; omega) (by omega) (by omega) (room_keeps hc hk) H hR
theorem kk_make {k : Nat} (n : Ky.Nm) (id : Int) (hc : Hid (c.k.n = 1500)) (hk : k ≤ 201) (ZN : Hid (n.size ≤ 1000)) (hl : Hid (V.length + B.length ≤ 1000)) (H : Sat (KtAt a c V B (60 + 19 * k) k * F) w)
    (hR : ∀ e B' w', Hid (Md.mk V B n id = (e, B')) → Sat (KtAt a c V B' (60 + 19 * (k + 1)) (k + 1) * F) w' → Io w w' → R (.returned (.int .i64 e)) w') :
    Calls Tryz.prog 11 #[.pointer (some ⟨a, 0, none⟩), .string n, .int .i64 id] w R :=
  kmake_any n id (Lib.hid rfl) ZN hl.out (by have := hc.out; omega) (by omega) (by omega) (room_keeps hc hk) H fun w' H' I => hR _ _ w' (Lib.hid rfl) H' I
theorem kk_move {k : Nat} (n : Ky.Nm) (id : Int) (hc : Hid (c.k.n = 1500)) (hk : k ≤ 201) (ZN : Hid (n.size ≤ 1000)) (hl : Hid (V.length + B.length ≤ 1000)) (H : Sat (KtAt a c V B (60 + 19 * k) k * F) w)
    (hR : ∀ e B' w', Hid (Ca.mv V B n id = (e, B')) → Sat (KtAt a c V B' (60 + 19 * (k + 1)) (k + 1) * F) w' → Io w w' → R (.returned (.int .i64 e)) w') :
    Calls Tryz.prog 19 #[.pointer (some ⟨a, 0, none⟩), .string n, .int .i64 id] w R :=
  kmove_any n id (Lib.hid rfl) ZN hl.out (by have := hc.out; omega) (by omega) (by omega) (room_keeps hc hk) H fun w' H' I => hR _ _ w' (Lib.hid rfl) H' I
theorem kk_drop {k : Nat} (id : Int) (hc : Hid (c.k.n = 1500)) (hk : k ≤ 201) (hl : Hid (V.length + B.length ≤ 1000)) (H : Sat (KtAt a c V B (60 + 19 * k) k * F) w)
    (hR : ∀ e V' w', Hid (Md.drp V B id = (e, V')) → Sat (KtAt a c V' B (60 + 19 * (k + 1)) (k + 1) * F) w' → Io w w' → R (.returned (.int .i64 e)) w') :
    Calls Tryz.prog 16 #[.pointer (some ⟨a, 0, none⟩), .int .i64 id] w R :=
  kdrop_any id (Lib.hid rfl) hl.out (by have := hc.out; omega) (by omega) (by omega) (room_keeps hc hk) H fun w' H' I => hR _ _ w' (Lib.hid rfl) (KtAt.mono (by omega) (by omega) H') I
end
set_option maxRecDepth 100000 in
/-- No error stands. -/
theorem kerr_any {a : Nat} {c : Cq} {F : Asn} {w : World} {R : Ending → World → Prop} {V : List Md.Ver} {B : List Md.Br} {q g : Nat} (H : Sat (KtAt a c V B q g * F) w) (hR : ∀ w', Sat (KtAt a c V B q g * F) w' → Io w w' → R (.returned (.int .i64 0)) w') :
    Calls Tryz.prog 28 #[.pointer (some ⟨c.tr, 0, none⟩)] w R := by
  have HH := Lib.hid (hR w H (Io.refl w))
  obtain ⟨es, cat, K⟩ := sat_kt.1 H
  obtain ⟨r, L, _, _, K⟩ := sat_tr.1 K
  have K2 : Sat (CtCell c r 0 * (PgAt c.k L * (pts a (.cells #[.pointer (some ⟨c.tr, 0, none⟩)] 82 (0, 0)) * F))) w := K.of_eq (by unfold CtAt; ac_rfl)
  have z : w.cell? ⟨c.tr, 2, none⟩ = some (.int .i64 0) := by
    unfold CtCell at K2
    exact Sat.read K2.left.at 2
  clear hR H K K2 cat
  go_enter Tryz.func28, Tryz.ntmps28
  go_wp2_with fail
  exact HH.out
theorem ks_ver {R : Ending → World → Prop} {w : World} {u v : Value} {V V' : List Md.Ver} {X Y Z P : Asn} {d : Bool} (hV : V.length ≤ 1000) (hV' : V'.length ≤ 1000) (hd : Hid (d = decide (V = V'))) (H : Sat (X * (Y * (RowV u V' * (Z * (RowV v V * P))))) w) (h : ∀ w', Sat (X * (Y * (RowV u V' * (Z * (RowV v V * P))))) w' → Io w w' → R (.returned (.bool d)) w') :
    Calls Tryz.prog 29 #[v, u] w R := by
  have e1 : X * (Y * (RowV u V' * (Z * (RowV v V * P)))) = RowV v V * (X * (Y * (RowV u V' * (Z * P)))) := by unfold RowV; ac_rfl
  have e2 : X * (Y * (RowV u V' * (Z * (RowV v V * P)))) = RowV u V' * (X * (Y * (Z * (RowV v V * P)))) := by unfold RowV; ac_rfl
  exact rsamever_any ((Reads.of_row (H.of_eq e1) (by omega)).imp fun _ h => h.of_eq e1) ((Reads.of_row (H.of_eq e2) (by omega)).imp fun _ h => h.of_eq e2) hd H h
theorem ks_br {R : Ending → World → Prop} {w : World} {u v : Value} {B B' : List Md.Br} {X Y P : Asn} {d : Bool} (hB : B.length ≤ 1000) (hB' : B'.length ≤ 1000) (hd : Hid (d = decide (B = B'))) (H : Sat (RowB u B' * (X * (Y * (RowB v B * P)))) w) (h : ∀ w', Sat (RowB u B' * (X * (Y * (RowB v B * P)))) w' → Io w w' → R (.returned (.bool d)) w') :
    Calls Tryz.prog 30 #[v, u] w R := by
  have e1 : RowB u B' * (X * (Y * (RowB v B * P))) = RowB v B * (RowB u B' * (X * (Y * P))) := by unfold RowB; ac_rfl
  exact rsamebr_any ((Reads.of_row (H.of_eq e1) (by omega)).imp fun _ h => h.of_eq e1) (Reads.of_row H (by omega)) hd H h
theorem nd7 {F : Asn} {w : World} {a : Nat} {t : TypeId} {v0 v1 v2 v3 v4 v5 v6 : Value} (H : Sat (pts a (.cells #[v0, v1, v2, v3, v4, v5, v6] t (0, 0)) * F) w) :
    w.cell? ⟨a, 0, none⟩ = some v0 ∧ w.cell? ⟨a, 1, none⟩ = some v1 ∧ w.cell? ⟨a, 2, none⟩ = some v2 ∧ w.cell? ⟨a, 3, none⟩ = some v3 ∧ w.cell? ⟨a, 4, none⟩ = some v4 ∧ w.cell? ⟨a, 5, none⟩ = some v5 ∧ w.cell? ⟨a, 6, none⟩ = some v6 :=
  ⟨Sat.read H.left.at 0, Sat.read H.left.at 1, Sat.read H.left.at 2, Sat.read H.left.at 3, Sat.read H.left.at 4, Sat.read H.left.at 5, Sat.read H.left.at 6⟩
section
variable {F : Asn} {w : World} {R : Ending → World → Prop}
set_option maxRecDepth 100000 in
set_option maxHeartbeats 16000000 in
theorem catalogKeeps_walk {l : List Act19} {v : Value} (hv : Reads encA19 F v l) (hz : ∀ x ∈ l, x.s.size ≤ 9223372036854775807) (x0 x1 x2 x3 x4 x5 : Int) (x6 : ByteArray) (hz6 : x6.size ≤ 9223372036854775807) (H : Sat F w) (h : ∀ w', Sat F w' → Io w w' → R (.returned (.bool true)) w') :
    Calls Tryz.prog 7 #[v, .agg #[.int .i64 x0, .int .i64 x1, .int .i64 x2, .int .i64 x3, .int .i64 x4, .int .i64 x5, .string x6]] w R := by
  have HH := Lib.hid h
  have HVR := Lib.hid hv
  have HZ := Lib.hid hz
  obtain ⟨a0, c0, rfl, hm⟩ := reads_len9 hv
  have HV := Lib.hid (fun k hk => readsA19_get hv k hk)
  have zz : (x6.size : Int) ≤ 9223372036854775807 := by omega
  have H0 := H.new (.cells #[.int .i64 x0, .int .i64 x1, .int .i64 x2, .int .i64 x3, .int .i64 x4, .int .i64 x5, .string x6] 45)
  have I0 := (Io.refl w).alloc (.cells #[.int .i64 x0, .int .i64 x1, .int .i64 x2, .int .i64 x3, .int .i64 x4, .int .i64 x5, .string x6] 45)
  clear h hv hz hz6 H
  go_enter Tryz.func7, Tryz.ntmps7
  go_upto_region 1 with fail
  generalize w.alloc (.cells #[.int .i64 x0, .int .i64 x1, .int .i64 x2, .int .i64 x3, .int .i64 x4, .int .i64 x5, .string x6] 45) = wa at *
  generalize w.heap.size = bx at *
  go_upto_region 5 with (first
    | (go_at_call 8; (with_reducible refine works19_any H0 ?_); intro w1 H1 I1)
    | (go_at_call 14; (refine over19_any (HVR.out.imp fun _ h => h.right) HZ.out H1 ?_); intro d w2 hd H2 I2; have HD := Lib.hid hd; clear hd)
    | fail)
  cases d with
  | true =>
    have FIN := Lib.hid (HH.out _ H2.right ((I0.trans I1).trans I2))
    go_wp2_with fail
    exact FIN.out
  | false =>
    obtain ⟨hl100, hs60⟩ := HD.out rfl
    have HL : Hid (l.length ≤ 100) := Lib.hid hl100
    have HS := Lib.hid hs60
    obtain ⟨y0, y1, y2, y3, y4, y5, y6⟩ := nd7 H2
    by_cases h6 : (60 : Int) < (x6.size : Int)
    · have FIN := Lib.hid (HH.out _ H2.right ((I0.trans I1).trans I2))
      go_wp2_with fail
      exact FIN.out
    · have ZN : Hid (x6.size ≤ 1000) := Lib.hid (by omega)
      clear hl100 hs60
      go_wp2_with (first
        | (go_at_call 9; (refine lcat_any (n := 1500) (by decide) H2 ?_); intro a c w3 hn H3 I3; have HC := Lib.hid hn; clear hn)
        | fail)
      have J3 := (((I0.trans I1).trans I2).trans I3)
      clear H0 H1 H2 I0 I1 I2 I3 y0 y1 y2 y3 y4 y5 y6
      go_loopw [9] (fun x wr => ∃ (k : Nat) (V : List Md.Ver) (B : List Md.Br), k ≤ l.length ∧ x = .int .i64 (k : Int) ∧ Hid (V.length ≤ k ∧ B.length ≤ k) ∧ Sat (KtAt a c V B (60 + 19 * (2 * k)) (2 * k) * (pts bx (.cells #[.int .i64 x0, .int .i64 x1, .int .i64 x2, .int .i64 x3, .int .i64 x4, .int .i64 x5, .string x6] 45 (0, 0)) * F)) wr ∧ Io w wr) (fun x _ => l.length - (RowKit.intOf x).toNat)
      case atStart => exact ⟨0, [], [], by omega, rfl, Lib.hid (by simp), H3, J3⟩
      case round =>
        obtain ⟨k, V, B, hk, rfl, hVB, Hk, Ik⟩ := hrel
        clear H3 J3
        by_cases hlt : k < l.length
        · have hlti : (k : Int) < (l.length : Int) := by omega
          have hk0 : (0 : Int) ≤ (k : Int) := by omega
          obtain ⟨b1, o1, z0, z1, z2, z3, z4, z5, z6, rfl, hx, hc⟩ := HV.out k hlt
          have HCC := Lib.hid hc
          obtain ⟨g0, g1, g2, g3, g4, g5, g6⟩ := hc _ Hk.right.right
          have HZ6 : Hid (z6.size ≤ 1000) := Lib.hid (by have := HS.out l[k] (List.getElem_mem hlt); rw [hx] at this; simp only at this; omega)
          have HK1 : Hid (2 * k ≤ 201) := Lib.hid (by have := HL.out; omega)
          have HK2 : Hid (2 * k + 1 ≤ 201) := Lib.hid (by have := HL.out; omega)
          clear hc hx
          go_upto_region 12 with (first
            | (go_at_call 10; (with_reducible refine kk_put z1 z2 z3 z4 HC HK1.out Hk ?_); intro e4 V4 w4 hp H4 I4; have HP := Lib.hid (Ca.Pt.len hp.out); clear hp)
            | fail)
          have HVB4 : Hid (V4.length + B.length ≤ 1000) := Lib.hid (by have := HP.out; have := hVB.out; have := HL.out; omega)
          have H4d := H4.drew
          have S0 := (HCC.out _ H4d.right.right).2.2.2.2.2
          go_region_held3 (fun W => W.cell? ⟨b1, o1 + k * 7 + 5, none⟩ = some (.int .i64 z5) ∧ W.cell? ⟨b1, o1 + k * 7 + 6, none⟩ = some (.string z6)) (with_reducible (first | exact S0 | exact S1)) (first
            | (go_at_call 11; (with_reducible refine kk_make z6 z5 HC HK2.out HZ6 HVB4 H4d ?_); intro e5 B5 w5 hb H5 I5; have HB5 := Lib.hid (Ca.mk_len hb.out); clear hb; have S1 := (HCC.out _ H5.right.right).2.2.2.2.2))
          go_wp2_with fail
          go_roundw
          case rel => exact ⟨k + 1, V4, B5, by omega, by go_num, Lib.hid ⟨by have := HP.out; have := hVB.out; omega, by have := HB5.out; have := hVB.out; omega⟩, H5, (Ik.trans I4.drew).trans I5⟩
          case measure => simp [RowKit.intOf]; omega
        · obtain rfl : k = l.length := by omega
          have hge : ¬ (l.length : Int) < (l.length : Int) := by omega
          have HK1 : Hid (2 * l.length ≤ 200) := Lib.hid (by have := HL.out; omega)
          have HVB1 : Hid (V.length + B.length ≤ 1000) := Lib.hid (by have := hVB.out; have := HL.out; omega)
          have n1 : (V.length : Int) ≤ 1000 := by have := HVB1.out; omega
          have n2 : (B.length : Int) ≤ 1000 := by have := HVB1.out; omega
          clear HV HS HZ HVR
          go_upto_region 18 with (first
            | (go_at_call 25; (with_reducible refine versions_any (by have := HK1.out; omega) HVB1.out Hk ?_); intro vv w4 H4 I4; obtain ⟨av, cv, hq⟩ := rowOf_shl H4; subst hq; have H5 := swap3 H4)
            | (go_at_call 12; (with_reducible refine branches_any (by have := HK1.out; omega) HVB1.out H5 ?_); intro vb w6 H6 I6; obtain ⟨ab, cb, hq⟩ := rowOf_shl H6; subst hq; have H7 := swap3 H6)
            | fail)
          obtain ⟨y0, y1, y2, y3, y4, y5, y6⟩ := nd7 H7.right.right.right
          have J7 := (Ik.trans I4).trans I6
          have HCAT := Lib.hid (kt_len H7)
          have HK2 : Hid (2 * l.length ≤ 201) := Lib.hid (by have := HL.out; omega)
          clear H4 H5 H6 Hk Ik I4 I6
          go_upto_block 2 with fail
          go_cut [14] from 86 to 114 (fun x wc => ∃ g V' B', x = .int .i64 g ∧ Hid (Ca.Done V B ⟨x1, x2, x3, x4⟩ x5 x6 (x0.tmod 4) g V' B') ∧ Sat (KtAt a c V' B' (60 + 19 * (2 * l.length + 1)) (2 * l.length + 1) * (RowB (.slice ab B.length cb) B * (RowV (.slice av V.length cv) V * (pts bx (.cells #[.int .i64 x0, .int .i64 x1, .int .i64 x2, .int .i64 x3, .int .i64 x4, .int .i64 x5, .string x6] 45 (0, 0)) * F)))) wc ∧ Io w wc)
          case first =>
            by_cases r0 : x0.tmod 4 = 0
            · go_wp2_with (first
                | (go_at_call 10; (with_reducible refine kk_put x1 x2 x3 x4 HC HK2.out H7 ?_); intro e8 V8 w8 hp H8 I8)
                | fail)
              go_meet
              exact ⟨e8, V8, B, rfl, Lib.hid (by rw [r0]; exact hp.out.done), H8, J7.trans I8⟩
            · by_cases r1 : x0.tmod 4 = 1
              · go_wp2_with (first
                  | (go_at_call 16; (with_reducible refine kk_drop x5 HC HK2.out HVB1 H7 ?_); intro e8 V8 w8 hp H8 I8)
                  | fail)
                go_meet
                exact ⟨e8, V8, B, rfl, Lib.hid (by rw [r1]; exact .drop hp.out), H8, J7.trans I8⟩
              · by_cases r2 : x0.tmod 4 = 2
                · go_wp2_with (first
                    | (go_at_call 11; (with_reducible refine kk_make x6 x5 HC HK2.out ZN HVB1 H7 ?_); intro e8 B8 w8 hp H8 I8)
                    | fail)
                  go_meet
                  exact ⟨e8, V, B8, rfl, Lib.hid (by rw [r2]; exact .make hp.out), H8, J7.trans I8⟩
                · by_cases r3 : x0.tmod 4 = 3
                  · go_wp2_with (first
                      | (go_at_call 19; (with_reducible refine kk_move x6 x5 HC HK2.out ZN HVB1 H7 ?_); intro e8 B8 w8 hp H8 I8)
                      | fail)
                    go_meet
                    exact ⟨e8, V, B8, rfl, Lib.hid (by rw [r3]; exact .move hp.out), H8, J7.trans I8⟩
                  · go_wp2_with fail
                    go_meet
                    exact ⟨0, V, B, rfl, Lib.hid (.none r0 r1 r2 r3), KtAt.mono (by omega) (by omega) H7, J7⟩
          case rest =>
          obtain ⟨g, V', B', rfl, HDN, HK, IK⟩ := hcut
          have HLN := Lib.hid HDN.out.len
          have HVB2 : Hid (V'.length + B'.length ≤ 1000) := Lib.hid (by have := HLN.out; have := hVB.out; have := HL.out; omega)
          have HG : Hid (2 * l.length + 1 ≤ 240) := Lib.hid (by have := HL.out; omega)
          have HVV := Lib.hid (fun k hk => readsV_get2 (Reads.of_row HK.right.right (by omega)) k hk)
          have HBB := Lib.hid (fun k hk => readsB_get (Reads.of_row HK.right (by omega)) k hk)
          have HKV := Lib.hid (fun (x : Md.Ver) hx hn => (kt_len HK).elim fun es c' => HDN.out.keepV c' (x := x) hx hn)
          have HKB := Lib.hid (fun (b : Md.Br) hb => (kt_len HK).elim fun es c' => HCAT.out.elim fun es0 c0 => HDN.out.keepB c0 c' (b := b) hb)
          clear H7 J7 y0 y1 y2 y3 y4 y5 y6
          go_wp2_with fail
          go_loopw [15] (fun x wr => ∃ (k : Nat), k ≤ V.length ∧ x = .int .i64 (k : Int) ∧ Sat (KtAt a c V' B' (60 + 19 * (2 * l.length + 1)) (2 * l.length + 1) * (RowB (.slice ab B.length cb) B * (RowV (.slice av V.length cv) V * (pts bx (.cells #[.int .i64 x0, .int .i64 x1, .int .i64 x2, .int .i64 x3, .int .i64 x4, .int .i64 x5, .string x6] 45 (0, 0)) * F)))) wr ∧ Io w wr) (fun x _ => V.length - (RowKit.intOf x).toNat)
          case atStart => exact ⟨0, by omega, rfl, HK, IK⟩
          case round =>
            obtain ⟨k, hk, rfl, Hk, Ik⟩ := hrel
            clear HK IK
            by_cases hlt : k < V.length
            · have hlti : (k : Int) < (V.length : Int) := by omega
              have hk0 : (0 : Int) ≤ (k : Int) := by omega
              obtain ⟨b1, o1, i1, i2, i3, i4, rfl, hx, hc⟩ := HVV.out k hlt
              have HCC := Lib.hid hc
              obtain ⟨g0, g1, g2, g3⟩ := hc _ Hk.right.right
              obtain ⟨⟨q1, q2, q3, q4⟩, eh, hvat⟩ : ∃ vv eh, Ca.vat V' i1 = (vv, eh) := ⟨_, _, rfl⟩
              have HW := Lib.hid hvat
              have HQ : Hid (¬ (g = 0 ∧ (x0.tmod 4 = 0 ∧ x1 = i1 ∨ x0.tmod 4 = 1 ∧ x5 = i1)) → q1 = i1 ∧ q2 = i2 ∧ q3 = i3 ∧ q4 = i4 ∧ eh = 0) := Lib.hid (fun hn => by
                have h1 := HKV.out ⟨i1, i2, i3, i4⟩ (hx ▸ List.getElem_mem hlt) hn
                simp only at h1
                rw [hvat] at h1
                injection h1 with h1 h2
                injection h1 with h3 h4 h5 h6
                exact ⟨h3, h4, h5, h6, h2⟩)
              clear hc hx hvat
              go_upto_region 31 with (go_at_call 26; (with_reducible refine cversion_any i1 HW HG.out Hk ?_); intro w3 H3 I3)
              have H5 := H3.new (.cells #[.int .i64 q1, .int .i64 q2, .int .i64 q3, .int .i64 q4] 30)
              have I5 := (Ik.trans I3).alloc (.cells #[.int .i64 q1, .int .i64 q2, .int .i64 q3, .int .i64 q4] 30)
              generalize w3.alloc (.cells #[.int .i64 q1, .int .i64 q2, .int .i64 q3, .int .i64 q4] 30) = w5 at *
              generalize w3.heap.size = bz at *
              clear g0 g1 g2 g3 H3 I3 Hk Ik
              obtain ⟨f0, f1, f2, f3⟩ := nd4 H5
              obtain ⟨g0, g1, g2, g3⟩ := HCC.out _ H5.right.right.right
              obtain ⟨y0, y1, y2, y3, y4, y5, y6⟩ := nd7 H5.right.right.right.right
              have Hn := fun n => H5.right.drewN n
              have In := fun n => I5.drewN n
              by_cases hg : g = 0
              · by_cases r0 : x0.tmod 4 = 0
                · by_cases h1 : x1 = i1
                  · subst hg
                    subst h1
                    have dr0 : decide (x0.tmod 4 = 0) = true := decide_eq_true r0
                    have br0 : (x0.tmod 4 == 0) = true := by simpa using r0
                    go_quiet (fail)
                    go_upto_region 32 with fail
                    have H6 := H5.drewN nq
                    have I6 := I5.drewN nq
                    generalize w5.drewN nq = w6 at *
                    clear f0 f1 f2 f3 g0 g1 g2 g3 y0 y1 y2 y3 y4 y5 y6 Hn In
                    obtain ⟨f0, f1, f2, f3⟩ := nd4 H6
                    obtain ⟨g0, g1, g2, g3⟩ := HCC.out _ H6.right.right.right
                    have Hn := fun n => H6.right.drewN n
                    have In := fun n => I6.drewN n
                    go_quiet (fail)
                    go_wp2_with fail
                    go_roundw
                    case rel => exact ⟨k + 1, by omega, by go_num, Hn _, In _⟩
                    case measure => simp [RowKit.intOf]; omega
                  · subst hg
                    have dr0 : decide (x0.tmod 4 = 0) = true := decide_eq_true r0
                    have br0 : (x0.tmod 4 == 0) = true := by simpa using r0
                    have dh1 : decide (x1 = i1) = false := decide_eq_false h1
                    have bh1 : (x1 == i1) = false := by simpa using h1
                    have dz1 : decide (x0.tmod 4 = 1) = false := decide_eq_false (by omega : ¬ x0.tmod 4 = 1)
                    have bz1 : (x0.tmod 4 == 1) = false := by simpa using (by omega : ¬ x0.tmod 4 = 1)
                    obtain ⟨rfl, rfl, rfl, rfl, rfl⟩ := HQ.out (fun h => h.2.elim (fun h => h1 h.2) (fun h => by omega))
                    have EQ := fun W => neq_ver (⟨q1, q2, q3, q4⟩ : Md.Ver) (⟨q1, q2, q3, q4⟩ : Md.Ver) W
                    simp only [decide_true, Bool.not_true] at EQ
                    go_quiet (fail)
                    go_upto_region 32 with fail
                    have H6 := H5.drewN nq
                    have I6 := I5.drewN nq
                    generalize w5.drewN nq = w6 at *
                    clear f0 f1 f2 f3 g0 g1 g2 g3 y0 y1 y2 y3 y4 y5 y6 Hn In
                    obtain ⟨f0, f1, f2, f3⟩ := nd4 H6
                    obtain ⟨g0, g1, g2, g3⟩ := HCC.out _ H6.right.right.right
                    have Hn := fun n => H6.right.drewN n
                    have In := fun n => I6.drewN n
                    go_quiet (fail)
                    go_wp2_with fail
                    go_roundw
                    case rel => exact ⟨k + 1, by omega, by go_num, Hn _, In _⟩
                    case measure => simp [RowKit.intOf]; omega
                · by_cases r1 : x0.tmod 4 = 1
                  · by_cases h5 : x5 = i1
                    · subst hg
                      subst h5
                      have dr0 : decide (x0.tmod 4 = 0) = false := decide_eq_false r0
                      have br0 : (x0.tmod 4 == 0) = false := by simpa using r0
                      have dr1 : decide (x0.tmod 4 = 1) = true := decide_eq_true r1
                      have br1 : (x0.tmod 4 == 1) = true := by simpa using r1
                      go_quiet (fail)
                      go_upto_region 32 with fail
                      have H6 := H5.drewN nq
                      have I6 := I5.drewN nq
                      generalize w5.drewN nq = w6 at *
                      clear f0 f1 f2 f3 g0 g1 g2 g3 y0 y1 y2 y3 y4 y5 y6 Hn In
                      obtain ⟨f0, f1, f2, f3⟩ := nd4 H6
                      obtain ⟨g0, g1, g2, g3⟩ := HCC.out _ H6.right.right.right
                      have Hn := fun n => H6.right.drewN n
                      have In := fun n => I6.drewN n
                      go_quiet (fail)
                      go_wp2_with fail
                      go_roundw
                      case rel => exact ⟨k + 1, by omega, by go_num, Hn _, In _⟩
                      case measure => simp [RowKit.intOf]; omega
                    · subst hg
                      have dr0 : decide (x0.tmod 4 = 0) = false := decide_eq_false r0
                      have br0 : (x0.tmod 4 == 0) = false := by simpa using r0
                      have dr1 : decide (x0.tmod 4 = 1) = true := decide_eq_true r1
                      have br1 : (x0.tmod 4 == 1) = true := by simpa using r1
                      have dh5 : decide (x5 = i1) = false := decide_eq_false h5
                      have bh5 : (x5 == i1) = false := by simpa using h5
                      obtain ⟨rfl, rfl, rfl, rfl, rfl⟩ := HQ.out (fun h => h.2.elim (fun h => r0 h.1) (fun h => h5 h.2))
                      have EQ := fun W => neq_ver (⟨q1, q2, q3, q4⟩ : Md.Ver) (⟨q1, q2, q3, q4⟩ : Md.Ver) W
                      simp only [decide_true, Bool.not_true] at EQ
                      go_quiet (fail)
                      go_upto_region 32 with fail
                      have H6 := H5.drewN nq
                      have I6 := I5.drewN nq
                      generalize w5.drewN nq = w6 at *
                      clear f0 f1 f2 f3 g0 g1 g2 g3 y0 y1 y2 y3 y4 y5 y6 Hn In
                      obtain ⟨f0, f1, f2, f3⟩ := nd4 H6
                      obtain ⟨g0, g1, g2, g3⟩ := HCC.out _ H6.right.right.right
                      have Hn := fun n => H6.right.drewN n
                      have In := fun n => I6.drewN n
                      go_quiet (fail)
                      go_wp2_with fail
                      go_roundw
                      case rel => exact ⟨k + 1, by omega, by go_num, Hn _, In _⟩
                      case measure => simp [RowKit.intOf]; omega
                  · subst hg
                    have dr0 : decide (x0.tmod 4 = 0) = false := decide_eq_false r0
                    have br0 : (x0.tmod 4 == 0) = false := by simpa using r0
                    have dr1 : decide (x0.tmod 4 = 1) = false := decide_eq_false r1
                    have br1 : (x0.tmod 4 == 1) = false := by simpa using r1
                    obtain ⟨rfl, rfl, rfl, rfl, rfl⟩ := HQ.out (fun h => h.2.elim (fun h => r0 h.1) (fun h => r1 h.1))
                    have EQ := fun W => neq_ver (⟨q1, q2, q3, q4⟩ : Md.Ver) (⟨q1, q2, q3, q4⟩ : Md.Ver) W
                    simp only [decide_true, Bool.not_true] at EQ
                    go_quiet (fail)
                    go_upto_region 32 with fail
                    have H6 := H5.drewN nq
                    have I6 := I5.drewN nq
                    generalize w5.drewN nq = w6 at *
                    clear f0 f1 f2 f3 g0 g1 g2 g3 y0 y1 y2 y3 y4 y5 y6 Hn In
                    obtain ⟨f0, f1, f2, f3⟩ := nd4 H6
                    obtain ⟨g0, g1, g2, g3⟩ := HCC.out _ H6.right.right.right
                    have Hn := fun n => H6.right.drewN n
                    have In := fun n => I6.drewN n
                    go_quiet (fail)
                    go_wp2_with fail
                    go_roundw
                    case rel => exact ⟨k + 1, by omega, by go_num, Hn _, In _⟩
                    case measure => simp [RowKit.intOf]; omega
              · have dg : decide (g = 0) = false := decide_eq_false hg
                have bg : (g == 0) = false := by simpa using hg
                obtain ⟨rfl, rfl, rfl, rfl, rfl⟩ := HQ.out (fun h => hg h.1)
                have EQ := fun W => neq_ver (⟨q1, q2, q3, q4⟩ : Md.Ver) (⟨q1, q2, q3, q4⟩ : Md.Ver) W
                simp only [decide_true, Bool.not_true] at EQ
                go_quiet (fail)
                go_upto_region 32 with fail
                have H6 := H5.drewN nq
                have I6 := I5.drewN nq
                generalize w5.drewN nq = w6 at *
                clear f0 f1 f2 f3 g0 g1 g2 g3 y0 y1 y2 y3 y4 y5 y6 Hn In
                obtain ⟨f0, f1, f2, f3⟩ := nd4 H6
                obtain ⟨g0, g1, g2, g3⟩ := HCC.out _ H6.right.right.right
                have Hn := fun n => H6.right.drewN n
                have In := fun n => I6.drewN n
                go_quiet (fail)
                go_wp2_with fail
                go_roundw
                case rel => exact ⟨k + 1, by omega, by go_num, Hn _, In _⟩
                case measure => simp [RowKit.intOf]; omega
            · obtain rfl : k = V.length := by omega
              have hge : ¬ (V.length : Int) < (V.length : Int) := by omega
              clear HKV HVV
              go_wp2_with fail
              go_loopw [19] (fun x wr => ∃ (k : Nat), k ≤ B.length ∧ x = .int .i64 (k : Int) ∧ Sat (KtAt a c V' B' (60 + 19 * (2 * l.length + 1)) (2 * l.length + 1) * (RowB (.slice ab B.length cb) B * (RowV (.slice av V.length cv) V * (pts bx (.cells #[.int .i64 x0, .int .i64 x1, .int .i64 x2, .int .i64 x3, .int .i64 x4, .int .i64 x5, .string x6] 45 (0, 0)) * F)))) wr ∧ Io w wr) (fun x _ => B.length - (RowKit.intOf x).toNat)
              case atStart => exact ⟨0, by omega, rfl, Hk, Ik⟩
              case round =>
                obtain ⟨k, hk, rfl, Hj, Ij⟩ := hrel
                clear Hk Ik
                by_cases hlt : k < B.length
                · have hlti : (k : Int) < (B.length : Int) := by omega
                  have hk0 : (0 : Int) ≤ (k : Int) := by omega
                  obtain ⟨b1, o1, nm, bh, rfl, hx, hc⟩ := HBB.out k hlt
                  have HCC := Lib.hid hc
                  obtain ⟨g0, g1⟩ := hc _ Hj.right
                  have hmem : (⟨nm, bh⟩ : Md.Br) ∈ B := hx ▸ List.getElem_mem hlt
                  have ZB : Hid (nm.size ≤ 1000) := Lib.hid (HCAT.out.elim fun es0 k0 => by have := Ca.nameOk_size (k0.okb _ hmem).name; simp only at this; omega)
                  obtain ⟨hd, hhat, hkeep⟩ := HKB.out ⟨nm, bh⟩ hmem
                  simp only at hhat hkeep
                  have HW := Lib.hid hhat
                  have HQ := Lib.hid hkeep
                  clear hc hx hmem hhat hkeep
                  go_upto_region 38 with (go_at_call 27; (with_reducible refine chd_any nm HW ZB HG.out Hj ?_); intro w5 H5 I5)
                  clear g0 g1 Hj
                  have J5 := Ij.trans I5
                  obtain ⟨g0, g1⟩ := HCC.out _ H5.right
                  obtain ⟨y0, y1, y2, y3, y4, y5, y6⟩ := nd7 H5.right.right.right
                  have Hn := fun n => H5.drewN n
                  have In := fun n => J5.drewN n
                  by_cases hg : g = 0
                  · by_cases r3 : x0.tmod 4 = 3
                    · by_cases hs : x6 = nm
                      · subst hg
                        have dr3 : decide (x0.tmod 4 = 3) = true := decide_eq_true r3
                        have br3 : (x0.tmod 4 == 3) = true := by simpa using r3
                        have bs : (x6.toList == nm.toList) = decide (x6 = nm) := nm_beq x6 nm
                        rw [decide_eq_true hs] at bs
                        go_quiet (fail)
                        go_upto_region 39 with fail
                        have H6 := H5.drewN nq
                        have I6 := J5.drewN nq
                        generalize w5.drewN nq = w6 at *
                        clear g0 g1 y0 y1 y2 y3 y4 y5 y6 Hn In
                        obtain ⟨g0, g1⟩ := HCC.out _ H6.right
                        go_wp2_with fail
                        go_roundw
                        case rel => exact ⟨k + 1, by omega, by go_num, H6, I6⟩
                        case measure => simp [RowKit.intOf]; omega
                      · subst hg
                        have dr3 : decide (x0.tmod 4 = 3) = true := decide_eq_true r3
                        have br3 : (x0.tmod 4 == 3) = true := by simpa using r3
                        have bs : (x6.toList == nm.toList) = decide (x6 = nm) := nm_beq x6 nm
                        rw [decide_eq_false hs] at bs
                        obtain rfl := HQ.out (fun h => hs h.2.2)
                        go_quiet (fail)
                        go_upto_region 39 with fail
                        have H6 := H5.drewN nq
                        have I6 := J5.drewN nq
                        generalize w5.drewN nq = w6 at *
                        clear g0 g1 y0 y1 y2 y3 y4 y5 y6 Hn In
                        obtain ⟨g0, g1⟩ := HCC.out _ H6.right
                        go_wp2_with fail
                        go_roundw
                        case rel => exact ⟨k + 1, by omega, by go_num, H6, I6⟩
                        case measure => simp [RowKit.intOf]; omega
                    · subst hg
                      have dr3 : decide (x0.tmod 4 = 3) = false := decide_eq_false r3
                      have br3 : (x0.tmod 4 == 3) = false := by simpa using r3
                      obtain rfl := HQ.out (fun h => r3 h.2.1)
                      go_quiet (fail)
                      go_upto_region 39 with fail
                      have H6 := H5.drewN nq
                      have I6 := J5.drewN nq
                      generalize w5.drewN nq = w6 at *
                      clear g0 g1 y0 y1 y2 y3 y4 y5 y6 Hn In
                      obtain ⟨g0, g1⟩ := HCC.out _ H6.right
                      go_wp2_with fail
                      go_roundw
                      case rel => exact ⟨k + 1, by omega, by go_num, H6, I6⟩
                      case measure => simp [RowKit.intOf]; omega
                  · have dg : decide (g = 0) = false := decide_eq_false hg
                    have bg : (g == 0) = false := by simpa using hg
                    obtain rfl := HQ.out (fun h => hg h.1)
                    go_quiet (fail)
                    go_upto_region 39 with fail
                    have H6 := H5.drewN nq
                    have I6 := J5.drewN nq
                    generalize w5.drewN nq = w6 at *
                    clear g0 g1 y0 y1 y2 y3 y4 y5 y6 Hn In
                    obtain ⟨g0, g1⟩ := HCC.out _ H6.right
                    go_wp2_with fail
                    go_roundw
                    case rel => exact ⟨k + 1, by omega, by go_num, H6, I6⟩
                    case measure => simp [RowKit.intOf]; omega
                · obtain rfl : k = B.length := by omega
                  have hge2 : ¬ (B.length : Int) < (B.length : Int) := by omega
                  clear HKB HBB
                  obtain ⟨d1, hd1⟩ : ∃ d, d = decide (V = V') := ⟨_, rfl⟩
                  obtain ⟨d2, hd2⟩ : ∃ d, d = decide (B = B') := ⟨_, rfl⟩
                  have HD1 := Lib.hid hd1
                  have HD2 := Lib.hid hd2
                  have hgd : g = 0 ∨ (g ≠ 0 ∧ d1 = true ∧ d2 = true) := by
                    by_cases hg : g = 0
                    · exact .inl hg
                    · obtain ⟨e1, e2⟩ := HDN.out.same hg
                      exact .inr ⟨hg, by rw [hd1]; exact decide_eq_true e1.symm, by rw [hd2]; exact decide_eq_true e2.symm⟩
                  clear hd1 hd2
                  have HV1 : Hid (V.length ≤ 1000 ∧ V'.length ≤ 1000 ∧ B.length ≤ 1000 ∧ B'.length ≤ 1000) := Lib.hid (by have := HVB1.out; have := HVB2.out; omega)
                  go_upto_region 43 with (first
                    | (go_at_call 25; (with_reducible refine versions_any HG.out HVB2.out Hj ?_); intro wv w4 H4 I4; have H5 := swap3 H4)
                    | (go_at_call 12; (with_reducible refine branches_any HG.out HVB2.out H5 ?_); intro wb w6 H6 I6)
                    | fail)
                  have J6 := (Ij.trans I4).trans I6
                  clear H4 H5 Hj Ij I4 I6
                  rcases hgd with rfl | ⟨hg, rfl, rfl⟩
                  · cases d1 with
                    | false =>
                      go_wp2_with (first
                        | (go_at_call 29; (with_reducible refine ks_ver HV1.out.1 HV1.out.2.1 HD1 H6 ?_); intro w7 H7 I7)
                        | (go_at_call 28; (with_reducible refine kerr_any H7.right ?_); intro w9 H9 I9)
                        | fail)
                      exact HH.out _ H9.right.right.right.right.right ((J6.trans I7).trans I9)
                    | true =>
                      cases d2 with
                      | false =>
                        go_wp2_with (first
                          | (go_at_call 29; (with_reducible refine ks_ver HV1.out.1 HV1.out.2.1 HD1 H6 ?_); intro w7 H7 I7)
                          | (go_at_call 30; (with_reducible refine ks_br HV1.out.2.2.1 HV1.out.2.2.2 HD2 H7 ?_); intro w8 H8 I8)
                          | (go_at_call 28; (with_reducible refine kerr_any H8.right ?_); intro w9 H9 I9)
                          | fail)
                        exact HH.out _ H9.right.right.right.right.right (((J6.trans I7).trans I8).trans I9)
                      | true =>
                        go_wp2_with (first
                          | (go_at_call 29; (with_reducible refine ks_ver HV1.out.1 HV1.out.2.1 HD1 H6 ?_); intro w7 H7 I7)
                          | (go_at_call 30; (with_reducible refine ks_br HV1.out.2.2.1 HV1.out.2.2.2 HD2 H7 ?_); intro w8 H8 I8)
                          | (go_at_call 28; (with_reducible refine kerr_any H8.right ?_); intro w9 H9 I9)
                          | fail)
                        exact HH.out _ H9.right.right.right.right.right (((J6.trans I7).trans I8).trans I9)
                  · have dg : decide (g = 0) = false := decide_eq_false hg
                    have bg : (g == 0) = false := by simpa using hg
                    go_wp2_with (first
                      | (go_at_call 29; (with_reducible refine ks_ver HV1.out.1 HV1.out.2.1 HD1 H6 ?_); intro w7 H7 I7)
                      | (go_at_call 30; (with_reducible refine ks_br HV1.out.2.2.1 HV1.out.2.2.2 HD2 H7 ?_); intro w8 H8 I8)
                      | (go_at_call 28; (with_reducible refine kerr_any H8.right ?_); intro w9 H9 I9)
                      | fail)
                    exact HH.out _ H9.right.right.right.right.right (((J6.trans I7).trans I8).trans I9)
end
end Go.Proofs.YtojiffhknddleaaGreatDoor
