/-
  CatalogDoes, by its walk. It proves no statement by itself.
-/
import Derived.Test.YtojiffhknddleaaGreatDoorU48
import Derived.Test.YtojiffhknddleaaGreatDoorU50
namespace Go.Proofs.YtojiffhknddleaaGreatDoor
open Go.RowKit Go.Lib
set_option linter.unusedSimpArgs false
set_option linter.unusedVariables false
set_option linter.unusedSectionVars false
namespace Ca
theorem Pt.one {V V1 V2 : List Md.Ver} {v : Md.Ver} {e1 e2 : Int} (h1 : Pt V v e1 V1) (h2 : Pt V v e2 V2) : e1 = e2 ∧ V1 = V2 := by
  rcases h1 with ⟨a, rfl, rfl⟩ | ⟨a, rfl, rfl⟩ <;> rcases h2 with ⟨b, rfl, rfl⟩ | ⟨b, rfl, rfl⟩
  · exact ⟨rfl, rfl⟩
  · exact absurd a b
  · exact absurd b a
  · exact ⟨rfl, rfl⟩
theorem Pt.ex (V : List Md.Ver) (v : Md.Ver) : ∃ e V', Pt V v e V' := by
  by_cases h : OkV v
  · exact ⟨0, _, .inl ⟨h, rfl, rfl⟩⟩
  · exact ⟨1, V, .inr ⟨h, rfl, rfl⟩⟩
theorem drp_len {V V' : List Md.Ver} {B : List Md.Br} {id e : Int} (h : Md.drp V B id = (e, V')) : V'.length ≤ V.length := by
  unfold Md.drp at h
  split at h
  · cases h; exact Nat.le_refl _
  · split at h
    · cases h; exact Nat.le_refl _
    · cases h; exact List.length_filter_le _ _
theorem mv_len {V : List Md.Ver} {B B' : List Md.Br} {n : Ky.Nm} {id e : Int} (h : mv V B n id = (e, B')) : B'.length ≤ B.length := by
  unfold mv at h
  split at h
  · cases h; exact Nat.le_refl _
  · split at h
    · cases h; exact Nat.le_refl _
    · cases h; unfold bset; rw [List.length_set]; exact Nat.le_refl _
end Ca
section
variable {a : Nat} {c : Cq} {F : Asn} {w : World} {R : Ending → World → Prop} {V : List Md.Ver} {B : List Md.Br} {q g l : Nat} {vv vb : Value}
theorem kd_put {k : Nat} (x1 x2 x3 x4 : Int) {e : Int} {V' : List Md.Ver} (hp : Hid (Ca.Pt V ⟨x1, x2, x3, x4⟩ e V')) (hc : Hid (c.k.n = 1500)) (hk : Hid (k ≤ 201)) (H : Sat (KtAt a c V B (60 + 19 * k) k * F) w)
    (hR : ∀ w', Sat (KtAt a c V' B (60 + 19 * (k + 1)) (k + 1) * F) w' → Io w w' → R (.returned (.int .i64 e)) w') :
    Calls Tryz.prog 10 #[.pointer (some ⟨a, 0, none⟩), .agg #[.int .i64 x1, .int .i64 x2, .int .i64 x3, .int .i64 x4]] w R :=
  kk_put x1 x2 x3 x4 hc hk.out H fun e2 V2 w' h2 H' I => by
    obtain ⟨rfl, rfl⟩ := h2.out.one hp.out
    exact hR w' H' I
theorem kd_make {k : Nat} (n : Ky.Nm) (id : Int) {e : Int} {B' : List Md.Br} (hm : Hid (Md.mk V B n id = (e, B'))) (hc : Hid (c.k.n = 1500)) (hk : Hid (k ≤ 201)) (ZN : Hid (n.size ≤ 1000)) (hl : Hid (V.length + B.length ≤ 1000)) (H : Sat (KtAt a c V B (60 + 19 * k) k * F) w)
    (hR : ∀ w', Sat (KtAt a c V B' (60 + 19 * (k + 1)) (k + 1) * F) w' → Io w w' → R (.returned (.int .i64 e)) w') :
    Calls Tryz.prog 11 #[.pointer (some ⟨a, 0, none⟩), .string n, .int .i64 id] w R :=
  kk_make n id hc hk.out ZN hl H fun e2 B2 w' h2 H' I => by
    have := h2.out.symm.trans hm.out
    cases this
    exact hR w' H' I
theorem kd_move {k : Nat} (n : Ky.Nm) (id : Int) {e : Int} {B' : List Md.Br} (hm : Hid (Ca.mv V B n id = (e, B'))) (hc : Hid (c.k.n = 1500)) (hk : Hid (k ≤ 201)) (ZN : Hid (n.size ≤ 1000)) (hl : Hid (V.length + B.length ≤ 1000)) (H : Sat (KtAt a c V B (60 + 19 * k) k * F) w)
    (hR : ∀ w', Sat (KtAt a c V B' (60 + 19 * (k + 1)) (k + 1) * F) w' → Io w w' → R (.returned (.int .i64 e)) w') :
    Calls Tryz.prog 19 #[.pointer (some ⟨a, 0, none⟩), .string n, .int .i64 id] w R :=
  kk_move n id hc hk.out ZN hl H fun e2 B2 w' h2 H' I => by
    have := h2.out.symm.trans hm.out
    cases this
    exact hR w' H' I
theorem kd_drop {k : Nat} (id : Int) {e : Int} {V' : List Md.Ver} (hm : Hid (Md.drp V B id = (e, V'))) (hc : Hid (c.k.n = 1500)) (hk : Hid (k ≤ 201)) (hl : Hid (V.length + B.length ≤ 1000)) (H : Sat (KtAt a c V B (60 + 19 * k) k * F) w)
    (hR : ∀ w', Sat (KtAt a c V' B (60 + 19 * (k + 1)) (k + 1) * F) w' → Io w w' → R (.returned (.int .i64 e)) w') :
    Calls Tryz.prog 16 #[.pointer (some ⟨a, 0, none⟩), .int .i64 id] w R :=
  kk_drop id hc hk.out hl H fun e2 B2 w' h2 H' I => by
    have := h2.out.symm.trans hm.out
    cases this
    exact hR w' H' I
theorem rd_put (x1 x2 x3 x4 : Int) {e : Int} {V' : List Md.Ver} (hp : Hid (Ca.Pt V ⟨x1, x2, x3, x4⟩ e V')) (hl : Hid (V.length + B.length ≤ 1000)) (H : Sat (LAt l vv vb V B * F) w)
    (h : ∀ vv' w', Sat (LAt l vv' vb V' B * F) w' → Io w w' → R (.returned (.int .i64 e)) w') :
    Calls Tryz.prog 15 #[lptr l, .agg #[.int .i64 x1, .int .i64 x2, .int .i64 x3, .int .i64 x4]] w R :=
  rput_all x1 x2 x3 x4 (by have := hl.out; omega) (Lib.hid hp.out) H h
theorem rd_make (n : Ky.Nm) (id : Int) {e : Int} {B' : List Md.Br} (hm : Hid (Md.mk V B n id = (e, B'))) (ZN : Hid (n.size ≤ 1000)) (hl : Hid (V.length + B.length ≤ 1000)) (H : Sat (LAt l vv vb V B * F) w)
    (h : ∀ vb' w', Sat (LAt l vv vb' V B' * F) w' → Io w w' → R (.returned (.int .i64 e)) w') :
    Calls Tryz.prog 18 #[lptr l, .string n, .int .i64 id] w R :=
  rmake_any n id (by have := ZN.out; omega) (by have := hl.out; omega) (by have := hl.out; omega) hm H h
theorem rd_move (n : Ky.Nm) (id : Int) {e : Int} {B' : List Md.Br} (hm : Hid (Ca.mv V B n id = (e, B'))) (hl : Hid (V.length + B.length ≤ 1000)) (H : Sat (LAt l vv vb V B * F) w)
    (h : ∀ vb' w', Sat (LAt l vv vb' V B' * F) w' → Io w w' → R (.returned (.int .i64 e)) w') :
    Calls Tryz.prog 20 #[lptr l, .string n, .int .i64 id] w R :=
  rmove_all n id (by have := hl.out; omega) (by have := hl.out; omega) hm H h
theorem rd_drop (id : Int) {e : Int} {V' : List Md.Ver} (hm : Hid (Md.drp V B id = (e, V'))) (hl : Hid (V.length + B.length ≤ 1000)) (H : Sat (LAt l vv vb V B * F) w)
    (h : ∀ vv' w', Sat (LAt l vv' vb V' B * F) w' → Io w w' → R (.returned (.int .i64 e)) w') :
    Calls Tryz.prog 17 #[lptr l, .int .i64 id] w R :=
  rdrop_any id (by have := hl.out; omega) (by have := hl.out; omega) hm H h
theorem does_box {X Y Z : Asn} (H : Sat (X * (Y * (Z * F))) w) : Sat (Y * (Z * (X * F))) w := H.of_eq (by ac_rfl)
theorem does_nd7 {b : Nat} {t : TypeId} {X Y : Asn} {v0 v1 v2 v3 v4 v5 v6 : Value} (H : Sat (X * (Y * (pts b (.cells #[v0, v1, v2, v3, v4, v5, v6] t (0, 0)) * F))) w) :
    w.cell? ⟨b, 0, none⟩ = some v0 ∧ w.cell? ⟨b, 1, none⟩ = some v1 ∧ w.cell? ⟨b, 2, none⟩ = some v2 ∧ w.cell? ⟨b, 3, none⟩ = some v3 ∧ w.cell? ⟨b, 4, none⟩ = some v4 ∧ w.cell? ⟨b, 5, none⟩ = some v5 ∧ w.cell? ⟨b, 6, none⟩ = some v6 := by
  have H := H.right.right
  exact ⟨Sat.read H.left.at 0, Sat.read H.left.at 1, Sat.read H.left.at 2, Sat.read H.left.at 3, Sat.read H.left.at 4, Sat.read H.left.at 5, Sat.read H.left.at 6⟩
theorem does_out {X Y P : Asn} (H : Sat (X * (Y * (P * F))) w) : Sat (X * (Y * F)) w := (H.of_eq (show _ = P * (X * (Y * F)) from by ac_rfl)).right
theorem does_new (H : Sat (KtAt a c [] [] 60 0 * F) w) : Sat (KtAt a c [] [] (60 + 19 * 0) 0 * (LAt w.heap.size (.slice none 0 0) (.slice none 0 0) [] [] * F)) (w.alloc (.cells #[.slice none 0 0, .slice none 0 0] 43)) := by
  have H1 := H.new (.cells #[.slice none 0 0, .slice none 0 0] 43)
  have H2 : Sat (RowV (.slice none 0 0) [] * (RowB (.slice none 0 0) [] * (pts w.heap.size (.cells #[.slice none 0 0, .slice none 0 0] 43 (0, 0)) * (KtAt a c [] [] 60 0 * F)))) (w.alloc (.cells #[.slice none 0 0, .slice none 0 0] 43)) := rowOf_nil (rowOf_nil H1)
  exact H2.of_eq (by unfold LAt RowV RowB; ac_rfl)
end
section
variable {F : Asn} {w : World} {R : Ending → World → Prop}
set_option maxRecDepth 100000 in
set_option maxHeartbeats 16000000 in
theorem catalogDoes_walk {l : List Act19} {v : Value} (hv : Reads encA19 F v l) (hz : ∀ x ∈ l, x.s.size ≤ 9223372036854775807) (H : Sat F w) (h : ∀ w', Sat F w' → Io w w' → R (.returned (.bool true)) w') :
    Calls Tryz.prog 4 #[v] w R := by
  have HH := Lib.hid h
  have HVR := Lib.hid hv
  have HZ := Lib.hid hz
  obtain ⟨a0, c0, rfl, hm'⟩ := reads_len9 hv
  have HV := Lib.hid (fun k hk => readsA19_get hv k hk)
  clear h hv hz
  go_enter Tryz.func4, Tryz.ntmps4
  go_upto_region 5 with (first
    | (go_at_call 8; (with_reducible refine works19_any H ?_); intro w1 H1 I1)
    | (go_at_call 14; (refine over19_any HVR.out HZ.out H1 ?_); intro d w2 hd H2 I2; have HD := Lib.hid hd; clear hd)
    | fail)
  have J2 := I1.trans I2
  cases d with
  | true =>
    have FIN := Lib.hid (HH.out _ H2 J2)
    go_wp2_with fail
    exact FIN.out
  | false =>
    obtain ⟨hl100, hs60⟩ := HD.out rfl
    have HL : Hid (l.length ≤ 100) := Lib.hid hl100
    have HS := Lib.hid hs60
    clear hl100 hs60 HD
    go_upto_region 8 with (first
      | (go_at_call 9; (refine lcat_any (n := 1500) (by decide) H2 ?_); intro a c w3 hn H3 I3; have HC := Lib.hid hn; clear hn)
      | fail)
    have K3 := does_new H3
    have J3 := (J2.trans I3).alloc (.cells #[.slice none 0 0, .slice none 0 0] 43)
    go_upto_region 9 with fail
    generalize w3.alloc (.cells #[.slice none 0 0, .slice none 0 0] 43) = w4 at *
    generalize w3.heap.size = bl at *
    clear H H1 H2 H3 I1 I2 I3 J2
    go_wp2_with fail
    go_loopw [8] (fun x wr => ∃ (k : Nat) (V : List Md.Ver) (B : List Md.Br) (vv vb : Value), k ≤ l.length ∧ x = .int .i64 (k : Int) ∧ Hid (V.length ≤ k ∧ B.length ≤ k) ∧ Sat (KtAt a c V B (60 + 19 * k) k * (LAt bl vv vb V B * F)) wr ∧ Io w wr) (fun x _ => l.length - (RowKit.intOf x).toNat)
    case atStart => exact ⟨0, [], [], _, _, by omega, rfl, Lib.hid (by simp), K3, J3⟩
    case round =>
      obtain ⟨k, V, B, vv, vb, hk, rfl, hVB, Hk, Ik⟩ := hrel
      clear K3 J3
      by_cases hlt : k < l.length
      · have hlti : (k : Int) < (l.length : Int) := by omega
        have hk0 : (0 : Int) ≤ (k : Int) := by omega
        obtain ⟨b1, o1, x0, x1, x2, x3, x4, x5, x6, rfl, hx, hc⟩ := HV.out k hlt
        obtain ⟨g0, g1, g2, g3, g4, g5, g6⟩ := hc _ Hk.right.right
        have HZ6 : Hid (x6.size ≤ 1000) := Lib.hid (by have := HS.out l[k] (List.getElem_mem hlt); rw [hx] at this; simp only at this; omega)
        have HK1 : Hid (k ≤ 201) := Lib.hid (by have := HL.out; omega)
        have HG : Hid (k + 1 ≤ 240) := Lib.hid (by have := HL.out; omega)
        have HVB1 : Hid (V.length + B.length ≤ 1000) := Lib.hid (by have := hVB.out; have := HL.out; omega)
        clear hc hx
        have H2 := does_box (Hk.new (.cells #[.int .i64 x0, .int .i64 x1, .int .i64 x2, .int .i64 x3, .int .i64 x4, .int .i64 x5, .string x6] 45))
        have I2 := Ik.alloc (.cells #[.int .i64 x0, .int .i64 x1, .int .i64 x2, .int .i64 x3, .int .i64 x4, .int .i64 x5, .string x6] 45)
        go_upto_region 13 with fail
        generalize wr.alloc (.cells #[.int .i64 x0, .int .i64 x1, .int .i64 x2, .int .i64 x3, .int .i64 x4, .int .i64 x5, .string x6] 45) = w5 at *
        generalize wr.heap.size = bz at *
        clear g0 g1 g2 g3 g4 g5 g6 Hk Ik
        obtain ⟨y0, y1, y2, y3, y4, y5, y6⟩ := does_nd7 H2
        have Kd := H2.drew
        have Jd := I2.drew
        by_cases r0 : x0.tmod 6 = 0
        · obtain ⟨e, V', hp⟩ := Ca.Pt.ex V ⟨x1, x2, x3, x4⟩
          have HLN : Hid (V'.length ≤ k + 1 ∧ B.length ≤ k + 1) := Lib.hid (by have := hp.len; have := hVB.out; omega)
          have HP := Lib.hid hp
          have HVB2 : Hid (V'.length + B.length ≤ 1000) := Lib.hid (by have := HLN.out; have := HL.out; omega)
          have hee : (e != e) = false := by simp
          clear hp
          go_upto_region 15 with fail
          clear y0 y1 y2 y3 y4 y5 y6
          have S0 := does_nd7 Kd
          go_region_held3 (fun W => W.cell? ⟨bz, 0, none⟩ = some (.int .i64 x0) ∧ W.cell? ⟨bz, 1, none⟩ = some (.int .i64 x1) ∧ W.cell? ⟨bz, 2, none⟩ = some (.int .i64 x2) ∧ W.cell? ⟨bz, 3, none⟩ = some (.int .i64 x3) ∧ W.cell? ⟨bz, 4, none⟩ = some (.int .i64 x4) ∧ W.cell? ⟨bz, 5, none⟩ = some (.int .i64 x5) ∧ W.cell? ⟨bz, 6, none⟩ = some (.string x6)) (with_reducible (first | exact S0 | exact S1 | exact S2)) (first
            | (go_at_call 10; (with_reducible refine kd_put x1 x2 x3 x4 HP HC HK1 Kd ?_); intro w6 H6 I6; have S1 := does_nd7 H6)
            | (go_at_call 15; (with_reducible refine rd_put x1 x2 x3 x4 HP HVB1 (swap3 H6) ?_); intro v7 w7 H7 I7; have K9 := swap3 H7; have J9 := (Jd.trans I6).trans I7; have S2 := does_nd7 K9)
            | (go_at_call 15; (with_reducible refine rd_put x1 x2 x3 x4 HP HVB1 (swap3 Kd) ?_); intro v7 w7 H7 I7; have H6b := swap3 H7; have S1 := does_nd7 H6b)
            | (go_at_call 10; (with_reducible refine kd_put x1 x2 x3 x4 HP HC HK1 H6b ?_); intro w8 H8 I8; have K9 := H8; have J9 := (Jd.trans I7).trans I8; have S2 := does_nd7 K9))
          all_goals
            obtain ⟨y0, y1, y2, y3, y4, y5, y6⟩ := does_nd7 K9
            go_wp2_with (first
              | (go_at_call 21; (with_reducible refine asked19_any x5 x6 HZ6 HG HVB2 K9 ?_); intro w9 H9 I9)
              | fail)
            go_roundw
            case rel => exact ⟨k + 1, _, _, _, _, by omega, by go_num, HLN, does_out H9, J9.trans I9⟩
            case measure => simp [RowKit.intOf]; omega
        · by_cases r1 : x0.tmod 6 = 1
          · obtain ⟨e, V', hp⟩ : ∃ e V', Md.drp V B x5 = (e, V') := ⟨_, _, rfl⟩
            have HLN : Hid (V'.length ≤ k + 1 ∧ B.length ≤ k + 1) := Lib.hid (by have := Ca.drp_len hp; have := hVB.out; omega)
            have HP := Lib.hid hp
            have HVB2 : Hid (V'.length + B.length ≤ 1000) := Lib.hid (by have := HLN.out; have := HL.out; omega)
            have hee : (e != e) = false := by simp
            clear hp
            go_upto_region 18 with fail
            clear y0 y1 y2 y3 y4 y5 y6
            have S0 := does_nd7 Kd
            go_region_held3 (fun W => W.cell? ⟨bz, 0, none⟩ = some (.int .i64 x0) ∧ W.cell? ⟨bz, 1, none⟩ = some (.int .i64 x1) ∧ W.cell? ⟨bz, 2, none⟩ = some (.int .i64 x2) ∧ W.cell? ⟨bz, 3, none⟩ = some (.int .i64 x3) ∧ W.cell? ⟨bz, 4, none⟩ = some (.int .i64 x4) ∧ W.cell? ⟨bz, 5, none⟩ = some (.int .i64 x5) ∧ W.cell? ⟨bz, 6, none⟩ = some (.string x6)) (with_reducible (first | exact S0 | exact S1 | exact S2)) (first
              | (go_at_call 16; (with_reducible refine kd_drop x5 HP HC HK1 HVB1 Kd ?_); intro w6 H6 I6; have S1 := does_nd7 H6)
              | (go_at_call 17; (with_reducible refine rd_drop x5 HP HVB1 (swap3 H6) ?_); intro v7 w7 H7 I7; have K9 := swap3 H7; have J9 := (Jd.trans I6).trans I7; have S2 := does_nd7 K9)
              | (go_at_call 17; (with_reducible refine rd_drop x5 HP HVB1 (swap3 Kd) ?_); intro v7 w7 H7 I7; have H6b := swap3 H7; have S1 := does_nd7 H6b)
              | (go_at_call 16; (with_reducible refine kd_drop x5 HP HC HK1 HVB1 H6b ?_); intro w8 H8 I8; have K9 := H8; have J9 := (Jd.trans I7).trans I8; have S2 := does_nd7 K9))
            all_goals
              obtain ⟨y0, y1, y2, y3, y4, y5, y6⟩ := does_nd7 K9
              go_wp2_with (first
                | (go_at_call 21; (with_reducible refine asked19_any x5 x6 HZ6 HG HVB2 K9 ?_); intro w9 H9 I9)
                | fail)
              go_roundw
              case rel => exact ⟨k + 1, _, _, _, _, by omega, by go_num, HLN, does_out H9, J9.trans I9⟩
              case measure => simp [RowKit.intOf]; omega
          · by_cases r2 : x0.tmod 6 = 2
            · obtain ⟨e, B', hp⟩ : ∃ e B', Md.mk V B x6 x5 = (e, B') := ⟨_, _, rfl⟩
              have HLN : Hid (V.length ≤ k + 1 ∧ B'.length ≤ k + 1) := Lib.hid (by have := Ca.mk_len hp; have := hVB.out; omega)
              have HP := Lib.hid hp
              have HVB2 : Hid (V.length + B'.length ≤ 1000) := Lib.hid (by have := HLN.out; have := HL.out; omega)
              have hee : (e != e) = false := by simp
              clear hp
              go_upto_region 21 with fail
              clear y0 y1 y2 y3 y4 y5 y6
              have S0 := does_nd7 Kd
              go_region_held3 (fun W => W.cell? ⟨bz, 0, none⟩ = some (.int .i64 x0) ∧ W.cell? ⟨bz, 1, none⟩ = some (.int .i64 x1) ∧ W.cell? ⟨bz, 2, none⟩ = some (.int .i64 x2) ∧ W.cell? ⟨bz, 3, none⟩ = some (.int .i64 x3) ∧ W.cell? ⟨bz, 4, none⟩ = some (.int .i64 x4) ∧ W.cell? ⟨bz, 5, none⟩ = some (.int .i64 x5) ∧ W.cell? ⟨bz, 6, none⟩ = some (.string x6)) (with_reducible (first | exact S0 | exact S1 | exact S2)) (first
                | (go_at_call 11; (with_reducible refine kd_make x6 x5 HP HC HK1 HZ6 HVB1 Kd ?_); intro w6 H6 I6; have S1 := does_nd7 H6)
                | (go_at_call 18; (with_reducible refine rd_make x6 x5 HP HZ6 HVB1 (swap3 H6) ?_); intro v7 w7 H7 I7; have K9 := swap3 H7; have J9 := (Jd.trans I6).trans I7; have S2 := does_nd7 K9)
                | (go_at_call 18; (with_reducible refine rd_make x6 x5 HP HZ6 HVB1 (swap3 Kd) ?_); intro v7 w7 H7 I7; have H6b := swap3 H7; have S1 := does_nd7 H6b)
                | (go_at_call 11; (with_reducible refine kd_make x6 x5 HP HC HK1 HZ6 HVB1 H6b ?_); intro w8 H8 I8; have K9 := H8; have J9 := (Jd.trans I7).trans I8; have S2 := does_nd7 K9))
              all_goals
                obtain ⟨y0, y1, y2, y3, y4, y5, y6⟩ := does_nd7 K9
                go_wp2_with (first
                  | (go_at_call 21; (with_reducible refine asked19_any x5 x6 HZ6 HG HVB2 K9 ?_); intro w9 H9 I9)
                  | fail)
                go_roundw
                case rel => exact ⟨k + 1, _, _, _, _, by omega, by go_num, HLN, does_out H9, J9.trans I9⟩
                case measure => simp [RowKit.intOf]; omega
            · by_cases r3 : x0.tmod 6 = 3
              · obtain ⟨e, B', hp⟩ : ∃ e B', Ca.mv V B x6 x5 = (e, B') := ⟨_, _, rfl⟩
                have HLN : Hid (V.length ≤ k + 1 ∧ B'.length ≤ k + 1) := Lib.hid (by have := Ca.mv_len hp; have := hVB.out; omega)
                have HP := Lib.hid hp
                have HVB2 : Hid (V.length + B'.length ≤ 1000) := Lib.hid (by have := HLN.out; have := HL.out; omega)
                have hee : (e != e) = false := by simp
                clear hp
                go_upto_region 24 with fail
                clear y0 y1 y2 y3 y4 y5 y6
                have S0 := does_nd7 Kd
                go_region_held3 (fun W => W.cell? ⟨bz, 0, none⟩ = some (.int .i64 x0) ∧ W.cell? ⟨bz, 1, none⟩ = some (.int .i64 x1) ∧ W.cell? ⟨bz, 2, none⟩ = some (.int .i64 x2) ∧ W.cell? ⟨bz, 3, none⟩ = some (.int .i64 x3) ∧ W.cell? ⟨bz, 4, none⟩ = some (.int .i64 x4) ∧ W.cell? ⟨bz, 5, none⟩ = some (.int .i64 x5) ∧ W.cell? ⟨bz, 6, none⟩ = some (.string x6)) (with_reducible (first | exact S0 | exact S1 | exact S2)) (first
                  | (go_at_call 19; (with_reducible refine kd_move x6 x5 HP HC HK1 HZ6 HVB1 Kd ?_); intro w6 H6 I6; have S1 := does_nd7 H6)
                  | (go_at_call 20; (with_reducible refine rd_move x6 x5 HP HVB1 (swap3 H6) ?_); intro v7 w7 H7 I7; have K9 := swap3 H7; have J9 := (Jd.trans I6).trans I7; have S2 := does_nd7 K9)
                  | (go_at_call 20; (with_reducible refine rd_move x6 x5 HP HVB1 (swap3 Kd) ?_); intro v7 w7 H7 I7; have H6b := swap3 H7; have S1 := does_nd7 H6b)
                  | (go_at_call 19; (with_reducible refine kd_move x6 x5 HP HC HK1 HZ6 HVB1 H6b ?_); intro w8 H8 I8; have K9 := H8; have J9 := (Jd.trans I7).trans I8; have S2 := does_nd7 K9))
                all_goals
                  obtain ⟨y0, y1, y2, y3, y4, y5, y6⟩ := does_nd7 K9
                  go_wp2_with (first
                    | (go_at_call 21; (with_reducible refine asked19_any x5 x6 HZ6 HG HVB2 K9 ?_); intro w9 H9 I9)
                    | fail)
                  go_roundw
                  case rel => exact ⟨k + 1, _, _, _, _, by omega, by go_num, HLN, does_out H9, J9.trans I9⟩
                  case measure => simp [RowKit.intOf]; omega
              · go_wp2_with (first
                  | (go_at_call 21; (with_reducible refine asked19_any x5 x6 HZ6 (Lib.hid (by have := HG.out; omega)) HVB1 H2 ?_); intro w9 H9 I9)
                  | fail)
                go_roundw
                case rel => exact ⟨k + 1, V, B, _, _, by omega, by go_num, Lib.hid (by have := hVB.out; omega), KtAt.mono (by omega) (by omega) (does_out H9), I2.trans I9⟩
                case measure => simp [RowKit.intOf]; omega
      · obtain rfl : k = l.length := by omega
        have hge : ¬ (l.length : Int) < (l.length : Int) := by omega
        have FIN := Lib.hid (HH.out _ Hk.right.right Ik)
        clear HV HS HZ HVR
        go_wp2_with fail
        exact FIN.out
end
end Go.Proofs.YtojiffhknddleaaGreatDoor
