/-
  AdjDoes, by its walk. It proves no statement by itself.
-/
import Derived.Test.YthbbdicdcmjpiaaGreatDoorJBg
import Derived.Test.YthbbdicdcmjpiaaGreatDoorJBd
namespace Go.Proofs.YthbbdicdcmjpiaaGreatDoor
open Go.RowKit Go.Lib
set_option linter.unusedSimpArgs false
set_option linter.unusedVariables false
set_option linter.unusedSectionVars false
theorem setT_len {T : List Pr} {p : Pr} {t : Bool} {k : Nat} (h : T.length ≤ k) : (Aj.setT T p t).length ≤ k + 1 := by
  have h1 := Eg.without_len T p
  have h2 := Md.put_len1 (Eg.without T p) p
  unfold Aj.setT
  split <;> omega
section
variable {a s : Nat} {c : Cq} {F : Asn} {w : World} {R : Ending → World → Prop} {A T : List Pr} {q g : Nat}
theorem rs_first (H : Sat (pts s (.cells #[.slice none 0 0, .slice none 0 0] 31 (0, 0)) * F) w) : Sat (RsAt s [] [] * F) w :=
  sat_rs.2 ⟨_, _, (row_nilP (row_nilP H)).of_eq (by unfold RowP; ac_rfl)⟩
/-- Has of the document's set: the parts. -/
theorem does_open {bx : Nat} {x y : Value} {X Y : Asn} {t1 : TypeId} (H : Sat (X * (RsAt s A T * (Y * (pts bx (.cells #[x, y] t1 (0, 0)) * F)))) w) : ∃ va vt, Sat (RowP va A * (pts s (.cells #[va, vt] 31 (0, 0)) * (pts bx (.cells #[x, y] t1 (0, 0)) * (RowP vt T * (X * (Y * F)))))) w := by
  obtain ⟨va, vt, h⟩ := sat_rs.1 (H.of_eq (show _ = RsAt s A T * (X * (Y * (pts bx (.cells #[x, y] t1 (0, 0)) * F))) from by ac_rfl))
  exact ⟨va, vt, h.of_eq (by unfold RowP; ac_rfl)⟩
theorem does_close {bx : Nat} {x y va vt : Value} {X Y : Asn} {t1 : TypeId} (H : Sat (RowP va A * (pts s (.cells #[va, vt] 31 (0, 0)) * (pts bx (.cells #[x, y] t1 (0, 0)) * (RowP vt T * (X * (Y * F)))))) w) : Sat (X * (RsAt s A T * (Y * (pts bx (.cells #[x, y] t1 (0, 0)) * F)))) w :=
  (sat_rs.2 ⟨va, vt, H.of_eq (by unfold RowP; ac_rfl)⟩ : Sat (RsAt s A T * (X * (Y * (pts bx (.cells #[x, y] t1 (0, 0)) * F)))) w).of_eq (by ac_rfl)
theorem does_drop {X Y : Asn} (H : Sat (AjM a c A T [] q g * (RsAt s A T * (X * (Y * F)))) w) : Sat (AjM a c A T [] q g * (RsAt s A T * F)) w :=
  (H.of_eq (show _ = (X * Y) * (AjM a c A T [] q g * (RsAt s A T * F)) from by ac_rfl)).right
theorem does_new {X : Asn} (H : Sat (X * (AjM a c A T [] q g * (RsAt s A T * F))) w) : Sat (AjM a c A T [] q g * (RsAt s A T * (X * F))) w := H.of_eq (by ac_rfl)
theorem does_new2 {X Y : Asn} (H : Sat (Y * (AjM a c A T [] q g * (RsAt s A T * (X * F)))) w) : Sat (AjM a c A T [] q g * (RsAt s A T * (X * (Y * F)))) w := H.of_eq (by ac_rfl)
theorem does_end {ve : Value} {X : Asn} (H : Sat (RowP ve A * (X * (RsAt s A T * F))) w) : ∃ va vt, Sat (RowP ve A * (RowP va A * (pts s (.cells #[va, vt] 31 (0, 0)) * (RowP vt T * (X * F))))) w := by
  obtain ⟨va, vt, h⟩ := sat_rs.1 (H.of_eq (show _ = RsAt s A T * (RowP ve A * (X * F)) from by unfold RowP; ac_rfl))
  exact ⟨va, vt, h.of_eq (by unfold RowP; ac_rfl)⟩
theorem does_same {ve va : Value} {X : Asn} (hA : A.length ≤ 1000) (H : Sat (RowP ve A * (RowP va A * X)) w) (h : ∀ w', Sat (RowP ve A * (RowP va A * X)) w' → Io w w' → R (.returned (.bool true)) w') :
    Calls Tryz.prog 18 #[ve, va] w R := rsame_any (readsP_row H (by omega)) (ask_tree hA H) (Lib.hid (by simp)) H h
theorem does_set {x2 x3 p1 p2 : Int} (t : Bool) (hk : c.k.n ≤ 3000) (hg : g ≤ 238) (hq : 60 ≤ q) (hroom : Hid (30 + (Tb.most (q + 12) (g + 1) : Int) < c.k.room)) (he : Hid (0 = Md.wrong x2 x3)) (hp : Hid (Md.pair x2 x3 = (p1, p2))) (H : Sat (AjM a c A T [] q g * F) w)
    (hR : ∀ w', Sat (AjM a c (Eg.put A (p1, p2)) (Aj.setT T (p1, p2) t) [] (q + 24) (g + 2) * F) w' → Io w w' → R (.returned (.int .i64 0)) w') :
    Calls Tryz.prog 11 #[.pointer (some ⟨a, 0, none⟩), .int .i64 x2, .int .i64 x3, .bool t] w R := by
  refine ajm_set x2 x3 t hk hg hq hroom he H fun w' H' I => hR w' ?_ I
  rw [if_pos rfl, if_pos rfl, hp.out] at H'
  exact H'
theorem does_clear {x2 x3 p1 p2 : Int} (hk : c.k.n ≤ 3000) (hg : g ≤ 240) (hq : 60 ≤ q) (hroom : Hid (30 + (Tb.most q g : Int) < c.k.room)) (he : Hid (0 = Md.wrong x2 x3)) (hp : Hid (Md.pair x2 x3 = (p1, p2))) (hi : Hid ((p1, p2) ∈ A)) (H : Sat (AjM a c A T [] q g * F) w)
    (hR : ∀ w', Sat (AjM a c (Eg.without A (p1, p2)) (Eg.without T (p1, p2)) [] q g * F) w' → Io w w' → R (.returned (.int .i64 0)) w') :
    Calls Tryz.prog 14 #[.pointer (some ⟨a, 0, none⟩), .int .i64 x2, .int .i64 x3] w R := by
  refine ajm_clear x2 x3 hk hg hq hroom (e := 0) (Lib.hid (by rw [if_pos he.out.symm, hp.out, if_pos hi.out])) H fun w' H' I => hR w' ?_ I
  rw [if_pos rfl, if_pos rfl, hp.out] at H'
  exact H'
theorem does_clear1 {x2 x3 p1 p2 : Int} (hk : c.k.n ≤ 3000) (hg : g ≤ 240) (hq : 60 ≤ q) (hroom : Hid (30 + (Tb.most q g : Int) < c.k.room)) (he : Hid (0 = Md.wrong x2 x3)) (hp : Hid (Md.pair x2 x3 = (p1, p2))) (hi : Hid (¬ (p1, p2) ∈ A)) (H : Sat (AjM a c A T [] q g * F) w)
    (hR : ∀ w', Sat (AjM a c A T [] q g * F) w' → Io w w' → R (.returned (.int .i64 181)) w') :
    Calls Tryz.prog 14 #[.pointer (some ⟨a, 0, none⟩), .int .i64 x2, .int .i64 x3] w R := by
  refine ajm_clear x2 x3 hk hg hq hroom (e := 181) (Lib.hid (by rw [if_pos he.out.symm, hp.out, if_neg hi.out])) H fun w' H' I => hR w' ?_ I
  rw [if_neg (by omega), if_neg (by omega)] at H'
  exact H'
theorem does_rput {p1 p2 : Int} (t : Bool) (hA : A.length ≤ 1000) (hT : T.length ≤ 1000) (H : Sat (RsAt s A T * F) w) (h : ∀ w', Sat (RsAt s (Eg.put A (p1, p2)) (Aj.setT T (p1, p2) t) * F) w' → Io w w' → R (.returned (.tuple #[])) w') :
    Calls Tryz.prog 12 #[.pointer (some ⟨s, 0, none⟩), .agg #[.int .i64 p1, .int .i64 p2], .bool t] w R := rset_any (p1, p2) t hA hT H h
theorem does_rdrop {p1 p2 : Int} (hA : A.length ≤ 1000) (hT : T.length ≤ 1000) (H : Sat (RsAt s A T * F) w) (h : ∀ w', Sat (RsAt s (Eg.without A (p1, p2)) (Eg.without T (p1, p2)) * F) w' → Io w w' → R (.returned (.tuple #[])) w') :
    Calls Tryz.prog 15 #[.pointer (some ⟨s, 0, none⟩), .agg #[.int .i64 p1, .int .i64 p2]] w R := rdrop_any (p1, p2) hA hT H h
end
section
variable {F : Asn} {w : World} {R : Ending → World → Prop}
set_option maxRecDepth 100000 in
set_option maxHeartbeats 16000000 in
theorem adjDoes_walk {l : List Act17} {v : Value} (hv : Reads encA17 F v l) (H : Sat F w) (h : ∀ w', Sat F w' → Io w w' → R (.returned (.bool true)) w') :
    Calls Tryz.prog 3 #[v] w R := by
  have HH := Lib.hid h
  obtain ⟨a0, c0, rfl, hm⟩ := readsA17_len hv
  have HVG := Lib.hid (fun k hk => readsA17_get hv k hk)
  clear h hv
  go_enter Tryz.func3, Tryz.ntmps3
  by_cases hl : (80 : Int) < (l.length : Int)
  · go_wp2_with (go_at_call 7; (with_reducible refine works17_any H ?_); intro w1 H1 I1)
    exact HH.out _ H1 I1
  · have HL : Hid (l.length ≤ 80) := Lib.hid (by omega)
    go_wp2_with (first
      | (go_at_call 7; (with_reducible refine works17_any H ?_); intro w1 H1 I1)
      | (go_at_call 8; (refine ladj_any (n := 2000) (by decide) H1 ?_); intro a c w2 hn H2 I2; have HC := Lib.hid hn; clear hn; have K0 := AjM.first H2; have K1 := rs_first (K0.new (.cells #[.slice none 0 0, .slice none 0 0] 31)); have J1 := (I1.trans I2).alloc (.cells #[.slice none 0 0, .slice none 0 0] 31))
      | fail)
    have K2 := swap3 K1
    clear I1 I2 H1 H2 H K0 K1
    generalize w2.heap.size = s at *
    generalize w2.alloc (.cells #[.slice none 0 0, .slice none 0 0] 31) = w3 at *
    go_loopw [7] (fun x wr => ∃ (k : Nat) (A T : List Pr), k ≤ l.length ∧ x = .int .i64 (k : Int) ∧ Hid (A.length ≤ k ∧ T.length ≤ k) ∧ Sat (AjM a c A T [] (60 + 24 * k) (2 * k) * (RsAt s A T * F)) wr ∧ Io w wr) (fun x _ => l.length - (RowKit.intOf x).toNat)
    case atStart => exact ⟨0, [], [], by omega, rfl, Lib.hid (by simp), K2, J1⟩
    case round =>
      obtain ⟨k, A, T, hk, rfl, hA, Hk, Ik⟩ := hrel
      clear K2 J1
      by_cases hlt : k < l.length
      · have hlti : (k : Int) < (l.length : Int) := by omega
        have hk0 : (0 : Int) ≤ (k : Int) := by omega
        obtain ⟨b, off, x1, x2, x3, x4, rfl, hx, hc⟩ := HVG.out k hlt
        obtain ⟨g0, g1, g2, g3⟩ := hc _ Hk.right.right
        obtain ⟨e, he⟩ : ∃ e, e = Md.wrong x2 x3 := ⟨_, rfl⟩
        have HE := Lib.hid he
        obtain ⟨p, hp⟩ : ∃ p, Md.pair x2 x3 = p := ⟨_, rfl⟩
        obtain ⟨p1, p2⟩ := p
        have HP := Lib.hid hp
        have HB1 := (does_new (Hk.new (.cells #[.int .i64 x1, .int .i64 x2, .int .i64 x3, .bool x4] 33)))
        have JB1 := Ik.alloc (.cells #[.int .i64 x1, .int .i64 x2, .int .i64 x3, .bool x4] 33)
        clear hc hx he hp Hk Ik
        have HRM := room_counts (k := k) HC (by have := HL.out; omega)
        have HRM2 := room_counts2 (k := k) HC (by have := HL.out; omega)
        go_upto_region 14 with (first
          | (go_at_call 9; (with_reducible refine rpair_any x2 x3 HB1 HP ?_); intro w4 H4 I4; have HB2 := does_new2 (H4.new (.cells #[.int .i64 p1, .int .i64 p2] 35)); have Z := nd4 HB2.right.right; obtain ⟨y0, y1, y2, y3⟩ := Z; have JB2 := (JB1.trans I4).alloc (.cells #[.int .i64 p1, .int .i64 p2] 35))
          | (go_at_call 10; (with_reducible refine rwrong_any x2 x3 HB2 HE ?_); intro w5 K5 I5)
          | fail)
        have J5 := JB2.trans I5
        clear HB1 JB1 H4 I4 HB2 JB2 I5 g0 g1 g2 g3 y0 y1 y2 y3
        generalize wr.heap.size = bx at *
        generalize w4.heap.size = bp at *
        have Z := nd4 K5.right.right
        obtain ⟨a0, a1, a2, a3⟩ := Z
        have Y := nd2 K5.right.right.right
        obtain ⟨b0, b1⟩ := Y
        have HN : Hid (c.k.n ≤ 3000) := Lib.hid (by have := HC.out; omega)
        have HK2 : Hid (2 * k ≤ 238) := Lib.hid (by have := HL.out; omega)
        have HQ : Hid (60 ≤ 60 + 24 * k) := Lib.hid (by omega)
        have hb : e = 0 ∨ (¬ e = 0 ∧ (e != 0) = true) := by by_cases h : e = 0 <;> simp [h]
        by_cases r0 : x1.tmod 4 = 0
        · skip
          rcases hb with hb | ⟨hb, hb1⟩
          · subst hb
            have HK : Hid (2 * k + 2 ≤ 240) := Lib.hid (by have := HL.out; omega)
            have HLA : Hid ((Eg.put A (p1, p2)).length ≤ 1000) := Lib.hid (by have := Md.put_len1 A (p1, p2); have := hA.out; have := HL.out; omega)
            have HLT : Hid ((Aj.setT T (p1, p2) x4).length ≤ 1000) := Lib.hid (by have := setT_len (p := (p1, p2)) (t := x4) hA.out.2; have := HL.out; omega)
            have HA0 : Hid (A.length ≤ 1000) := Lib.hid (by have := hA.out; have := HL.out; omega)
            have HT0 : Hid (T.length ≤ 1000) := Lib.hid (by have := hA.out; have := HL.out; omega)
            go_wp2_with (first
              | (go_at_call 11; (with_reducible refine does_set x4 HN.out HK2.out HQ.out HRM HE HP K5 ?_); intro w6 H6 I6; have Zs := nd4 H6.right.right; obtain ⟨as0, as1, as2, as3⟩ := Zs; have Ys := nd2 H6.right.right.right; obtain ⟨bs0, bs1⟩ := Ys)
              | (go_at_call 12; (with_reducible refine does_rput (p1 := p1) (p2 := p2) x4 HA0.out HT0.out (swap3 H6) ?_); intro w7 H7 I7; have H8 := swap3 H7; have Zu := nd4 H8.right.right; obtain ⟨au0, au1, au2, au3⟩ := Zu; have Yu := nd2 H8.right.right.right; obtain ⟨bu0, bu1⟩ := Yu)
              | (go_at_call 16; (with_reducible refine asked_any x2 x3 (HK.out) (HLA.out) (HLT.out) H8 ?_); intro w12 H12 I12; have Zt := nd4 H12.right.right; obtain ⟨at0, at1, at2, at3⟩ := Zt; have Yt := nd2 H12.right.right.right; obtain ⟨bt0, bt1⟩ := Yt)
              | (go_at_call 16; (with_reducible refine asked_any x3 x2 (HK.out) (HLA.out) (HLT.out) H12 ?_); intro w13 H13 I13)
              | fail)
            go_roundw
            case rel => exact ⟨k + 1, _, _, by omega, by go_num, Lib.hid ⟨by have := Md.put_len1 A (p1, p2); have := hA.out; omega, setT_len hA.out.2⟩, AjM.mono (by omega) (by omega) (does_drop H13), (((J5.trans I6).trans I7).trans I12).trans I13⟩
            case measure => simp [RowKit.intOf]; omega
          · skip
            have HK : Hid (2 * k ≤ 240) := Lib.hid (by have := HL.out; omega)
            have HLA : Hid (A.length ≤ 1000) := Lib.hid (by have := hA.out; have := HL.out; omega)
            have HLT : Hid (T.length ≤ 1000) := Lib.hid (by have := hA.out; have := HL.out; omega)
            go_wp2_with (first
              | (go_at_call 11; (with_reducible refine aset_no HE hb K5 ?_); intro w6 H6 I6; have Zs := nd4 H6.right.right; obtain ⟨as0, as1, as2, as3⟩ := Zs; have Ys := nd2 H6.right.right.right; obtain ⟨bs0, bs1⟩ := Ys)
              | (go_at_call 16; (with_reducible refine asked_any x2 x3 (HK.out) (HLA.out) (HLT.out) H6 ?_); intro w12 H12 I12; have Zt := nd4 H12.right.right; obtain ⟨at0, at1, at2, at3⟩ := Zt; have Yt := nd2 H12.right.right.right; obtain ⟨bt0, bt1⟩ := Yt)
              | (go_at_call 16; (with_reducible refine asked_any x3 x2 (HK.out) (HLA.out) (HLT.out) H12 ?_); intro w13 H13 I13)
              | fail)
            go_roundw
            case rel => exact ⟨k + 1, _, _, by omega, by go_num, Lib.hid (by have := hA.out; omega), AjM.mono (by omega) (by omega) (does_drop H13), ((J5.trans I6).trans I12).trans I13⟩
            case measure => simp [RowKit.intOf]; omega
        · by_cases r1 : x1.tmod 4 = 1
          · skip
            rcases hb with hb | ⟨hb, hb1⟩
            · subst hb
              have HK : Hid (2 * k + 2 ≤ 240) := Lib.hid (by have := HL.out; omega)
              have HLA : Hid ((Eg.put A (p1, p2)).length ≤ 1000) := Lib.hid (by have := Md.put_len1 A (p1, p2); have := hA.out; have := HL.out; omega)
              have HLT : Hid ((Aj.setT T (p1, p2) x4).length ≤ 1000) := Lib.hid (by have := setT_len (p := (p1, p2)) (t := x4) hA.out.2; have := HL.out; omega)
              have HA0 : Hid (A.length ≤ 1000) := Lib.hid (by have := hA.out; have := HL.out; omega)
              have HT0 : Hid (T.length ≤ 1000) := Lib.hid (by have := hA.out; have := HL.out; omega)
              go_wp2_with (first
                | (go_at_call 11; (with_reducible refine does_set x4 HN.out HK2.out HQ.out HRM HE HP K5 ?_); intro w6 H6 I6; have Zs := nd4 H6.right.right; obtain ⟨as0, as1, as2, as3⟩ := Zs; have Ys := nd2 H6.right.right.right; obtain ⟨bs0, bs1⟩ := Ys)
                | (go_at_call 12; (with_reducible refine does_rput (p1 := p1) (p2 := p2) x4 HA0.out HT0.out (swap3 H6) ?_); intro w7 H7 I7; have H8 := swap3 H7; have Zu := nd4 H8.right.right; obtain ⟨au0, au1, au2, au3⟩ := Zu; have Yu := nd2 H8.right.right.right; obtain ⟨bu0, bu1⟩ := Yu)
                | (go_at_call 16; (with_reducible refine asked_any x2 x3 (HK.out) (HLA.out) (HLT.out) H8 ?_); intro w12 H12 I12; have Zt := nd4 H12.right.right; obtain ⟨at0, at1, at2, at3⟩ := Zt; have Yt := nd2 H12.right.right.right; obtain ⟨bt0, bt1⟩ := Yt)
                | (go_at_call 16; (with_reducible refine asked_any x3 x2 (HK.out) (HLA.out) (HLT.out) H12 ?_); intro w13 H13 I13)
                | fail)
              go_roundw
              case rel => exact ⟨k + 1, _, _, by omega, by go_num, Lib.hid ⟨by have := Md.put_len1 A (p1, p2); have := hA.out; omega, setT_len hA.out.2⟩, AjM.mono (by omega) (by omega) (does_drop H13), (((J5.trans I6).trans I7).trans I12).trans I13⟩
              case measure => simp [RowKit.intOf]; omega
            · skip
              have HK : Hid (2 * k ≤ 240) := Lib.hid (by have := HL.out; omega)
              have HLA : Hid (A.length ≤ 1000) := Lib.hid (by have := hA.out; have := HL.out; omega)
              have HLT : Hid (T.length ≤ 1000) := Lib.hid (by have := hA.out; have := HL.out; omega)
              go_wp2_with (first
                | (go_at_call 11; (with_reducible refine aset_no HE hb K5 ?_); intro w6 H6 I6; have Zs := nd4 H6.right.right; obtain ⟨as0, as1, as2, as3⟩ := Zs; have Ys := nd2 H6.right.right.right; obtain ⟨bs0, bs1⟩ := Ys)
                | (go_at_call 16; (with_reducible refine asked_any x2 x3 (HK.out) (HLA.out) (HLT.out) H6 ?_); intro w12 H12 I12; have Zt := nd4 H12.right.right; obtain ⟨at0, at1, at2, at3⟩ := Zt; have Yt := nd2 H12.right.right.right; obtain ⟨bt0, bt1⟩ := Yt)
                | (go_at_call 16; (with_reducible refine asked_any x3 x2 (HK.out) (HLA.out) (HLT.out) H12 ?_); intro w13 H13 I13)
                | fail)
              go_roundw
              case rel => exact ⟨k + 1, _, _, by omega, by go_num, Lib.hid (by have := hA.out; omega), AjM.mono (by omega) (by omega) (does_drop H13), ((J5.trans I6).trans I12).trans I13⟩
              case measure => simp [RowKit.intOf]; omega
          · by_cases r2 : x1.tmod 4 = 2
            · skip
              have HA0 : Hid (A.length ≤ 1000) := Lib.hid (by have := hA.out; have := HL.out; omega)
              have HT0 : Hid (T.length ≤ 1000) := Lib.hid (by have := hA.out; have := HL.out; omega)
              obtain ⟨d, hd⟩ : ∃ d, d = decide ((p1, p2) ∈ A) := ⟨_, rfl⟩
              have HD := Lib.hid hd
              clear hd
              obtain ⟨va, vt, K6⟩ := does_open K5
              have HRA := Lib.hid (readsP_row K6 (by have := HA0.out; omega))
              have K6d := K6.drew
              have S0 := (⟨(nd2 K6d.right).1, (nd2 K6d.right.right).1, (nd2 K6d.right.right).2⟩ : _ ∧ _ ∧ _)
              go_upto_region 23 with fail
              clear a0 a1 a2 a3 b0 b1
              go_region_held3 (fun W => W.cell? ⟨s, 0, none⟩ = some va ∧ W.cell? ⟨bp, 0, none⟩ = some (.int .i64 p1) ∧ W.cell? ⟨bp, 1, none⟩ = some (.int .i64 p2)) (with_reducible (first | exact S0 | exact S1)) (first
                | (go_at_call 13; (with_reducible refine ask_has HRA.out HD K6d ?_); intro w7 H7 I7; have S1 := (⟨(nd2 H7.right).1, (nd2 H7.right.right).1, (nd2 H7.right.right).2⟩ : _ ∧ _ ∧ _)))
              have K7 := does_close H7
              have J7 := J5.drew.trans I7
              have Z := nd4 K7.right.right
              obtain ⟨a0, a1, a2, a3⟩ := Z
              have Y := nd2 K7.right.right.right
              obtain ⟨b0, b1⟩ := Y
              clear S0 S1 K6 K6d H7 I7 K5 J5 HRA
              rcases hb with hb | ⟨hb, hb1⟩
              · subst hb
                cases d with
                | true =>
                  have HIN : Hid ((p1, p2) ∈ A) := Lib.hid (of_decide_eq_true HD.out.symm)
                  clear HD
                  have HK : Hid (2 * k ≤ 240) := Lib.hid (by have := HL.out; omega)
                  have HLA : Hid ((Eg.without A (p1, p2)).length ≤ 1000) := Lib.hid (by have := Eg.without_len A (p1, p2); have := hA.out; have := HL.out; omega)
                  have HLT : Hid ((Eg.without T (p1, p2)).length ≤ 1000) := Lib.hid (by have := Eg.without_len T (p1, p2); have := hA.out; have := HL.out; omega)
                  go_wp2_with (first
                    | (go_at_call 14; (with_reducible refine does_clear HN.out HK.out HQ.out HRM2 HE HP HIN K7 ?_); intro w8 H8 I8; have Zs := nd4 H8.right.right; obtain ⟨as0, as1, as2, as3⟩ := Zs; have Ys := nd2 H8.right.right.right; obtain ⟨bs0, bs1⟩ := Ys)
                    | (go_at_call 15; (with_reducible refine does_rdrop (p1 := p1) (p2 := p2) HA0.out HT0.out (swap3 H8) ?_); intro w9 H9 I9; have H10 := swap3 H9; have Zu := nd4 H10.right.right; obtain ⟨au0, au1, au2, au3⟩ := Zu; have Yu := nd2 H10.right.right.right; obtain ⟨bu0, bu1⟩ := Yu)
                    | (go_at_call 16; (with_reducible refine asked_any x2 x3 (HK.out) (HLA.out) (HLT.out) H10 ?_); intro w12 H12 I12; have Zt := nd4 H12.right.right; obtain ⟨at0, at1, at2, at3⟩ := Zt; have Yt := nd2 H12.right.right.right; obtain ⟨bt0, bt1⟩ := Yt)
                    | (go_at_call 16; (with_reducible refine asked_any x3 x2 (HK.out) (HLA.out) (HLT.out) H12 ?_); intro w13 H13 I13)
                    | fail)
                  go_roundw
                  case rel => exact ⟨k + 1, _, _, by omega, by go_num, Lib.hid (by have := Eg.without_len A (p1, p2); have := Eg.without_len T (p1, p2); have := hA.out; omega), AjM.mono (by omega) (by omega) (does_drop H13), (((J7.trans I8).trans I9).trans I12).trans I13⟩
                  case measure => simp [RowKit.intOf]; omega
                | false =>
                  have HIN : Hid (¬ (p1, p2) ∈ A) := Lib.hid (of_decide_eq_false HD.out.symm)
                  clear HD
                  have HK : Hid (2 * k ≤ 240) := Lib.hid (by have := HL.out; omega)
                  have HLA : Hid (A.length ≤ 1000) := Lib.hid (by have := hA.out; have := HL.out; omega)
                  have HLT : Hid (T.length ≤ 1000) := Lib.hid (by have := hA.out; have := HL.out; omega)
                  go_wp2_with (first
                    | (go_at_call 14; (with_reducible refine does_clear1 HN.out HK.out HQ.out HRM2 HE HP HIN K7 ?_); intro w8 H8 I8; have Zs := nd4 H8.right.right; obtain ⟨as0, as1, as2, as3⟩ := Zs; have Ys := nd2 H8.right.right.right; obtain ⟨bs0, bs1⟩ := Ys)
                    | (go_at_call 16; (with_reducible refine asked_any x2 x3 (HK.out) (HLA.out) (HLT.out) H8 ?_); intro w12 H12 I12; have Zt := nd4 H12.right.right; obtain ⟨at0, at1, at2, at3⟩ := Zt; have Yt := nd2 H12.right.right.right; obtain ⟨bt0, bt1⟩ := Yt)
                    | (go_at_call 16; (with_reducible refine asked_any x3 x2 (HK.out) (HLA.out) (HLT.out) H12 ?_); intro w13 H13 I13)
                    | fail)
                  go_roundw
                  case rel => exact ⟨k + 1, _, _, by omega, by go_num, Lib.hid (by have := hA.out; omega), AjM.mono (by omega) (by omega) (does_drop H13), ((J7.trans I8).trans I12).trans I13⟩
                  case measure => simp [RowKit.intOf]; omega
              · skip
                have HK : Hid (2 * k ≤ 240) := Lib.hid (by have := HL.out; omega)
                have HLA : Hid (A.length ≤ 1000) := Lib.hid (by have := hA.out; have := HL.out; omega)
                have HLT : Hid (T.length ≤ 1000) := Lib.hid (by have := hA.out; have := HL.out; omega)
                go_wp2_with (first
                  | (go_at_call 14; (with_reducible refine aclear_no HE hb K7 ?_); intro w8 H8 I8; have Zs := nd4 H8.right.right; obtain ⟨as0, as1, as2, as3⟩ := Zs; have Ys := nd2 H8.right.right.right; obtain ⟨bs0, bs1⟩ := Ys)
                  | (go_at_call 16; (with_reducible refine asked_any x2 x3 (HK.out) (HLA.out) (HLT.out) H8 ?_); intro w12 H12 I12; have Zt := nd4 H12.right.right; obtain ⟨at0, at1, at2, at3⟩ := Zt; have Yt := nd2 H12.right.right.right; obtain ⟨bt0, bt1⟩ := Yt)
                  | (go_at_call 16; (with_reducible refine asked_any x3 x2 (HK.out) (HLA.out) (HLT.out) H12 ?_); intro w13 H13 I13)
                  | fail)
                go_roundw
                case rel => exact ⟨k + 1, _, _, by omega, by go_num, Lib.hid (by have := hA.out; omega), AjM.mono (by omega) (by omega) (does_drop H13), ((J7.trans I8).trans I12).trans I13⟩
                case measure => simp [RowKit.intOf]; omega
            · skip
              have HK : Hid (2 * k ≤ 240) := Lib.hid (by have := HL.out; omega)
              have HLA : Hid (A.length ≤ 1000) := Lib.hid (by have := hA.out; have := HL.out; omega)
              have HLT : Hid (T.length ≤ 1000) := Lib.hid (by have := hA.out; have := HL.out; omega)
              go_wp2_with (first
                | (go_at_call 16; (with_reducible refine asked_any x2 x3 (HK.out) (HLA.out) (HLT.out) K5 ?_); intro w12 H12 I12; have Zt := nd4 H12.right.right; obtain ⟨at0, at1, at2, at3⟩ := Zt; have Yt := nd2 H12.right.right.right; obtain ⟨bt0, bt1⟩ := Yt)
                | (go_at_call 16; (with_reducible refine asked_any x3 x2 (HK.out) (HLA.out) (HLT.out) H12 ?_); intro w13 H13 I13)
                | fail)
              go_roundw
              case rel => exact ⟨k + 1, _, _, by omega, by go_num, Lib.hid (by have := hA.out; omega), AjM.mono (by omega) (by omega) (does_drop H13), (J5.trans I12).trans I13⟩
              case measure => simp [RowKit.intOf]; omega
      · obtain rfl : k = l.length := by omega
        have hge : ¬ (l.length : Int) < (l.length : Int) := by omega
        have HLA : Hid (A.length ≤ 1000) := Lib.hid (by have := hA.out; have := HL.out; omega)
        have HK : Hid (2 * l.length ≤ 240) := Lib.hid (by have := HL.out; omega)
        go_wp2_with (first
          | (go_at_call 17; (with_reducible refine ajm_edges HK.out HLA.out (by simp) Hk ?_); intro ve w6 H6 I6; have Z := does_end H6; obtain ⟨va, vt, K6⟩ := Z; have Z := nd2 K6.right.right; obtain ⟨q0, q1⟩ := Z)
          | (go_at_call 18; (with_reducible refine does_same HLA.out K6 ?_); intro w7 H7 I7)
          | fail)
        exact HH.out _ H7.right.right.right.right.right ((Ik.trans I6).trans I7)
end
end Go.Proofs.YthbbdicdcmjpiaaGreatDoor
