/-
  The statement PagefileDoes, walked: it answers true. It proves the walk alone; the row is closed elsewhere.
-/
import Derived.Test.YtpccdadobnhpkaaDoorG6
import Derived.Test.YtpccdadobnhpkaaDoorA6
import Derived.Test.YtpccdadobnhpkaaDoorForgets
import Derived.Deep.CutRange
import Derived.Deep.CutBlock
namespace Go.Proofs.YtpccdadobnhpkaaDoor
open Go.RowKit
set_option linter.unusedSimpArgs false
set_option linter.unusedVariables false

/-- An act's cells. -/
def actD (xk xi : Int) (xd : UInt8) (xs : ByteArray) : Array Value := #[.int .i64 xk, .int .i64 xi, .int .u8 (xd.toNat : Int), .string xs]
theorem actD_cells {ab : Nat} {xk xi : Int} {xd : UInt8} {xs : ByteArray} {F : Asn} {w : World} (H : Sat (pts ab (.cells (actD xk xi xd xs) 34 (0, 0)) * F) w) :
    ab < w.heap.size ∧ w.cell? ⟨ab, 0, none⟩ = some (.int .i64 xk) ∧ w.cell? ⟨ab, 1, none⟩ = some (.int .i64 xi) ∧ w.cell? ⟨ab, 2, none⟩ = some (.int .u8 (xd.toNat : Int)) ∧ w.cell? ⟨ab, 3, none⟩ = some (.string xs) :=
  ⟨H.left.lt, Sat.read H.left.at 0, Sat.read H.left.at 1, Sat.read H.left.at 2, Sat.read H.left.at 3⟩
namespace Dk
theorem Fit.brk' {d : Dk} {m n : Nat} (h : d.Fit m n) (i : Int) (hi : i ≤ 9223372036854775807) : (d.brk i).Fit m n :=
  ⟨Dk.brk_ok' h.ok i hi, h.len, h.pend, h.writes, h.reads⟩
theorem Fit.pfR {d : Dk} {m n : Nat} (h : d.Fit m n) (i : Int) : (d.pfR i).Fit m (n + 1) := by
  unfold Dk.pfR
  split
  · exact h.mono (by omega)
  · exact h.read i
theorem Fit.slotR {d : Dk} {m n : Nat} (h : d.Fit m n) (i : Int) : (d.slotR i).Fit m (n + 1) := by
  unfold Dk.slotR
  split
  · exact h.mono (by omega)
  · exact h.read i
theorem Fit.pfW {d : Dk} {m n : Nat} (h : d.Fit m n) (i : Int) (k : UInt8) (b : ByteArray) : (d.pfW i k b).Fit m (n + 1) := by
  unfold Dk.pfW
  split
  · exact h.mono (by omega)
  · split
    · exact h.mono (by omega)
    · exact h.write i _
theorem Fit.putR {d : Dk} {m n : Nat} (h : d.Fit m n) (i : Int) (s : ByteArray) : (d.putR i s).Fit m (n + 1) := by
  unfold Dk.putR
  split
  · exact h.mono (by omega)
  · exact h.write i _
theorem putR_short (d : Dk) (i : Int) (s : ByteArray) (hs : s.size ≠ 256) : d.putR i s = d := by
  unfold Dk.putR Dk.write
  split
  · rfl
  · split
    · rfl
    · first | rfl | rw [if_pos hs]
end Dk
theorem gf_pend {r : Nat} {d : Dk} {F : Asn} {w : World} (H : Sat (IsRf r d * F) w) : ∃ sa sc wa wc, Sat (RfMid r (.slice sa d.sure.length sc) (.slice wa d.pend.length wc) d (.slice sa d.sure.length sc) d.sure (.slice wa d.pend.length wc) d.pend * F) w := by
  obtain ⟨sv, wv, HQ⟩ := isRf_open H
  obtain ⟨sa, sc, rfl, _⟩ := row_any (rf_srow ▸ HQ)
  obtain ⟨wa, wc, rfl, _⟩ := row_any (rf_wrow ▸ HQ)
  exact ⟨sa, sc, wa, wc, HQ⟩

section
variable {F : Asn} {w : World} {R : Ending → World → Prop}

set_option maxRecDepth 100000 in
set_option maxHeartbeats 8000000 in
theorem does_walk (hv : Hv F) (n : Int) {v : Value} {l : List Act6} (hn0 : -9223372036854775808 ≤ n) (hn1 : n ≤ 9223372036854775807) (hl : ReadsA F v l) (H : Sat F w) (h : ∀ w', Sat F w' → Io w w' → R (.returned (.bool true)) w') :
    Calls Tryd.prog 6 #[.int .i64 n, v] w R := by
  have HH := Lib.hid h
  clear h
  obtain ⟨a, c, rfl, hmax⟩ := readsA_len hl
  have hmax' : (l.length : Int) ≤ 9223372036854775807 := by omega
  clear hmax
  by_cases g0 : 30 < n
  · clear hl
    go_enter Tryd.func6, Tryd.ntmps6
    go_wp2_with fail
    refine works6 hv H ?_
    intro w1 H1 I1
    go_wp2_with fail
    all_goals exact HH.out w1 H1 I1
  have g0' : n ≤ 30 := by omega
  by_cases g1 : 300 < (l.length : Int)
  · clear hl
    go_enter Tryd.func6, Tryd.ntmps6
    go_wp2_with fail
    refine works6 hv H ?_
    intro w1 H1 I1
    go_wp2_with fail
    all_goals exact HH.out w1 H1 I1
  have hlen : (l.length : Int) ≤ 300 := by omega
  clear g0 g1 hmax'
  have AL := Lib.hid (fun k hk => readsA_at hl k hk)
  have NT := Lib.hid hl.ints
  clear hl
  go_enter Tryd.func6, Tryd.ntmps6
  go_wp2_with fail
  refine works6 hv H ?_
  intro w1 H1 I1
  go_wp2_with fail
  refine new_any n hn0 hn1 H1 ?_
  intro p w2 H2 I2
  have J2 := I1.trans I2
  clear H H1 I1 I2
  go_wp2_with fail
  refine pf_new H2 ?_
  intro q w3 H3 I3
  have J3 := J2.trans I3
  clear H2 J2 I3
  go_wp2_with fail
  refine rf_new n hn0 hn1 H3 ?_
  intro r w4 H4 I4
  have J4 := J3.trans I4
  clear H3 J3 I4
  have H5 := H4.new (.cells #[.pointer (some ⟨r, 0, none⟩)] 53)
  have J5 := J4.alloc (.cells #[.pointer (some ⟨r, 0, none⟩)] 53)
  go_wp2_with fail
  have H5' : Sat (IsPf q p (Dk.new (min (max n 0) 16384).toNat) * (IsGf w4.heap.size r (Dk.new (min (max n 0) 16384).toNat) * F)) (w4.alloc (.cells #[.pointer (some ⟨r, 0, none⟩)] 53)) := H5.of_eq (by unfold IsGf; ac_rfl)
  generalize w4.alloc (.cells #[.pointer (some ⟨r, 0, none⟩)] 53) = v5 at *
  generalize w4.heap.size = g at *
  have HM : Hid ((min (max n 0) 16384).toNat ≤ 16384) := Lib.hid (by omega)
  have hfit := Lib.hid (Dk.Fit.new (min (max n 0) 16384).toNat (by omega))
  clear H5 H4 J4
  generalize (min (max n 0) 16384).toNat = N at *
  generalize Dk.new N = dn at *
  go_loopw [10] (fun x wr => ∃ (k : Nat) (d : Dk), k ≤ l.length ∧ x = .int .i64 (k : Int) ∧ d.Fit N k ∧ Sat (IsPf q p d * (IsGf g r d * F)) wr ∧ Io w wr) (fun x _ => l.length - (intOf x).toNat)
  case atStart => exact ⟨0, dn, by omega, rfl, hfit.out, H5', J5⟩
  case round =>
    obtain ⟨k, d, hk1, rfl, fd, Hk, Ik⟩ := hrel
    clear H5' J5 hfit
    have FD := Lib.hid fd
    clear fd
    by_cases hlt : k < l.length
    · have hlti : (k : Int) < (l.length : Int) := by omega
      obtain ⟨b, off, rfl, hc⟩ := AL.out k hlt
      have hnt := NT.out _ (List.getElem_mem hlt)
      obtain ⟨c0, c1, c2, c3⟩ := hc wr Hk.right.right
      clear hc
      generalize l[k].K = xk at *
      generalize l[k].I = xi at *
      generalize l[k].kd = xd at *
      generalize l[k].S = xs at *
      obtain ⟨⟨_, _⟩, ⟨ni0, ni1⟩, xs9⟩ := hnt
      have xs9' : (xs.size : Int) ≤ 9223372036854775807 := by omega
      have XS9 := Lib.hid xs9
      clear xs9
      have Ha : Sat (pts wr.heap.size (.cells (actD xk xi xd xs) 34 (0, 0)) * (IsPf q p d * (IsGf g r d * F))) (wr.alloc (.cells #[.int .i64 xk, .int .i64 xi, .int .u8 (xd.toNat : Int), .string xs] 34)) := Hk.new _
      have Ia : Io w (wr.alloc (.cells #[.int .i64 xk, .int .i64 xi, .int .u8 (xd.toNat : Int), .string xs] 34)) := Ik.alloc _
      by_cases big : 300 < (xs.size : Int)
      · have fin := HH.out _ Ha.right.right.right Ia
        clear HH Ha Ia Hk Ik
        go_wp2_with fail
        exact fin
      have xsm : (xs.size : Int) ≤ 300 := by omega
      have XS := Lib.hid (show xs.size ≤ 1000000 from by omega)
      clear big Hk Ik
      go_upto_block 2 with fail
      generalize wr.alloc (.cells #[.int .i64 xk, .int .i64 xi, .int .u8 (xd.toNat : Int), .string xs] 34) = wa at *
      generalize wr.heap.size = ab at *
      go_cut [12, 13, 14, 15, 16, 17, 18, 19, 20, 21] from 42 to 225 (fun _ _ _ _ _ _ _ _ _ _ wc => ∃ dz : Dk, dz.Fit N (k + 1) ∧ Sat (IsPf q p dz * (IsGf g r dz * F)) wc ∧ Io w wc)
      case first =>
        by_cases e0 : xk.tmod 8 = 0
        · as_aux_lemma =>
            have tt0 : (xk.tmod 8 == 0) = true := by simp; omega
            clear e0
            obtain ⟨y0, y1, y2, y3, y4⟩ := actD_cells Ha
            go_wp2_with fail
            have Hp : Sat (IsPf q p d * ((pts ab (.cells (actD xk xi xd xs) 34 (0, 0))) * (IsGf g r d * F))) wa := Ha.of_eq (by ac_rfl)
            refine pf_read hv.with.with Hp FD.out.ok (by have := FD.out.reads; omega) xi xd ?_
            intro w4 H4 I4
            have H4' : Sat (IsGf g r d * ((pts ab (.cells (actD xk xi xd xs) 34 (0, 0))) * (IsPf q p (d.pfR xi) * F))) w4 := H4.of_eq (by ac_rfl)
            have J4 := Ia.trans I4
            clear Hp Ha Ia I4 y0 y1 y2 y3 y4 H4
            obtain ⟨y0, y1, y2, y3, y4⟩ := actD_cells (H4'.of_eq (show _ = ((pts ab (.cells (actD xk xi xd xs) 34 (0, 0))) * (IsPf q p (d.pfR xi) * (IsGf g r d * F))) from by ac_rfl))
            obtain ⟨pe, hpe⟩ : ∃ x, x = d.pfE xi xd := ⟨_, rfl⟩
            obtain ⟨ps, hps⟩ : ∃ x, x = d.pfS xi xd := ⟨_, rfl⟩
            rw [← hpe, ← hps]
            have PE := Lib.hid hpe
            have PS := Lib.hid hps
            clear hpe hps
            go_wp2_with fail
            refine gf_read H4' FD.out.ok (by have := FD.out.reads; omega) (by have := FD.out.pend; omega) xi ni1 xd ?_
            rw [← PE.out, ← PS.out]
            intro wz H6 I6
            have e1 : (ps.toList == ps.toList) = true := str_eq ps
            clear PE PS y0 y1 y2 y3 y4
            go_wp2_with fail
            go_meet
            case rel => exact ⟨d.pfR xi, (FD.out.pfR xi), (H6.of_eq (show _ = ((pts ab (.cells (actD xk xi xd xs) 34 (0, 0))) * (IsPf q p (d.pfR xi) * (IsGf g r (d.pfR xi) * F))) from by ac_rfl)).right, J4.trans I6⟩
        by_cases e1 : xk.tmod 8 = 1
        · as_aux_lemma =>
            have tt0 : (xk.tmod 8 == 0) = false := by simp; omega
            have tt1 : (xk.tmod 8 == 1) = true := by simp; omega
            clear e0 e1
            go_wp2_with fail
            have Hd : Sat (IsPf q p d * ((pts ab (.cells (actD xk xi xd xs) 34 (0, 0))) * (IsGf g r d * F))) wa.drew := (Ha.of_eq (by ac_rfl)).drew
            obtain ⟨y0, y1, y2, y3, y4⟩ := actD_cells (Hd.of_eq (show _ = ((pts ab (.cells (actD xk xi xd xs) 34 (0, 0))) * (IsPf q p d * (IsGf g r d * F))) from by ac_rfl))
            obtain ⟨ev, hev⟩ : ∃ x, Hid (x = d.pfWE xi xd xs) := ⟨_, Lib.hid rfl⟩
            go_wp2_with fail
            go_region_held3 (fun W => W.cell? ⟨ab, 1, none⟩ = some (.int .i64 xi) ∧ W.cell? ⟨ab, 2, none⟩ = some (.int .u8 (xd.toNat : Int)) ∧ W.cell? ⟨ab, 3, none⟩ = some (.string xs)) (first | exact ⟨y2, y3, y4⟩ | exact ⟨(actD_cells (H5.of_eq (show _ = ((pts ab (.cells (actD xk xi xd xs) 34 (0, 0))) * (IsPf q p (d.pfW xi xd xs) * (IsGf g r (d.pfW xi xd xs) * F))) from by ac_rfl))).2.2.1, (actD_cells (H5.of_eq (show _ = ((pts ab (.cells (actD xk xi xd xs) 34 (0, 0))) * (IsPf q p (d.pfW xi xd xs) * (IsGf g r (d.pfW xi xd xs) * F))) from by ac_rfl))).2.2.2⟩ | exact ⟨(actD_cells (H4.of_eq (show _ = ((pts ab (.cells (actD xk xi xd xs) 34 (0, 0))) * (IsPf q p (d.pfW xi xd xs) * (IsGf g r d * F))) from by ac_rfl))).2.2.1, (actD_cells (H4.of_eq (show _ = ((pts ab (.cells (actD xk xi xd xs) 34 (0, 0))) * (IsPf q p (d.pfW xi xd xs) * (IsGf g r d * F))) from by ac_rfl))).2.2.2⟩)
              (first | (go_at_call 12; refine pf_write hv.with.with Hd FD.out.ok (by have := FD.out.writes; omega) (by have := FD.out.pend; omega) xi xd xs XS9.out ?_; rw [← hev.out]; intro w4 H4 I4) | (go_at_call 20; refine gf_put (H4.of_eq (show _ = (IsGf g r d * ((pts ab (.cells (actD xk xi xd xs) 34 (0, 0))) * (IsPf q p (d.pfW xi xd xs) * F))) from by ac_rfl)) FD.out.ok (by have := FD.out.writes; omega) (by have := FD.out.pend; omega) xi ni1 xd xs XS.out ?_; rw [← hev.out]; intro wz H5 I5))
            have H6 := H5.of_eq (show _ = ((pts ab (.cells (actD xk xi xd xs) 34 (0, 0))) * (IsPf q p (d.pfW xi xd xs) * (IsGf g r (d.pfW xi xd xs) * F))) from by ac_rfl)
            have J6 := (Ia.drew.trans I4).trans I5
            clear y0 y1 y2 y3 y4 Hd H4 H5 I4 I5 Ha Ia hev
            go_wp2_with fail
            go_meet
            case rel => exact ⟨d.pfW xi xd xs, (FD.out.pfW xi xd xs), H6.right, J6⟩
        by_cases e2 : xk.tmod 8 = 2
        · as_aux_lemma =>
            have tt0 : (xk.tmod 8 == 0) = false := by simp; omega
            have tt1 : (xk.tmod 8 == 1) = false := by simp; omega
            have tt2 : (xk.tmod 8 == 2) = true := by simp; omega
            clear e0 e1 e2
            obtain ⟨lq, cq⟩ := pf_cells (Ha.of_eq (show _ = IsPf q p d * ((pts ab (.cells (actD xk xi xd xs) 34 (0, 0))) * (IsGf g r d * F)) from by ac_rfl))
            go_wp2_with fail
            have Hp : Sat (IsPf q p d * ((pts ab (.cells (actD xk xi xd xs) 34 (0, 0))) * (IsGf g r d * F))) wa := Ha.of_eq (by ac_rfl)
            refine sync_any (pf_disk Hp) FD.out.ok (by have := FD.out.pend; omega) ?_
            intro w4 H4 I4
            have H4' : Sat (IsGf g r d * ((pts ab (.cells (actD xk xi xd xs) 34 (0, 0))) * (IsPf q p d.sync * F))) w4 := (pf_back H4).of_eq (by ac_rfl)
            have J4 := Ia.trans I4
            clear Hp Ha Ia I4 H4 lq cq
            go_wp2_with fail
            refine rf_sync (gf_disk H4') FD.out.ok (by have := FD.out.pend; omega) ?_
            intro wz H6 I6
            go_wp2_with fail
            go_meet
            case rel => exact ⟨d.sync, (FD.out.sync.mono (show k ≤ k + 1 from by omega)), ((gf_back H6).of_eq (show _ = ((pts ab (.cells (actD xk xi xd xs) 34 (0, 0))) * (IsPf q p d.sync * (IsGf g r d.sync * F))) from by ac_rfl)).right, J4.trans I6⟩
        by_cases e3 : xk.tmod 8 = 3
        · as_aux_lemma =>
            have tt0 : (xk.tmod 8 == 0) = false := by simp; omega
            have tt1 : (xk.tmod 8 == 1) = false := by simp; omega
            have tt2 : (xk.tmod 8 == 2) = false := by simp; omega
            have tt3 : (xk.tmod 8 == 3) = true := by simp; omega
            clear e0 e1 e2 e3
            obtain ⟨y0, y1, y2, y3, y4⟩ := actD_cells Ha
            go_wp2_with fail
            have Hp : Sat (IsPf q p d * ((pts ab (.cells (actD xk xi xd xs) 34 (0, 0))) * (IsGf g r d * F))) wa := Ha.of_eq (by ac_rfl)
            refine pf_slot Hp FD.out.ok (by have := FD.out.reads; omega) xi ?_
            intro w4 H4 I4
            have H4' : Sat (IsGf g r d * ((pts ab (.cells (actD xk xi xd xs) 34 (0, 0))) * (IsPf q p (d.slotR xi) * F))) w4 := H4.of_eq (by ac_rfl)
            have J4 := Ia.trans I4
            clear Hp Ha Ia I4 y0 y1 y2 y3 y4 H4
            obtain ⟨y0, y1, y2, y3, y4⟩ := actD_cells (H4'.of_eq (show _ = ((pts ab (.cells (actD xk xi xd xs) 34 (0, 0))) * (IsPf q p (d.slotR xi) * (IsGf g r d * F))) from by ac_rfl))
            obtain ⟨pe, hpe⟩ : ∃ x, x = d.slotE xi := ⟨_, rfl⟩
            obtain ⟨ps, hps⟩ : ∃ x, x = d.slotS xi := ⟨_, rfl⟩
            rw [← hpe, ← hps]
            have PE := Lib.hid hpe
            have PS := Lib.hid hps
            clear hpe hps
            go_wp2_with fail
            refine gf_slot H4' FD.out.ok (by have := FD.out.reads; omega) (by have := FD.out.pend; omega) xi ?_
            rw [← PE.out, ← PS.out]
            intro wz H6 I6
            have e1 : (ps.toList == ps.toList) = true := str_eq ps
            clear PE PS y0 y1 y2 y3 y4
            go_wp2_with fail
            go_meet
            case rel => exact ⟨d.slotR xi, (FD.out.slotR xi), (H6.of_eq (show _ = ((pts ab (.cells (actD xk xi xd xs) 34 (0, 0))) * (IsPf q p (d.slotR xi) * (IsGf g r (d.slotR xi) * F))) from by ac_rfl)).right, J4.trans I6⟩
        by_cases e4 : xk.tmod 8 = 4
        · as_aux_lemma =>
            have tt0 : (xk.tmod 8 == 0) = false := by simp; omega
            have tt1 : (xk.tmod 8 == 1) = false := by simp; omega
            have tt2 : (xk.tmod 8 == 2) = false := by simp; omega
            have tt3 : (xk.tmod 8 == 3) = false := by simp; omega
            have tt4 : (xk.tmod 8 == 4) = true := by simp; omega
            clear e0 e1 e2 e3 e4
            go_wp2_with fail
            obtain ⟨S, eS⟩ : ∃ S, Hid (S = fullS xs) := ⟨_, Lib.hid rfl⟩
            have zS : Hid (S.size = 256) := Lib.hid (by rw [eS.out]; exact fullS_size xs)
            have FU : Hid (∀ (W : World) (Q : Ending → World → Prop), Q (.returned (.string S)) W → Calls Tryd.prog 10 #[.string xs] W Q) := Lib.hid (fun W Q hq => full_any xs XS.out (by rw [← eS.out]; exact hq))
            clear eS
            have Hd : Sat (IsPf q p d * ((pts ab (.cells (actD xk xi xd xs) 34 (0, 0))) * (IsGf g r d * F))) wa.drew := (Ha.of_eq (by ac_rfl)).drew
            obtain ⟨y0, y1, y2, y3, y4⟩ := actD_cells (Hd.of_eq (show _ = ((pts ab (.cells (actD xk xi xd xs) 34 (0, 0))) * (IsPf q p d * (IsGf g r d * F))) from by ac_rfl))
            obtain ⟨ev, hev⟩ : ∃ x, Hid (x = d.putE xi S) := ⟨_, Lib.hid rfl⟩
            obtain ⟨d1, hd1⟩ : ∃ x, Hid (x = d.putR xi S) := ⟨_, Lib.hid rfl⟩
            obtain ⟨eh, heh⟩ : ∃ x, Hid (x = d1.putE xi ⟨#[115, 104, 111, 114, 116]⟩) := ⟨_, Lib.hid rfl⟩
            have F1 : Hid (d1.Fit N (k + 1)) := Lib.hid (by rw [hd1.out]; exact FD.out.putR xi S)
            have SH : Hid (d1.putR xi ⟨#[115, 104, 111, 114, 116]⟩ = d1) := Lib.hid (Dk.putR_short d1 xi _ (by decide))
            go_wp2_with fail
            go_region_held3 (fun W => W.cell? ⟨ab, 1, none⟩ = some (.int .i64 xi) ∧ W.cell? ⟨ab, 3, none⟩ = some (.string xs)) (first | exact ⟨y2, y4⟩ | exact ⟨(actD_cells (H7.of_eq (show _ = ((pts ab (.cells (actD xk xi xd xs) 34 (0, 0))) * (IsPf q p d1 * (IsGf g r d1 * F))) from by ac_rfl))).2.2.1, (actD_cells (H7.of_eq (show _ = ((pts ab (.cells (actD xk xi xd xs) 34 (0, 0))) * (IsPf q p d1 * (IsGf g r d1 * F))) from by ac_rfl))).2.2.2.2⟩ | exact ⟨(actD_cells (H6.of_eq (show _ = ((pts ab (.cells (actD xk xi xd xs) 34 (0, 0))) * (IsPf q p d1 * (IsGf g r d1 * F))) from by ac_rfl))).2.2.1, (actD_cells (H6.of_eq (show _ = ((pts ab (.cells (actD xk xi xd xs) 34 (0, 0))) * (IsPf q p d1 * (IsGf g r d1 * F))) from by ac_rfl))).2.2.2.2⟩ | exact ⟨(actD_cells (H5.of_eq (show _ = ((pts ab (.cells (actD xk xi xd xs) 34 (0, 0))) * (IsPf q p d1 * (IsGf g r d1 * F))) from by ac_rfl))).2.2.1, (actD_cells (H5.of_eq (show _ = ((pts ab (.cells (actD xk xi xd xs) 34 (0, 0))) * (IsPf q p d1 * (IsGf g r d1 * F))) from by ac_rfl))).2.2.2.2⟩ | exact ⟨(actD_cells (H4.of_eq (show _ = ((pts ab (.cells (actD xk xi xd xs) 34 (0, 0))) * (IsPf q p d1 * (IsGf g r d * F))) from by ac_rfl))).2.2.1, (actD_cells (H4.of_eq (show _ = ((pts ab (.cells (actD xk xi xd xs) 34 (0, 0))) * (IsPf q p d1 * (IsGf g r d * F))) from by ac_rfl))).2.2.2.2⟩)
              (first | (go_at_call 10; with_reducible refine FU.out _ _ ?_) | (go_at_call 11; with_reducible refine pf_put Hd FD.out.ok (by have := FD.out.writes; omega) (by have := FD.out.pend; omega) xi S (by have := zS.out; omega) ?_; rw [← hev.out, ← hd1.out]; intro w4 H4 I4) | (go_at_call 23; with_reducible refine gf_putslot (H4.of_eq (show _ = (IsGf g r d * ((pts ab (.cells (actD xk xi xd xs) 34 (0, 0))) * (IsPf q p d1 * F))) from by ac_rfl)) FD.out.ok (by have := FD.out.writes; omega) (by have := FD.out.pend; omega) xi S (by have := zS.out; omega) ?_; rw [← hev.out, ← hd1.out]; intro w5 H5 I5) | (go_at_call 11; with_reducible refine pf_put (H5.of_eq (show _ = (IsPf q p d1 * ((pts ab (.cells (actD xk xi xd xs) 34 (0, 0))) * (IsGf g r d1 * F))) from by ac_rfl)) F1.out.ok (by have := F1.out.writes; omega) (by have := F1.out.pend; omega) xi ⟨#[115, 104, 111, 114, 116]⟩ (by decide) ?_; rw [← heh.out, SH.out]; intro w6 H6 I6) | (go_at_call 23; with_reducible refine gf_putslot (H6.of_eq (show _ = (IsGf g r d1 * ((pts ab (.cells (actD xk xi xd xs) 34 (0, 0))) * (IsPf q p d1 * F))) from by ac_rfl)) F1.out.ok (by have := F1.out.writes; omega) (by have := F1.out.pend; omega) xi ⟨#[115, 104, 111, 114, 116]⟩ (by decide) ?_; rw [← heh.out, SH.out]; intro wz H7 I7))
            have H8 := H7.of_eq (show _ = ((pts ab (.cells (actD xk xi xd xs) 34 (0, 0))) * (IsPf q p d1 * (IsGf g r d1 * F))) from by ac_rfl)
            have J8 := (((Ia.drew.trans I4).trans I5).trans I6).trans I7
            clear y0 y1 y2 y3 y4 Hd H4 H5 H6 H7 I4 I5 I6 I7 Ha Ia hev heh FU
            go_wp2_with fail
            go_meet
            case rel => exact ⟨d1, F1.out, H8.right, J8⟩
        by_cases e5 : xk.tmod 8 = 5
        · as_aux_lemma =>
            have tt0 : (xk.tmod 8 == 0) = false := by simp; omega
            have tt1 : (xk.tmod 8 == 1) = false := by simp; omega
            have tt2 : (xk.tmod 8 == 2) = false := by simp; omega
            have tt3 : (xk.tmod 8 == 3) = false := by simp; omega
            have tt4 : (xk.tmod 8 == 4) = false := by simp; omega
            have tt5 : (xk.tmod 8 == 5) = true := by simp; omega
            clear e0 e1 e2 e3 e4 e5
            obtain ⟨y0, y1, y2, y3, y4⟩ := actD_cells Ha
            go_wp2_with fail
            have Hp : Sat (IsPf q p d * ((pts ab (.cells (actD xk xi xd xs) 34 (0, 0))) * (IsGf g r d * F))) wa := Ha.of_eq (by ac_rfl)
            refine break_any (pf_disk Hp) xi ni0 ni1 ?_
            intro w4 H4 I4
            have H4' : Sat (IsGf g r d * ((pts ab (.cells (actD xk xi xd xs) 34 (0, 0))) * (IsPf q p (d.brk xi) * F))) w4 := (pf_back H4).of_eq (by ac_rfl)
            have J4 := Ia.trans I4
            clear Hp Ha Ia I4 H4 y0 y1 y2 y3 y4
            obtain ⟨y0, y1, y2, y3, y4⟩ := actD_cells (H4'.of_eq (show _ = ((pts ab (.cells (actD xk xi xd xs) 34 (0, 0))) * (IsPf q p (d.brk xi) * (IsGf g r d * F))) from by ac_rfl))
            go_wp2_with fail
            refine rf_stop (gf_disk H4') xi ni0 ni1 ?_
            intro wz H6 I6
            clear y0 y1 y2 y3 y4
            go_wp2_with fail
            go_meet
            case rel => exact ⟨d.brk xi, ((FD.out.brk' xi ni1).mono (show k ≤ k + 1 from by omega)), ((gf_back H6).of_eq (show _ = ((pts ab (.cells (actD xk xi xd xs) 34 (0, 0))) * (IsPf q p (d.brk xi) * (IsGf g r (d.brk xi) * F))) from by ac_rfl)).right, J4.trans I6⟩
        by_cases e6 : xk.tmod 8 = 6
        · as_aux_lemma =>
            have tt0 : (xk.tmod 8 == 0) = false := by simp; omega
            have tt1 : (xk.tmod 8 == 1) = false := by simp; omega
            have tt2 : (xk.tmod 8 == 2) = false := by simp; omega
            have tt3 : (xk.tmod 8 == 3) = false := by simp; omega
            have tt4 : (xk.tmod 8 == 4) = false := by simp; omega
            have tt5 : (xk.tmod 8 == 5) = false := by simp; omega
            have tt6 : (xk.tmod 8 == 6) = true := by simp; omega
            clear e0 e1 e2 e3 e4 e5 e6
            go_wp2_with fail
            have Hp : Sat (IsGf g r d * ((pts ab (.cells (actD xk xi xd xs) 34 (0, 0))) * (IsPf q p d * F))) wa := Ha.of_eq (by ac_rfl)
            obtain ⟨sa, sc, wa', wc, HM0⟩ := gf_pend (gf_disk Hp)
            have hpl : (d.pend.length : Int) ≤ 1000000 := by have := FD.out.pend; omega
            have HR0 : Sat (Row 3 1 (.slice none 0 0) 0 ((upto 0).map (Value.int .i64)) * ((RfMid r (.slice sa d.sure.length sc) (.slice wa' d.pend.length wc) d (.slice sa d.sure.length sc) d.sure (.slice wa' d.pend.length wc) d.pend) * ((pts g (.cells #[.pointer (some ⟨r, 0, none⟩)] 53 (0, 0))) * ((pts ab (.cells (actD xk xi xd xs) 34 (0, 0))) * (IsPf q p d * F))))) wa := row_nil _ _ _ _ HM0
            obtain ⟨i0, hi, hz0, hz1, hz2⟩ := info_parts Tryd.info3
            clear Hp Ha HM0
            go_wp2_with fail
            go_loopw [20, 21] (fun v x wr => ∃ j : Nat, j ≤ d.pend.length ∧ x = .int .i64 (j : Int) ∧ Sat (Row 3 1 v j ((upto j).map (Value.int .i64)) * ((RfMid r (.slice sa d.sure.length sc) (.slice wa' d.pend.length wc) d (.slice sa d.sure.length sc) d.sure (.slice wa' d.pend.length wc) d.pend) * ((pts g (.cells #[.pointer (some ⟨r, 0, none⟩)] 53 (0, 0))) * ((pts ab (.cells (actD xk xi xd xs) 34 (0, 0))) * (IsPf q p d * F))))) wr ∧ Io w wr) (fun _ x _ => d.pend.length - (intOf x).toNat)
            case atStart => exact ⟨0, by omega, rfl, HR0, Ia⟩
            case round =>
              obtain ⟨j, hj, rfl, Hr, Ir⟩ := hrel
              clear HR0 Ia
              have S := rf_seen Hr.right
              have lr := S.lp
              have b1 := S.c1
              clear S
              by_cases hj2 : j < d.pend.length
              · have hj3 : (j : Int) < (d.pend.length : Int) := by omega
                have us := Lib.hid (upto_succ j)
                go_wp2_with (at_builtin; refine wpList_append_new rfl (.tmp 190) (.tmp 192) 55 rfl 3 Tryd.underlying55 hi hz0 hz1 hz2 rfl rfl Hr 1 1 [.int .i64 (j : Int)] rfl rfl rfl rfl (by omega) (by omega) (by omega) ?_; intro g1 k1 w6 H7 I7)
                go_roundw
                case rel => exact ⟨j + 1, by omega, by go_num, by rw [us.out]; exact H7, Ir.trans I7⟩
                case measure => simp [intOf]; omega
              · obtain rfl : j = d.pend.length := by omega
                have hj3 : ¬ (d.pend.length : Int) < (d.pend.length : Int) := by omega
                obtain ⟨ka, kc, rfl, _⟩ := row_any Hr
                have RI : Hid (∀ (X : Asn) (W : World), Sat (Row 3 1 (.slice ka d.pend.length kc) d.pend.length ((upto d.pend.length).map (Value.int .i64)) * X) W → ReadsInts (Row 3 1 (.slice ka d.pend.length kc) d.pend.length ((upto d.pend.length).map (Value.int .i64)) * X) (.slice ka d.pend.length kc) (upto d.pend.length)) := Lib.hid (fun X W hX => reads_row hX (by omega))
                have Hg := gf_back (isRf_shut (Hr.of_eq (show _ = (RfMid r (.slice sa d.sure.length sc) (.slice wa' d.pend.length wc) d (.slice sa d.sure.length sc) d.sure (.slice wa' d.pend.length wc) d.pend) * ((pts g (.cells #[.pointer (some ⟨r, 0, none⟩)] 53 (0, 0))) * (Row 3 1 (.slice ka d.pend.length kc) d.pend.length ((upto d.pend.length).map (Value.int .i64)) * ((pts ab (.cells (actD xk xi xd xs) 34 (0, 0))) * (IsPf q p d * F)))) from by ac_rfl)))
                have Hp2 : Sat (IsPf q p d * (Row 3 1 (.slice ka d.pend.length kc) d.pend.length ((upto d.pend.length).map (Value.int .i64)) * ((pts ab (.cells (actD xk xi xd xs) 34 (0, 0))) * (IsGf g r d * F)))) wr := Hg.of_eq (by ac_rfl)
                have HD := (pf_disk Hp2).of_eq (show _ = IsDk p d * (Row 3 1 (.slice ka d.pend.length kc) d.pend.length ((upto d.pend.length).map (Value.int .i64)) * (pts q (.cells #[.pointer (some ⟨p, 0, none⟩)] 40 (0, 0)) * ((pts ab (.cells (actD xk xi xd xs) 34 (0, 0))) * (IsGf g r d * F)))) from by ac_rfl)
                have RI1 := Lib.hid (RI.out _ _ HD.right)
                clear Hr Hg Hp2
                go_wp2_with fail
                clear b1 lr
                refine crash_any HD RI1.out FD.out.ok (by have := FD.out.pend; omega) (-1) 0 ?_
                intro w4 H4 I4
                have H4' : Sat (IsRf r d * (Row 3 1 (.slice ka d.pend.length kc) d.pend.length ((upto d.pend.length).map (Value.int .i64)) * ((pts g (.cells #[.pointer (some ⟨r, 0, none⟩)] 53 (0, 0))) * ((pts ab (.cells (actD xk xi xd xs) 34 (0, 0))) * (IsPf q p (d.crash (upto d.pend.length) (-1) 0) * F))))) w4 := H4.of_eq (by unfold IsGf IsPf; ac_rfl)
                have RI2 := Lib.hid (RI.out _ _ H4'.right)
                have J4 := Ir.trans I4
                clear HD RI1 H4 I4 Ir
                go_wp2_with fail
                refine rf_crash H4' RI2.out FD.out.ok (by have := FD.out.pend; omega) (-1) 0 ?_
                intro wz H6 I6
                have H7 : Sat (Row 3 1 (.slice ka d.pend.length kc) d.pend.length ((upto d.pend.length).map (Value.int .i64)) * ((pts ab (.cells (actD xk xi xd xs) 34 (0, 0))) * (IsPf q p (d.crash (upto d.pend.length) (-1) 0) * (IsGf g r (d.crash (upto d.pend.length) (-1) 0) * F)))) wz := H6.of_eq (by unfold IsGf; ac_rfl)
                have FC := Lib.hid ((FD.out.crash (upto d.pend.length) (-1) 0).mono (show k ≤ k + 1 from by omega))
                clear H4' RI2 RI H6
                generalize upto d.pend.length = ul at *
                go_wp2_with fail
                go_meet
                case rel => exact ⟨d.crash ul (-1) 0, FC.out, H7.right.right, J4.trans I6⟩
        by_cases e7 : xk.tmod 8 = 7
        · as_aux_lemma =>
            have tt0 : (xk.tmod 8 == 0) = false := by simp; omega
            have tt1 : (xk.tmod 8 == 1) = false := by simp; omega
            have tt2 : (xk.tmod 8 == 2) = false := by simp; omega
            have tt3 : (xk.tmod 8 == 3) = false := by simp; omega
            have tt4 : (xk.tmod 8 == 4) = false := by simp; omega
            have tt5 : (xk.tmod 8 == 5) = false := by simp; omega
            have tt6 : (xk.tmod 8 == 6) = false := by simp; omega
            have tt7 : (xk.tmod 8 == 7) = true := by simp; omega
            clear e0 e1 e2 e3 e4 e5 e6 e7
            go_wp2_with fail
            obtain ⟨S, eS⟩ : ∃ S, Hid (S = fullS xs) := ⟨_, Lib.hid rfl⟩
            have zS : Hid (S.size = 256) := Lib.hid (by rw [eS.out]; exact fullS_size xs)
            have FU : Hid (∀ (W : World) (Q : Ending → World → Prop), Q (.returned (.string S)) W → Calls Tryd.prog 10 #[.string xs] W Q) := Lib.hid (fun W Q hq => full_any xs XS.out (by rw [← eS.out]; exact hq))
            clear eS
            have Hd : Sat (IsPf q p d * ((pts ab (.cells (actD xk xi xd xs) 34 (0, 0))) * (IsGf g r d * F))) wa.drew := (Ha.of_eq (by ac_rfl)).drew
            obtain ⟨y0, y1, y2, y3, y4⟩ := actD_cells (Hd.of_eq (show _ = ((pts ab (.cells (actD xk xi xd xs) 34 (0, 0))) * (IsPf q p d * (IsGf g r d * F))) from by ac_rfl))
            obtain ⟨ev, hev⟩ : ∃ x, Hid (x = d.writeE xi S) := ⟨_, Lib.hid rfl⟩
            obtain ⟨d1, hd1⟩ : ∃ x, Hid (x = d.write xi S) := ⟨_, Lib.hid rfl⟩
            have F1 : Hid (d1.Fit N (k + 1)) := Lib.hid (by rw [hd1.out]; exact FD.out.write xi S)
            go_wp2_with fail
            go_region_held3 (fun W => W.cell? ⟨ab, 1, none⟩ = some (.int .i64 xi) ∧ W.cell? ⟨ab, 3, none⟩ = some (.string xs)) (first | exact ⟨y2, y4⟩ | exact ⟨(actD_cells ((gf_back H5).of_eq (show _ = ((pts ab (.cells (actD xk xi xd xs) 34 (0, 0))) * (IsPf q p d1 * (IsGf g r d1 * F))) from by ac_rfl))).2.2.1, (actD_cells ((gf_back H5).of_eq (show _ = ((pts ab (.cells (actD xk xi xd xs) 34 (0, 0))) * (IsPf q p d1 * (IsGf g r d1 * F))) from by ac_rfl))).2.2.2.2⟩ | exact ⟨(actD_cells ((pf_back H4).of_eq (show _ = ((pts ab (.cells (actD xk xi xd xs) 34 (0, 0))) * (IsPf q p d1 * (IsGf g r d * F))) from by ac_rfl))).2.2.1, (actD_cells ((pf_back H4).of_eq (show _ = ((pts ab (.cells (actD xk xi xd xs) 34 (0, 0))) * (IsPf q p d1 * (IsGf g r d * F))) from by ac_rfl))).2.2.2.2⟩)
              (first | (go_at_call 10; with_reducible refine FU.out _ _ ?_) | (go_at_call 27; refine write_any (pf_disk Hd) FD.out.ok (by have := FD.out.writes; omega) (by have := FD.out.pend; omega) xi S (by have := zS.out; omega) ?_; rw [← hev.out, ← hd1.out]; intro w4 H4 I4) | (go_at_call 28; refine rf_put (gf_disk ((pf_back H4).of_eq (show _ = (IsGf g r d * ((pts ab (.cells (actD xk xi xd xs) 34 (0, 0))) * (IsPf q p d1 * F))) from by ac_rfl))) FD.out.ok (by have := FD.out.writes; omega) (by have := FD.out.pend; omega) xi S (by have := zS.out; omega) ?_; rw [← hev.out, ← hd1.out]; intro wz H5 I5))
            have H8 := (gf_back H5).of_eq (show _ = ((pts ab (.cells (actD xk xi xd xs) 34 (0, 0))) * (IsPf q p d1 * (IsGf g r d1 * F))) from by ac_rfl)
            have J8 := (Ia.drew.trans I4).trans I5
            clear y0 y1 y2 y3 y4 Hd H4 H5 I4 I5 Ha Ia hev FU
            go_wp2_with fail
            go_meet
            case rel => exact ⟨d1, F1.out, H8.right, J8⟩
        as_aux_lemma =>
          have tt0 : (xk.tmod 8 == 0) = false := by simp; omega
          have tt1 : (xk.tmod 8 == 1) = false := by simp; omega
          have tt2 : (xk.tmod 8 == 2) = false := by simp; omega
          have tt3 : (xk.tmod 8 == 3) = false := by simp; omega
          have tt4 : (xk.tmod 8 == 4) = false := by simp; omega
          have tt5 : (xk.tmod 8 == 5) = false := by simp; omega
          have tt6 : (xk.tmod 8 == 6) = false := by simp; omega
          have tt7 : (xk.tmod 8 == 7) = false := by simp; omega
          clear e0 e1 e2 e3 e4 e5 e6 e7
          go_wp2_with fail
          go_meet
          case rel => exact ⟨d, (FD.out.mono (show k ≤ k + 1 from by omega)), Ha.right, Ia⟩
      case rest =>
        obtain ⟨dz, fz, Hz, Jz⟩ := hcut
        have FZ := Lib.hid fz
        clear fz
        have hm : dz.sure.length ≤ 16384 := by have := FZ.out.len; have := HM.out; omega
        obtain ⟨lr, sa, sc, b0⟩ := gf_sure (gf_disk (Hz.of_eq (show _ = IsGf g r dz * (IsPf q p dz * F) from by ac_rfl)))
        have qs : ∀ n, Calls Tryd.prog 29 #[.pointer (some ⟨q, 0, none⟩)] (wc.drewN n) fun e w' => e = .returned (.int .i64 (max (dz.sure.length : Int) 2)) ∧ w' = wc.drewN n :=
          fun n => pf_room (R := fun e w' => e = .returned (.int .i64 (max (dz.sure.length : Int) 2)) ∧ w' = wc.drewN n) (Hz.drewN n) hm ⟨rfl, rfl⟩
        have QS := Lib.hid qs
        have hm' : (dz.sure.length : Int) ≤ 16384 := by omega
        clear qs hm
        go_wp2_with fail
        go_quiet ((go_at_call 29; with_reducible exact Calls.quiet_of_same (QS.out _)))
        go_wp2_with fail
        go_roundw
        case rel => exact ⟨k + 1, dz, by omega, by go_num, FZ.out, Hz.drewN _, Jz.drewN _⟩
        case measure => simp [intOf]; omega
    · obtain rfl : k = l.length := by omega
      have hge1 : ¬ (l.length : Int) < (l.length : Int) := by omega
      have fin := HH.out _ Hk.right.right Ik
      clear HH Hk AL NT
      go_wp2_with fail
      exact fin
end
end Go.Proofs.YtpccdadobnhpkaaDoor
