/-
  The statement DiskApart, walked: it answers true. It proves the walk alone; the row is closed elsewhere.
-/
import Derived.Test.YtnkekdeicgmelaaLast
namespace Go.Proofs.Ytnkekdeicgmelaa
open Go.RowKit
set_option linter.unusedSimpArgs false
set_option linter.unusedVariables false

/-- What act k holds, wherever the arguments are still held. -/
theorem acts_at {F : Asn} {a : Option Addr} {n c : Nat} {l : List Act4} (hl : ReadsActs F (.slice a n c) l) (k : Nat) (hk : k < l.length) : ∃ b off, a = some ⟨b, off, none⟩ ∧ ∀ w, Sat F w →
    w.cell? ⟨b, off + k * 6, none⟩ = some (.int .i64 l[k].K) ∧ w.cell? ⟨b, off + k * 6 + 1, none⟩ = some (.int .i64 l[k].I) ∧ w.cell? ⟨b, off + k * 6 + 2, none⟩ = some (.int .u8 (l[k].B.toNat : Int)) := by
  obtain ⟨⟨a', c', h1, _, h3⟩, _, _⟩ := hl
  cases h1
  rcases h3 with h3 | ⟨b, off, e, h3⟩
  · omega
  · exact ⟨b, off, e, fun w hw => by obtain ⟨q0, q1, q2, _⟩ := h3 w hw k hk; exact ⟨q0, q1, q2⟩⟩

theorem acts_len {F : Asn} {v : Value} {l : List Act4} (hl : ReadsActs F v l) : ∃ a c, v = .slice a l.length c := by
  obtain ⟨⟨a, c, h1, _, _⟩, _, _⟩ := hl
  exact ⟨a, c, h1⟩

theorem light_len {n : Int} {l : List Act4} (h : lightB n l = true) : l.length ≤ 60 := by
  simp [lightB] at h
  exact h.1.2

section
variable {w : World} {R : Ending → World → Prop}

set_option maxRecDepth 100000 in
set_option maxHeartbeats 8000000 in
theorem apart_walk {F : Asn} {v v' : Value} {l m : List Act4} (hl : ReadsActs F v l) (hm : ReadsActs F v' m) (H : Sat F w)
    (h : ∀ w', Sat F w' → Io w w' → R (.returned (.bool true)) w') :
    Calls Try.prog 4 #[v, v'] w R := by
  have HH : Hid (∀ w', Sat F w' → Io w w' → R (.returned (.bool true)) w') := h
  clear h
  obtain ⟨a, c, rfl⟩ := acts_len hl
  obtain ⟨a', c', rfl⟩ := acts_len hm
  have out : lightB 4 l = false ∨ lightB 4 m = false ∨ (lightB 4 l = true ∧ lightB 4 m = true) := by
    cases lightB 4 l <;> cases lightB 4 m <;> simp
  rcases out with hb | hb | ⟨hb, hb2⟩
  · have HB := Lib.hid hb
    clear hb
    cases hx : lightB 4 m with
    | false =>
      have HX := Lib.hid hx
      clear hx
      go_enter Try.func4, Try.ntmps4
      go_wp2_with fail
      refine works_any H ?_
      intro w1 H1 I1
      go_wp2_with fail
      refine light_any 4 hl H1 ?_
      rw [HB.out]
      go_wp2_with fail
      refine light_any 4 hm H1 ?_
      rw [HX.out]
      go_wp2_with fail
      exact HH.out w1 H1 I1
    | true =>
      have HX := Lib.hid hx
      clear hx
      go_enter Try.func4, Try.ntmps4
      go_wp2_with fail
      refine works_any H ?_
      intro w1 H1 I1
      go_wp2_with fail
      refine light_any 4 hl H1 ?_
      rw [HB.out]
      go_wp2_with fail
      refine light_any 4 hm H1 ?_
      rw [HX.out]
      go_wp2_with fail
      exact HH.out w1 H1 I1
  · have HB := Lib.hid hb
    clear hb
    cases hx : lightB 4 l with
    | false =>
      have HX := Lib.hid hx
      clear hx
      go_enter Try.func4, Try.ntmps4
      go_wp2_with fail
      refine works_any H ?_
      intro w1 H1 I1
      go_wp2_with fail
      refine light_any 4 hl H1 ?_
      rw [HX.out]
      go_wp2_with fail
      refine light_any 4 hm H1 ?_
      rw [HB.out]
      go_wp2_with fail
      exact HH.out w1 H1 I1
    | true =>
      have HX := Lib.hid hx
      clear hx
      go_enter Try.func4, Try.ntmps4
      go_wp2_with fail
      refine works_any H ?_
      intro w1 H1 I1
      go_wp2_with fail
      refine light_any 4 hl H1 ?_
      rw [HX.out]
      go_wp2_with fail
      refine light_any 4 hm H1 ?_
      rw [HB.out]
      go_wp2_with fail
      exact HH.out w1 H1 I1
  · have hlen : (l.length : Int) ≤ 60 := by have := light_len hb; omega
    have hlen2 : (m.length : Int) ≤ 60 := by have := light_len hb2; omega
    have HB := Lib.hid hb
    have HX := Lib.hid hb2
    have AL := Lib.hid (acts_at hl)
    have AM := Lib.hid (acts_at hm)
    clear hb hb2
    go_enter Try.func4, Try.ntmps4
    go_wp2_with fail
    refine works_any H ?_
    intro w1 H1 I1
    go_wp2_with fail
    refine light_any 4 hl H1 ?_
    rw [HB.out]
    go_wp2_with fail
    refine light_any 4 hm H1 ?_
    rw [HX.out]
    go_wp2_with fail
    refine new_any 4 (by omega) (by omega) H1 ?_
    rw [show (min (max 4 0) 16384 : Int).toNat = 4 from rfl]
    intro p w2 H2 I2
    go_wp2_with fail
    refine new_any 4 (by omega) (by omega) H2 ?_
    rw [show (min (max 4 0) 16384 : Int).toNat = 4 from rfl]
    intro q w3 H3 I3
    go_wp2_with fail
    refine new_any 4 (by omega) (by omega) H3 ?_
    rw [show (min (max 4 0) 16384 : Int).toNat = 4 from rfl]
    intro r w4 H4 I4
    have H5 : Sat (IsDk p (Dk.new 4) * (IsDk q (Dk.new 4) * (IsDk r (Dk.new 4) * F))) w4 := H4.of_eq (by ac_rfl)
    have I := ((I1.trans I2).trans I3).trans I4
    clear I1 I2 I3 I4 H1 H2 H3 H4 hl hm
    go_wp2_with fail
    go_loopw [11] (fun x wr => ∃ (k : Nat) (d e : Dk), k ≤ 60 ∧ x = .int .i64 (k : Int) ∧ d.Fit 4 k ∧ e.Fit 4 k ∧ Sat (IsDk p d * (IsDk q e * (IsDk r d * F))) wr ∧ Io w wr) (fun x _ => 61 - (intOf x).toNat)
    case atStart => exact ⟨0, _, _, by omega, rfl, Dk.Fit.new 4 (by omega), Dk.Fit.new 4 (by omega), H5, I⟩
    case round =>
      obtain ⟨k, d, e, hk, rfl, fd, fe, Hk, Ik⟩ := hrel
      clear H5 I
      have FD := Lib.hid fd
      have FE := Lib.hid fe
      clear fd fe
      by_cases hlt : k < l.length
      · by_cases hlt2 : k < m.length
        · have hlti : (k : Int) < (l.length : Int) := by omega
          obtain ⟨b, off, rfl, hc⟩ := AL.out k hlt
          generalize l[k].I = xi at *
          generalize l[k].B = xb at *
          generalize l[k].K = xk at *
          have HC := Lib.hid hc
          clear hc
          have Hd := Hk.drew
          obtain ⟨_, q1, q2⟩ := HC.out _ Hd.right.right.right
          go_wp2_with fail
          go_region_held3 (fun W => W.cell? ⟨b, off + k * 6 + 1, none⟩ = some (.int .i64 xi) ∧ W.cell? ⟨b, off + k * 6 + 2, none⟩ = some (.int .u8 (xb.toNat : Int))) (first | exact ⟨q1, q2⟩ | exact (HC.out _ H3.right.right.right).2 | exact (HC.out _ H4.right.right.right).2)
            (first | (go_at_call 14; refine page_any Hd xb ?_; intro w3 H3 I3) | (go_at_call 13; refine write_any H3 FD.out.ok (by have := FD.out.writes; omega) (by have := FD.out.pend; omega) xi (pageS xb) (by have := pageS_size xb; omega) ?_; intro w4 H4 I4))
          clear q1 q2
          go_wp2_with fail
          have H4' : Sat (IsDk r d * (IsDk p (d.write xi (pageS xb)) * (IsDk q e * F))) w4.drew := (H4.of_eq (by ac_rfl)).drew
          obtain ⟨_, q1, q2⟩ := HC.out _ H4'.right.right.right
          go_region_held3 (fun W => W.cell? ⟨b, off + k * 6 + 1, none⟩ = some (.int .i64 xi) ∧ W.cell? ⟨b, off + k * 6 + 2, none⟩ = some (.int .u8 (xb.toNat : Int))) (first | exact ⟨q1, q2⟩ | exact (HC.out _ H5.right.right.right).2 | exact (HC.out _ H6.right.right.right).2)
            (first | (go_at_call 14; refine page_any H4' xb ?_; intro w5 H5 I5) | (go_at_call 13; refine write_any H5 FD.out.ok (by have := FD.out.writes; omega) (by have := FD.out.pend; omega) xi (pageS xb) (by have := pageS_size xb; omega) ?_; intro w6 H6 I6))
          clear q1 q2
          have H7 : Sat (IsDk q e * (IsDk p (d.write xi (pageS xb)) * (IsDk r (d.write xi (pageS xb)) * F))) w6 := H6.of_eq (by ac_rfl)
          have J := ((((Ik.drew.trans I3).trans I4).drew).trans I5).trans I6
          have fd' := FD.out.write xi (pageS xb)
          have FD' := Lib.hid fd'
          clear H3 H4 H5 H6 H4' I3 I4 I5 I6 Hd Hk Ik fd'
          generalize d.write xi (pageS xb) = d' at *
          generalize d.writeE xi (pageS xb) = ev at *
          have hlti2 : (k : Int) < (m.length : Int) := by omega
          obtain ⟨b2, off2, rfl, hc⟩ := AM.out k hlt2
          generalize m[k].I = xi2 at *
          generalize m[k].B = xb2 at *
          generalize m[k].K = xk2 at *
          have HC2 := Lib.hid hc
          clear hc
          go_wp2_with fail
          have Hd := H7.drew
          obtain ⟨_, q1, q2⟩ := HC2.out _ Hd.right.right.right
          go_region_held3 (fun W => W.cell? ⟨b2, off2 + k * 6 + 1, none⟩ = some (.int .i64 xi2) ∧ W.cell? ⟨b2, off2 + k * 6 + 2, none⟩ = some (.int .u8 (xb2.toNat : Int))) (first | exact ⟨q1, q2⟩ | exact (HC2.out _ H8.right.right.right).2 | exact (HC2.out _ H9.right.right.right).2)
            (first | (go_at_call 14; refine page_any Hd xb2 ?_; intro w8 H8 I8) | (go_at_call 13; refine write_any H8 FE.out.ok (by have := FE.out.writes; omega) (by have := FE.out.pend; omega) xi2 (pageS xb2) (by have := pageS_size xb2; omega) ?_; intro w9 H9 I9))
          clear q1 q2
          have J2 := (J.drew.trans I8).trans I9
          have fe' := FE.out.write xi2 (pageS xb2)
          have FE' := Lib.hid fe'
          clear H8 I8 I9 Hd fe' J H7
          have q0 := (HC2.out _ H9.right.right.right).1
          generalize e.write xi2 (pageS xb2) = e' at *
          by_cases hK : xk2.tmod 3 = 0
          · have hK1 : (xk2.tmod 3 == 0) = true := by simpa using hK
            clear hK
            go_wp2_with fail
            refine sync_any H9 FE'.out.ok (by have := FE'.out.pend; omega) ?_
            intro w10 H10 I10
            go_wp2_with fail
            go_roundw
            case rel => exact ⟨k + 1, d', e'.sync, by omega, by go_num, FD'.out, FE'.out.sync, H10.of_eq (by ac_rfl), J2.trans I10⟩
            case measure => simp [intOf]; omega
          · have hK1 : (xk2.tmod 3 == 0) = false := by simpa using hK
            clear hK
            go_wp2_with fail
            go_roundw
            case rel => exact ⟨k + 1, d', e', by omega, by go_num, FD'.out, FE'.out, H9.of_eq (by ac_rfl), J2⟩
            case measure => simp [intOf]; omega
        · have hlti : (k : Int) < (l.length : Int) := by omega
          obtain ⟨b, off, rfl, hc⟩ := AL.out k hlt
          generalize l[k].I = xi at *
          generalize l[k].B = xb at *
          generalize l[k].K = xk at *
          have HC := Lib.hid hc
          clear hc
          have Hd := Hk.drew
          obtain ⟨_, q1, q2⟩ := HC.out _ Hd.right.right.right
          go_wp2_with fail
          go_region_held3 (fun W => W.cell? ⟨b, off + k * 6 + 1, none⟩ = some (.int .i64 xi) ∧ W.cell? ⟨b, off + k * 6 + 2, none⟩ = some (.int .u8 (xb.toNat : Int))) (first | exact ⟨q1, q2⟩ | exact (HC.out _ H3.right.right.right).2 | exact (HC.out _ H4.right.right.right).2)
            (first | (go_at_call 14; refine page_any Hd xb ?_; intro w3 H3 I3) | (go_at_call 13; refine write_any H3 FD.out.ok (by have := FD.out.writes; omega) (by have := FD.out.pend; omega) xi (pageS xb) (by have := pageS_size xb; omega) ?_; intro w4 H4 I4))
          clear q1 q2
          go_wp2_with fail
          have H4' : Sat (IsDk r d * (IsDk p (d.write xi (pageS xb)) * (IsDk q e * F))) w4.drew := (H4.of_eq (by ac_rfl)).drew
          obtain ⟨_, q1, q2⟩ := HC.out _ H4'.right.right.right
          go_region_held3 (fun W => W.cell? ⟨b, off + k * 6 + 1, none⟩ = some (.int .i64 xi) ∧ W.cell? ⟨b, off + k * 6 + 2, none⟩ = some (.int .u8 (xb.toNat : Int))) (first | exact ⟨q1, q2⟩ | exact (HC.out _ H5.right.right.right).2 | exact (HC.out _ H6.right.right.right).2)
            (first | (go_at_call 14; refine page_any H4' xb ?_; intro w5 H5 I5) | (go_at_call 13; refine write_any H5 FD.out.ok (by have := FD.out.writes; omega) (by have := FD.out.pend; omega) xi (pageS xb) (by have := pageS_size xb; omega) ?_; intro w6 H6 I6))
          clear q1 q2
          have H7 : Sat (IsDk q e * (IsDk p (d.write xi (pageS xb)) * (IsDk r (d.write xi (pageS xb)) * F))) w6 := H6.of_eq (by ac_rfl)
          have J := ((((Ik.drew.trans I3).trans I4).drew).trans I5).trans I6
          have fd' := FD.out.write xi (pageS xb)
          have FD' := Lib.hid fd'
          clear H3 H4 H5 H6 H4' I3 I4 I5 I6 Hd Hk Ik fd'
          generalize d.write xi (pageS xb) = d' at *
          generalize d.writeE xi (pageS xb) = ev at *
          have hge2 : ¬ (k : Int) < (m.length : Int) := by omega
          go_wp2_with fail
          go_roundw
          case rel => exact ⟨k + 1, d', e, by omega, by go_num, FD'.out, FE.out.mono (by omega), H7.of_eq (by ac_rfl), J⟩
          case measure => simp [intOf]; omega
      · by_cases hlt2 : k < m.length
        · have hge1 : ¬ (k : Int) < (l.length : Int) := by omega
          have H7 : Sat (IsDk q e * (IsDk p d * (IsDk r d * F))) wr := Hk.of_eq (by ac_rfl)
          have J := Ik
          clear Hk Ik
          have hlti2 : (k : Int) < (m.length : Int) := by omega
          obtain ⟨b2, off2, rfl, hc⟩ := AM.out k hlt2
          generalize m[k].I = xi2 at *
          generalize m[k].B = xb2 at *
          generalize m[k].K = xk2 at *
          have HC2 := Lib.hid hc
          clear hc
          go_wp2_with fail
          have Hd := H7.drew
          obtain ⟨_, q1, q2⟩ := HC2.out _ Hd.right.right.right
          go_region_held3 (fun W => W.cell? ⟨b2, off2 + k * 6 + 1, none⟩ = some (.int .i64 xi2) ∧ W.cell? ⟨b2, off2 + k * 6 + 2, none⟩ = some (.int .u8 (xb2.toNat : Int))) (first | exact ⟨q1, q2⟩ | exact (HC2.out _ H8.right.right.right).2 | exact (HC2.out _ H9.right.right.right).2)
            (first | (go_at_call 14; refine page_any Hd xb2 ?_; intro w8 H8 I8) | (go_at_call 13; refine write_any H8 FE.out.ok (by have := FE.out.writes; omega) (by have := FE.out.pend; omega) xi2 (pageS xb2) (by have := pageS_size xb2; omega) ?_; intro w9 H9 I9))
          clear q1 q2
          have J2 := (J.drew.trans I8).trans I9
          have fe' := FE.out.write xi2 (pageS xb2)
          have FE' := Lib.hid fe'
          clear H8 I8 I9 Hd fe' J H7
          have q0 := (HC2.out _ H9.right.right.right).1
          generalize e.write xi2 (pageS xb2) = e' at *
          by_cases hK : xk2.tmod 3 = 0
          · have hK1 : (xk2.tmod 3 == 0) = true := by simpa using hK
            clear hK
            go_wp2_with fail
            refine sync_any H9 FE'.out.ok (by have := FE'.out.pend; omega) ?_
            intro w10 H10 I10
            go_wp2_with fail
            go_roundw
            case rel => exact ⟨k + 1, d, e'.sync, by omega, by go_num, FD.out.mono (by omega), FE'.out.sync, H10.of_eq (by ac_rfl), J2.trans I10⟩
            case measure => simp [intOf]; omega
          · have hK1 : (xk2.tmod 3 == 0) = false := by simpa using hK
            clear hK
            go_wp2_with fail
            go_roundw
            case rel => exact ⟨k + 1, d, e', by omega, by go_num, FD.out.mono (by omega), FE'.out, H9.of_eq (by ac_rfl), J2⟩
            case measure => simp [intOf]; omega
        · clear AL AM
          have hge1 : ¬ (k : Int) < (l.length : Int) := by omega
          have hge2 : ¬ (k : Int) < (m.length : Int) := by omega
          go_wp2_with fail
          go_loopw [14] (fun x wr => ∃ (j : Nat) (d : Dk), j ≤ 4 ∧ x = .int .i64 (j : Int) ∧ d.Fit 4 (60 + j) ∧ Sat (IsDk p d * (IsDk q e * (IsDk r d * F))) wr ∧ Io w wr) (fun x _ => 4 - (intOf x).toNat)
          case atStart => exact ⟨0, d, by omega, rfl, FD.out.mono (by omega), Hk, Ik⟩
          case round =>
            obtain ⟨j, d, hj, rfl, fd, Hj, Ij⟩ := hrel
            have FD2 := Lib.hid fd
            clear fd Hk Ik FD
            by_cases hlt4 : (j : Int) < 4
            · go_wp2_with fail
              refine read_any Hj FD2.out.ok (by have := FD2.out.reads; omega) (j : Int) ?_
              intro w3 H3 I3
              go_wp2_with fail
              refine read_any (d := d) (F := IsDk p (d.read (j : Int)) * (IsDk q e * F)) (H3.of_eq (by ac_rfl)) FD2.out.ok (by have := FD2.out.reads; omega) (j : Int) ?_
              intro w4 H4 I4
              have fd' := FD2.out.read (j : Int)
              have FD' := Lib.hid fd'
              clear fd' H3 Hj
              generalize d.read (j : Int) = d' at *
              generalize d.readS (j : Int) = t at *
              generalize d.atE (j : Int) = ev at *
              go_wp2_with fail
              go_roundw
              case rel => exact ⟨j + 1, d', by omega, by go_num, FD'.out, H4.of_eq (by ac_rfl), (Ij.trans I3).trans I4⟩
              case measure => simp [intOf]; omega
            · have hp := FD2.out.pend
              have Hr : Sat (IsDk r d * (IsDk p d * (IsDk q e * F))) wr := Hj.of_eq (by ac_rfl)
              have HP := Lib.hid hp
              clear hp
              go_wp2_with fail
              refine dk_length Hj (by have := HP.out; omega) ?_
              go_wp2_with fail
              refine dk_length Hr (by have := HP.out; omega) ?_
              generalize (d.pend.length : Int) = n at *
              go_wp2_with fail
              refine dk_iswrites Hj ?_
              go_wp2_with fail
              refine dk_iswrites Hr ?_
              generalize d.writes = n2 at *
              go_wp2_with fail
              exact HH.out _ Hj.right.right.right Ij
end
end Go.Proofs.Ytnkekdeicgmelaa
