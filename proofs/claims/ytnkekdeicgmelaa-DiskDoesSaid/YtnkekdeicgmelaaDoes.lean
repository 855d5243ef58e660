/-
  The statement DiskDoes, walked: it answers true. It proves the walk alone; the row is closed elsewhere.
-/
import Derived.Test.YtnkekdeicgmelaaRefN
namespace Go.Proofs.Ytnkekdeicgmelaa
open Go.RowKit
set_option linter.unusedSimpArgs false
set_option linter.unusedVariables false

theorem Dk.Fit.brk {d : Dk} {m n : Nat} (h : d.Fit m n) (i : Int) (hi : i ≤ 9223372036854775807) : (d.brk i).Fit m n :=
  ⟨Dk.brk_ok' h.ok i hi, h.len, h.pend, h.writes, h.reads⟩

/-- An act's cells. -/
def actA (xk xi : Int) (xb : UInt8) (kv : Value) (xt xc : Int) : Array Value := #[.int .i64 xk, .int .i64 xi, .int .u8 (xb.toNat : Int), kv, .int .i64 xt, .int .i64 xc]

theorem act_cells {ab : Nat} {xk xi : Int} {xb : UInt8} {kv : Value} {xt xc : Int} {F : Asn} {w : World} (H : Sat (pts ab (.cells (actA xk xi xb kv xt xc) 31 (0, 0)) * F) w) :
    ab < w.heap.size ∧ w.cell? ⟨ab, 1, none⟩ = some (.int .i64 xi) ∧ w.cell? ⟨ab, 2, none⟩ = some (.int .u8 (xb.toNat : Int)) ∧ w.cell? ⟨ab, 3, none⟩ = some kv ∧ w.cell? ⟨ab, 4, none⟩ = some (.int .i64 xt) ∧ w.cell? ⟨ab, 5, none⟩ = some (.int .i64 xc) :=
  ⟨H.left.lt, Sat.read H.left.at 1, Sat.read H.left.at 2, Sat.read H.left.at 3, Sat.read H.left.at 4, Sat.read H.left.at 5⟩

/-- What act k holds, wherever the arguments are still held. -/
theorem acts_all {F : Asn} {a : Option Addr} {n c : Nat} {l : List Act4} (hl : ReadsActs F (.slice a n c) l) (k : Nat) (hk : k < l.length) : ∃ b off, a = some ⟨b, off, none⟩ ∧ ∀ w, Sat F w →
    w.cell? ⟨b, off + k * 6, none⟩ = some (.int .i64 l[k].K) ∧ w.cell? ⟨b, off + k * 6 + 1, none⟩ = some (.int .i64 l[k].I) ∧ w.cell? ⟨b, off + k * 6 + 2, none⟩ = some (.int .u8 (l[k].B.toNat : Int)) ∧
    w.cell? ⟨b, off + k * 6 + 3, none⟩ = some l[k].kv ∧ w.cell? ⟨b, off + k * 6 + 4, none⟩ = some (.int .i64 l[k].T) ∧ w.cell? ⟨b, off + k * 6 + 5, none⟩ = some (.int .i64 l[k].C) := by
  obtain ⟨⟨a', c', h1, _, h3⟩, _, _⟩ := hl
  cases h1
  rcases h3 with h3 | ⟨b, off, e, h3⟩
  · omega
  · exact ⟨b, off, e, fun w hw => h3 w hw k hk⟩

theorem sure_out (d : Dk) : d.sureS (-1) = ByteArray.empty ∧ d.sureS (d.sure.length : Int) = ByteArray.empty := by
  constructor <;> (unfold Dk.sureS; rw [if_neg (by omega)])

section
variable {w : World} {R : Ending → World → Prop}

set_option maxRecDepth 100000 in
set_option maxHeartbeats 8000000 in
theorem does_walk {F : Asn} {v : Value} {l : List Act4} (n : Int) (hn0 : -9223372036854775808 ≤ n) (hn1 : n ≤ 9223372036854775807) (hl : ReadsActs F v l) (H : Sat F w)
    (h : ∀ w', Sat F w' → Io w w' → R (.returned (.bool true)) w') :
    Calls Try.prog 9 #[.int .i64 n, v] w R := by
  have HH : Hid (∀ w', Sat F w' → Io w w' → R (.returned (.bool true)) w') := h
  clear h
  obtain ⟨a, c, rfl⟩ := acts_len hl
  cases hb : lightB n l with
  | false =>
    have HB := Lib.hid hb
    clear hb
    go_enter Try.func9, Try.ntmps9
    go_wp2_with fail
    refine works_any H ?_
    intro w1 H1 I1
    go_wp2_with fail
    refine light_any n hl H1 ?_
    rw [HB.out]
    go_wp2_with fail
    exact HH.out w1 H1 I1
  | true =>
    have HB := Lib.hid hb
    clear hb
    have hlen : (l.length : Int) ≤ 60 := by have := light_len HB.out; omega
    have AL := Lib.hid (acts_all hl)
    have KP := Lib.hid hl.keeps
    have NT := Lib.hid hl.ints
    go_enter Try.func9, Try.ntmps9
    go_wp2_with fail
    refine works_any H ?_
    intro w1 H1 I1
    go_wp2_with fail
    refine light_any n hl H1 ?_
    rw [HB.out]
    go_wp2_with fail
    refine new_any n hn0 hn1 H1 ?_
    intro p w2 H2 I2
    go_wp2_with fail
    refine rf_new n hn0 hn1 H2 ?_
    intro q w3 H3 I3
    have hfit := Dk.Fit.new (min (max n 0) 16384).toNat (by omega)
    have H5 : Sat (IsDk p (Dk.new (min (max n 0) 16384).toNat) * (IsRf q (Dk.new (min (max n 0) 16384).toNat) * F)) w3 := H3.of_eq (by ac_rfl)
    have I := (I1.trans I2).trans I3
    have HM : Hid ((min (max n 0) 16384).toNat ≤ 16384) := Lib.hid (by omega)
    clear I1 I2 I3 H1 H2 H3 hl
    generalize (min (max n 0) 16384).toNat = N at *
    have HF := Lib.hid hfit
    clear hfit
    generalize Dk.new N = dn at *
    go_wp2_with fail
    go_loopw [9] (fun x wr => ∃ (k : Nat) (d : Dk), k ≤ l.length ∧ x = .int .i64 (k : Int) ∧ d.Fit N k ∧ Sat (IsDk p d * (IsRf q d * F)) wr ∧ Io w wr) (fun x _ => l.length - (intOf x).toNat)
    case atStart => exact ⟨0, _, by omega, rfl, HF.out, H5, I⟩
    case round =>
      obtain ⟨k, d, hk1, rfl, fd, Hk, Ik⟩ := hrel
      clear H5 I HF
      have FD := Lib.hid fd
      clear fd
      by_cases hlt : k < l.length
      · have hlti : (k : Int) < (l.length : Int) := by omega
        obtain ⟨b, off, rfl, hc⟩ := AL.out k hlt
        have hkp := KP.out _ (List.getElem_mem hlt)
        have hnt := NT.out _ (List.getElem_mem hlt)
        obtain ⟨c0, c1, c2, c3, c4, c5⟩ := hc wr Hk.right.right
        clear hc
        generalize l[k].K = xk at *
        generalize l[k].I = xi at *
        generalize l[k].B = xb at *
        generalize l[k].kv = xv at *
        generalize l[k].keep = kl at *
        generalize l[k].T = xt at *
        generalize l[k].C = xc at *
        obtain ⟨⟨_, _⟩, ⟨ni0, ni1⟩⟩ := hnt
        obtain ⟨ka, kn, kc, rfl, -⟩ := id hkp
        have HKP := Lib.hid hkp
        clear hkp
        have Ha : Sat (pts wr.heap.size (.cells (actA xk xi xb (.slice ka kn kc) xt xc) 31 (0, 0)) * (IsDk p d * (IsRf q d * F))) (wr.alloc (.cells (actA xk xi xb (.slice ka kn kc) xt xc) 31)) := Hk.new _
        have Ia := Ik.alloc (.cells (actA xk xi xb (.slice ka kn kc) xt xc) 31)
        by_cases e0 : xk.tmod 6 = 0
        · have tt0 : (xk.tmod 6 == 0) = true := by simp; omega
          have Ha' : Sat (IsDk p d * (IsRf q d * ((pts wr.heap.size (.cells (actA xk xi xb (.slice ka kn kc) xt xc) 31 (0, 0))) * F))) (wr.alloc (.cells #[.int .i64 xk, .int .i64 xi, .int .u8 (xb.toNat : Int), .slice ka kn kc, .int .i64 xt, .int .i64 xc] 31)) := Ha.of_eq (by ac_rfl)
          have Ia' : Io w (wr.alloc (.cells #[.int .i64 xk, .int .i64 xi, .int .u8 (xb.toNat : Int), .slice ka kn kc, .int .i64 xt, .int .i64 xc] 31)) := Ia
          clear Ha Ia
          go_wp2_with fail
          generalize wr.alloc (.cells #[.int .i64 xk, .int .i64 xi, .int .u8 (xb.toNat : Int), .slice ka kn kc, .int .i64 xt, .int .i64 xc] 31) = wa at *
          generalize wr.heap.size = ab at *
          refine read_any Ha' FD.out.ok (by have := FD.out.reads; omega) xi ?_
          intro w4 H4 I4
          have H4' : Sat (IsRf q d * ((pts ab (.cells (actA xk xi xb (.slice ka kn kc) xt xc) 31 (0, 0))) * (IsDk p (d.read xi) * F))) w4 := H4.of_eq (by ac_rfl)
          obtain ⟨y0, y1, y2, y3, y4, y5⟩ := act_cells H4'.right
          go_wp2_with fail
          refine rf_read H4' FD.out.ok (by have := FD.out.reads; omega) (by have := FD.out.pend; omega) xi ?_
          intro wz H6 I6
          have H7 := (H6.of_eq (show _ = (pts ab (.cells (actA xk xi xb (.slice ka kn kc) xt xc) 31 (0, 0))) * (IsDk p (d.read xi) * (IsRf q (d.read xi) * F)) from by ac_rfl)).right
          have Hz := H7
          have Jz := ((Ia'.trans I4).trans I6)
          have FZ := Lib.hid (FD.out.read xi)
          obtain ⟨sv, wv, HQ⟩ := isRf_open (Hz.of_eq (show _ = IsRf q ((d.read xi)) * (IsDk p ((d.read xi)) * F) from by ac_rfl))
          have S := rf_seen HQ
          obtain ⟨sa, sc, rfl, _⟩ := row_any (rf_srow ▸ HQ)
          obtain ⟨wa, wc, rfl, _⟩ := row_any (rf_wrow ▸ HQ)
          have b0 := S.c0
          have b1 := S.c1
          have b2 := S.c2
          have b4 := S.c4
          have b5 := S.c5
          have lq := S.lp
          clear S HQ
          have hm : (d.read xi).sure.length ≤ 16384 := by have := FZ.out.len; have := HM.out; omega
          have hp : (d.read xi).pend.length ≤ 1000000 := by have := FZ.out.pend; omega
          generalize hdz : (d.read xi) = dz at *
          have qs : ∀ n, Calls Try.prog 29 #[.pointer (some ⟨p, 0, none⟩)] (wz.drewN n) fun e w' => e = .returned (.int .i64 (dz.sure.length : Int)) ∧ w' = wz.drewN n :=
            fun n => dk_sectors (R := fun e w' => e = .returned (.int .i64 (dz.sure.length : Int)) ∧ w' = wz.drewN n) (Hz.drewN n) hm ⟨rfl, rfl⟩
          have qp : ∀ n, Calls Try.prog 18 #[.pointer (some ⟨p, 0, none⟩)] (wz.drewN n) fun e w' => e = .returned (.int .i64 (dz.pend.length : Int)) ∧ w' = wz.drewN n :=
            fun n => dk_length (R := fun e w' => e = .returned (.int .i64 (dz.pend.length : Int)) ∧ w' = wz.drewN n) (Hz.drewN n) hp ⟨rfl, rfl⟩
          have qd : ∀ n, Calls Try.prog 19 #[.pointer (some ⟨p, 0, none⟩)] (wz.drewN n) fun e w' => e = .returned (.bool dz.down) ∧ w' = wz.drewN n :=
            fun n => dk_isdown (R := fun e w' => e = .returned (.bool dz.down) ∧ w' = wz.drewN n) (Hz.drewN n) ⟨rfl, rfl⟩
          have qr : ∀ n, Calls Try.prog 30 #[.pointer (some ⟨p, 0, none⟩)] (wz.drewN n) fun e w' => e = .returned (.int .i64 dz.reads) ∧ w' = wz.drewN n :=
            fun n => dk_isreads (R := fun e w' => e = .returned (.int .i64 dz.reads) ∧ w' = wz.drewN n) (Hz.drewN n) ⟨rfl, rfl⟩
          have qw : ∀ n, Calls Try.prog 21 #[.pointer (some ⟨p, 0, none⟩)] (wz.drewN n) fun e w' => e = .returned (.int .i64 dz.writes) ∧ w' = wz.drewN n :=
            fun n => dk_iswrites (R := fun e w' => e = .returned (.int .i64 dz.writes) ∧ w' = wz.drewN n) (Hz.drewN n) ⟨rfl, rfl⟩
          have q1 : ∀ n, Calls Try.prog 16 #[.pointer (some ⟨p, 0, none⟩), .int .i64 (-1)] (wz.drewN n) fun e w' => e = .returned (.string ⟨#[]⟩) ∧ w' = wz.drewN n :=
            fun n => dk_issure (R := fun e w' => e = .returned (.string ⟨#[]⟩) ∧ w' = wz.drewN n) (Hz.drewN n) hm (-1) ⟨by rw [(sure_out dz).1]; rfl, rfl⟩
          have q2 : ∀ n, Calls Try.prog 16 #[.pointer (some ⟨p, 0, none⟩), .int .i64 (dz.sure.length : Int)] (wz.drewN n) fun e w' => e = .returned (.string ⟨#[]⟩) ∧ w' = wz.drewN n :=
            fun n => dk_issure (R := fun e w' => e = .returned (.string ⟨#[]⟩) ∧ w' = wz.drewN n) (Hz.drewN n) hm (dz.sure.length : Int) ⟨by rw [(sure_out dz).2]; rfl, rfl⟩
          have QS := Lib.hid qs
          have QP := Lib.hid qp
          have QD := Lib.hid qd
          have QR := Lib.hid qr
          have QW := Lib.hid qw
          have Q1 := Lib.hid q1
          have Q2 := Lib.hid q2
          have hm' : (dz.sure.length : Int) ≤ 16384 := by omega
          have hp' : (dz.pend.length : Int) ≤ 1000000 := by omega
          clear qs qp qd qr qw q1 q2 hm hp
          have DZ := Lib.hid hdz
          clear hdz
          go_wp2_with fail
          go_quiet ((first | (go_at_call 29; with_reducible exact Calls.quiet_of_same (QS.out _)) | (go_at_call 18; with_reducible exact Calls.quiet_of_same (QP.out _)) | (go_at_call 19; with_reducible exact Calls.quiet_of_same (QD.out _)) | (go_at_call 30; with_reducible exact Calls.quiet_of_same (QR.out _)) | (go_at_call 21; with_reducible exact Calls.quiet_of_same (QW.out _)) | (go_at_call 16; with_reducible exact Calls.quiet_of_same (Q1.out _)) | (go_at_call 16; with_reducible exact Calls.quiet_of_same (Q2.out _))))
          go_wp2_with fail
          go_roundw
          case rel => exact ⟨k + 1, dz, by omega, by go_num, FZ.out, Hz.drewN _, Jz.drewN _⟩
          case measure => simp [intOf]; omega
        by_cases e1 : xk.tmod 6 = 1
        · have tt0 : (xk.tmod 6 == 0) = false := by simp; omega
          have tt1 : (xk.tmod 6 == 1) = true := by simp; omega
          have Ha' : Sat (IsDk p d * (IsRf q d * ((pts wr.heap.size (.cells (actA xk xi xb (.slice ka kn kc) xt xc) 31 (0, 0))) * F))) (wr.alloc (.cells #[.int .i64 xk, .int .i64 xi, .int .u8 (xb.toNat : Int), .slice ka kn kc, .int .i64 xt, .int .i64 xc] 31)) := Ha.of_eq (by ac_rfl)
          have Ia' : Io w (wr.alloc (.cells #[.int .i64 xk, .int .i64 xi, .int .u8 (xb.toNat : Int), .slice ka kn kc, .int .i64 xt, .int .i64 xc] 31)) := Ia
          clear Ha Ia
          go_wp2_with fail
          generalize wr.alloc (.cells #[.int .i64 xk, .int .i64 xi, .int .u8 (xb.toNat : Int), .slice ka kn kc, .int .i64 xt, .int .i64 xc] 31) = wa at *
          generalize wr.heap.size = ab at *
          have Hd := Ha'.drew
          obtain ⟨y0, y1, y2, y3, y4, y5⟩ := act_cells (Hd.of_eq (show _ = (pts ab (.cells (actA xk xi xb (.slice ka kn kc) xt xc) 31 (0, 0))) * (IsDk p d * (IsRf q d * F)) from by ac_rfl))
          go_region_held3 (fun W => W.cell? ⟨ab, 1, none⟩ = some (.int .i64 xi) ∧ W.cell? ⟨ab, 2, none⟩ = some (.int .u8 (xb.toNat : Int))) (first | exact ⟨y1, y2⟩ | exact ⟨(act_cells H6.right.right).2.1, (act_cells H6.right.right).2.2.1⟩ | exact ⟨(act_cells H5.right.right).2.1, (act_cells H5.right.right).2.2.1⟩ | exact ⟨(act_cells H4.right.right).2.1, (act_cells H4.right.right).2.2.1⟩ | exact ⟨(act_cells H3.right.right).2.1, (act_cells H3.right.right).2.2.1⟩)
            (first | (go_at_call 14; refine page_any Hd xb ?_; intro w3 H3 I3) | (go_at_call 13; refine write_any H3 FD.out.ok (by have := FD.out.writes; omega) (by have := FD.out.pend; omega) xi (pageS xb) (by have := pageS_size xb; omega) ?_; intro w4 H4 I4) | (go_at_call 14; refine page_any (H4.of_eq (show _ = IsRf q d * (IsDk p (d.write xi (pageS xb)) * ((pts ab (.cells (actA xk xi xb (.slice ka kn kc) xt xc) 31 (0, 0))) * F)) from by ac_rfl)) xb ?_; intro w5 H5 I5) | (go_at_call 25; refine rf_put H5 FD.out.ok (by have := FD.out.writes; omega) (by have := FD.out.pend; omega) xi (pageS xb) (by have := pageS_size xb; omega) ?_; intro wz H6 I6))
          clear y0 y1 y2 y3 y4 y5
          have H7 := (H6.of_eq (show _ = (pts ab (.cells (actA xk xi xb (.slice ka kn kc) xt xc) 31 (0, 0))) * (IsDk p (d.write xi (pageS xb)) * (IsRf q (d.write xi (pageS xb)) * F)) from by ac_rfl)).right
          have J7 := (((Ia'.drew.trans I3).trans I4).trans I5).trans I6
          clear H3 H4 H5 H6 I3 I4 I5 I6 Hd Ha' Ia'
          have Hz := H7
          have Jz := J7
          have FZ := Lib.hid (FD.out.write xi (pageS xb))
          obtain ⟨sv, wv, HQ⟩ := isRf_open (Hz.of_eq (show _ = IsRf q ((d.write xi (pageS xb))) * (IsDk p ((d.write xi (pageS xb))) * F) from by ac_rfl))
          have S := rf_seen HQ
          obtain ⟨sa, sc, rfl, _⟩ := row_any (rf_srow ▸ HQ)
          obtain ⟨wa, wc, rfl, _⟩ := row_any (rf_wrow ▸ HQ)
          have b0 := S.c0
          have b1 := S.c1
          have b2 := S.c2
          have b4 := S.c4
          have b5 := S.c5
          have lq := S.lp
          clear S HQ
          have hm : (d.write xi (pageS xb)).sure.length ≤ 16384 := by have := FZ.out.len; have := HM.out; omega
          have hp : (d.write xi (pageS xb)).pend.length ≤ 1000000 := by have := FZ.out.pend; omega
          generalize hdz : (d.write xi (pageS xb)) = dz at *
          have qs : ∀ n, Calls Try.prog 29 #[.pointer (some ⟨p, 0, none⟩)] (wz.drewN n) fun e w' => e = .returned (.int .i64 (dz.sure.length : Int)) ∧ w' = wz.drewN n :=
            fun n => dk_sectors (R := fun e w' => e = .returned (.int .i64 (dz.sure.length : Int)) ∧ w' = wz.drewN n) (Hz.drewN n) hm ⟨rfl, rfl⟩
          have qp : ∀ n, Calls Try.prog 18 #[.pointer (some ⟨p, 0, none⟩)] (wz.drewN n) fun e w' => e = .returned (.int .i64 (dz.pend.length : Int)) ∧ w' = wz.drewN n :=
            fun n => dk_length (R := fun e w' => e = .returned (.int .i64 (dz.pend.length : Int)) ∧ w' = wz.drewN n) (Hz.drewN n) hp ⟨rfl, rfl⟩
          have qd : ∀ n, Calls Try.prog 19 #[.pointer (some ⟨p, 0, none⟩)] (wz.drewN n) fun e w' => e = .returned (.bool dz.down) ∧ w' = wz.drewN n :=
            fun n => dk_isdown (R := fun e w' => e = .returned (.bool dz.down) ∧ w' = wz.drewN n) (Hz.drewN n) ⟨rfl, rfl⟩
          have qr : ∀ n, Calls Try.prog 30 #[.pointer (some ⟨p, 0, none⟩)] (wz.drewN n) fun e w' => e = .returned (.int .i64 dz.reads) ∧ w' = wz.drewN n :=
            fun n => dk_isreads (R := fun e w' => e = .returned (.int .i64 dz.reads) ∧ w' = wz.drewN n) (Hz.drewN n) ⟨rfl, rfl⟩
          have qw : ∀ n, Calls Try.prog 21 #[.pointer (some ⟨p, 0, none⟩)] (wz.drewN n) fun e w' => e = .returned (.int .i64 dz.writes) ∧ w' = wz.drewN n :=
            fun n => dk_iswrites (R := fun e w' => e = .returned (.int .i64 dz.writes) ∧ w' = wz.drewN n) (Hz.drewN n) ⟨rfl, rfl⟩
          have q1 : ∀ n, Calls Try.prog 16 #[.pointer (some ⟨p, 0, none⟩), .int .i64 (-1)] (wz.drewN n) fun e w' => e = .returned (.string ⟨#[]⟩) ∧ w' = wz.drewN n :=
            fun n => dk_issure (R := fun e w' => e = .returned (.string ⟨#[]⟩) ∧ w' = wz.drewN n) (Hz.drewN n) hm (-1) ⟨by rw [(sure_out dz).1]; rfl, rfl⟩
          have q2 : ∀ n, Calls Try.prog 16 #[.pointer (some ⟨p, 0, none⟩), .int .i64 (dz.sure.length : Int)] (wz.drewN n) fun e w' => e = .returned (.string ⟨#[]⟩) ∧ w' = wz.drewN n :=
            fun n => dk_issure (R := fun e w' => e = .returned (.string ⟨#[]⟩) ∧ w' = wz.drewN n) (Hz.drewN n) hm (dz.sure.length : Int) ⟨by rw [(sure_out dz).2]; rfl, rfl⟩
          have QS := Lib.hid qs
          have QP := Lib.hid qp
          have QD := Lib.hid qd
          have QR := Lib.hid qr
          have QW := Lib.hid qw
          have Q1 := Lib.hid q1
          have Q2 := Lib.hid q2
          have hm' : (dz.sure.length : Int) ≤ 16384 := by omega
          have hp' : (dz.pend.length : Int) ≤ 1000000 := by omega
          clear qs qp qd qr qw q1 q2 hm hp
          have DZ := Lib.hid hdz
          clear hdz
          go_wp2_with fail
          go_quiet ((first | (go_at_call 29; with_reducible exact Calls.quiet_of_same (QS.out _)) | (go_at_call 18; with_reducible exact Calls.quiet_of_same (QP.out _)) | (go_at_call 19; with_reducible exact Calls.quiet_of_same (QD.out _)) | (go_at_call 30; with_reducible exact Calls.quiet_of_same (QR.out _)) | (go_at_call 21; with_reducible exact Calls.quiet_of_same (QW.out _)) | (go_at_call 16; with_reducible exact Calls.quiet_of_same (Q1.out _)) | (go_at_call 16; with_reducible exact Calls.quiet_of_same (Q2.out _))))
          go_wp2_with fail
          go_roundw
          case rel => exact ⟨k + 1, dz, by omega, by go_num, FZ.out, Hz.drewN _, Jz.drewN _⟩
          case measure => simp [intOf]; omega
        by_cases e2 : xk.tmod 6 = 2
        · have tt0 : (xk.tmod 6 == 0) = false := by simp; omega
          have tt1 : (xk.tmod 6 == 1) = false := by simp; omega
          have tt2 : (xk.tmod 6 == 2) = true := by simp; omega
          have Ha' : Sat (IsDk p d * (IsRf q d * ((pts wr.heap.size (.cells (actA xk xi xb (.slice ka kn kc) xt xc) 31 (0, 0))) * F))) (wr.alloc (.cells #[.int .i64 xk, .int .i64 xi, .int .u8 (xb.toNat : Int), .slice ka kn kc, .int .i64 xt, .int .i64 xc] 31)) := Ha.of_eq (by ac_rfl)
          have Ia' : Io w (wr.alloc (.cells #[.int .i64 xk, .int .i64 xi, .int .u8 (xb.toNat : Int), .slice ka kn kc, .int .i64 xt, .int .i64 xc] 31)) := Ia
          clear Ha Ia
          go_wp2_with fail
          generalize wr.alloc (.cells #[.int .i64 xk, .int .i64 xi, .int .u8 (xb.toNat : Int), .slice ka kn kc, .int .i64 xt, .int .i64 xc] 31) = wa at *
          generalize wr.heap.size = ab at *
          refine sync_any Ha' FD.out.ok (by have := FD.out.pend; omega) ?_
          intro w4 H4 I4
          have H4' : Sat (IsRf q d * ((pts ab (.cells (actA xk xi xb (.slice ka kn kc) xt xc) 31 (0, 0))) * (IsDk p d.sync * F))) w4 := H4.of_eq (by ac_rfl)
          go_wp2_with fail
          refine rf_sync H4' FD.out.ok (by have := FD.out.pend; omega) ?_
          intro wz H6 I6
          have H7 := (H6.of_eq (show _ = (pts ab (.cells (actA xk xi xb (.slice ka kn kc) xt xc) 31 (0, 0))) * (IsDk p d.sync * (IsRf q d.sync * F)) from by ac_rfl)).right
          have Hz := H7
          have Jz := ((Ia'.trans I4).trans I6)
          have FZ := Lib.hid (FD.out.sync.mono (show k ≤ k + 1 from by omega))
          obtain ⟨sv, wv, HQ⟩ := isRf_open (Hz.of_eq (show _ = IsRf q (d.sync) * (IsDk p (d.sync) * F) from by ac_rfl))
          have S := rf_seen HQ
          obtain ⟨sa, sc, rfl, _⟩ := row_any (rf_srow ▸ HQ)
          obtain ⟨wa, wc, rfl, _⟩ := row_any (rf_wrow ▸ HQ)
          have b0 := S.c0
          have b1 := S.c1
          have b2 := S.c2
          have b4 := S.c4
          have b5 := S.c5
          have lq := S.lp
          clear S HQ
          have hm : d.sync.sure.length ≤ 16384 := by have := FZ.out.len; have := HM.out; omega
          have hp : d.sync.pend.length ≤ 1000000 := by have := FZ.out.pend; omega
          generalize hdz : d.sync = dz at *
          have qs : ∀ n, Calls Try.prog 29 #[.pointer (some ⟨p, 0, none⟩)] (wz.drewN n) fun e w' => e = .returned (.int .i64 (dz.sure.length : Int)) ∧ w' = wz.drewN n :=
            fun n => dk_sectors (R := fun e w' => e = .returned (.int .i64 (dz.sure.length : Int)) ∧ w' = wz.drewN n) (Hz.drewN n) hm ⟨rfl, rfl⟩
          have qp : ∀ n, Calls Try.prog 18 #[.pointer (some ⟨p, 0, none⟩)] (wz.drewN n) fun e w' => e = .returned (.int .i64 (dz.pend.length : Int)) ∧ w' = wz.drewN n :=
            fun n => dk_length (R := fun e w' => e = .returned (.int .i64 (dz.pend.length : Int)) ∧ w' = wz.drewN n) (Hz.drewN n) hp ⟨rfl, rfl⟩
          have qd : ∀ n, Calls Try.prog 19 #[.pointer (some ⟨p, 0, none⟩)] (wz.drewN n) fun e w' => e = .returned (.bool dz.down) ∧ w' = wz.drewN n :=
            fun n => dk_isdown (R := fun e w' => e = .returned (.bool dz.down) ∧ w' = wz.drewN n) (Hz.drewN n) ⟨rfl, rfl⟩
          have qr : ∀ n, Calls Try.prog 30 #[.pointer (some ⟨p, 0, none⟩)] (wz.drewN n) fun e w' => e = .returned (.int .i64 dz.reads) ∧ w' = wz.drewN n :=
            fun n => dk_isreads (R := fun e w' => e = .returned (.int .i64 dz.reads) ∧ w' = wz.drewN n) (Hz.drewN n) ⟨rfl, rfl⟩
          have qw : ∀ n, Calls Try.prog 21 #[.pointer (some ⟨p, 0, none⟩)] (wz.drewN n) fun e w' => e = .returned (.int .i64 dz.writes) ∧ w' = wz.drewN n :=
            fun n => dk_iswrites (R := fun e w' => e = .returned (.int .i64 dz.writes) ∧ w' = wz.drewN n) (Hz.drewN n) ⟨rfl, rfl⟩
          have q1 : ∀ n, Calls Try.prog 16 #[.pointer (some ⟨p, 0, none⟩), .int .i64 (-1)] (wz.drewN n) fun e w' => e = .returned (.string ⟨#[]⟩) ∧ w' = wz.drewN n :=
            fun n => dk_issure (R := fun e w' => e = .returned (.string ⟨#[]⟩) ∧ w' = wz.drewN n) (Hz.drewN n) hm (-1) ⟨by rw [(sure_out dz).1]; rfl, rfl⟩
          have q2 : ∀ n, Calls Try.prog 16 #[.pointer (some ⟨p, 0, none⟩), .int .i64 (dz.sure.length : Int)] (wz.drewN n) fun e w' => e = .returned (.string ⟨#[]⟩) ∧ w' = wz.drewN n :=
            fun n => dk_issure (R := fun e w' => e = .returned (.string ⟨#[]⟩) ∧ w' = wz.drewN n) (Hz.drewN n) hm (dz.sure.length : Int) ⟨by rw [(sure_out dz).2]; rfl, rfl⟩
          have QS := Lib.hid qs
          have QP := Lib.hid qp
          have QD := Lib.hid qd
          have QR := Lib.hid qr
          have QW := Lib.hid qw
          have Q1 := Lib.hid q1
          have Q2 := Lib.hid q2
          have hm' : (dz.sure.length : Int) ≤ 16384 := by omega
          have hp' : (dz.pend.length : Int) ≤ 1000000 := by omega
          clear qs qp qd qr qw q1 q2 hm hp
          have DZ := Lib.hid hdz
          clear hdz
          go_wp2_with fail
          go_quiet ((first | (go_at_call 29; with_reducible exact Calls.quiet_of_same (QS.out _)) | (go_at_call 18; with_reducible exact Calls.quiet_of_same (QP.out _)) | (go_at_call 19; with_reducible exact Calls.quiet_of_same (QD.out _)) | (go_at_call 30; with_reducible exact Calls.quiet_of_same (QR.out _)) | (go_at_call 21; with_reducible exact Calls.quiet_of_same (QW.out _)) | (go_at_call 16; with_reducible exact Calls.quiet_of_same (Q1.out _)) | (go_at_call 16; with_reducible exact Calls.quiet_of_same (Q2.out _))))
          go_wp2_with fail
          go_roundw
          case rel => exact ⟨k + 1, dz, by omega, by go_num, FZ.out, Hz.drewN _, Jz.drewN _⟩
          case measure => simp [intOf]; omega
        by_cases e3 : xk.tmod 6 = 3
        · have tt0 : (xk.tmod 6 == 0) = false := by simp; omega
          have tt1 : (xk.tmod 6 == 1) = false := by simp; omega
          have tt2 : (xk.tmod 6 == 2) = false := by simp; omega
          have tt3 : (xk.tmod 6 == 3) = true := by simp; omega
          have Ha' : Sat (IsDk p d * (IsRf q d * ((pts wr.heap.size (.cells (actA xk xi xb (.slice ka kn kc) xt xc) 31 (0, 0))) * F))) (wr.alloc (.cells #[.int .i64 xk, .int .i64 xi, .int .u8 (xb.toNat : Int), .slice ka kn kc, .int .i64 xt, .int .i64 xc] 31)) := Ha.of_eq (by ac_rfl)
          have Ia' : Io w (wr.alloc (.cells #[.int .i64 xk, .int .i64 xi, .int .u8 (xb.toNat : Int), .slice ka kn kc, .int .i64 xt, .int .i64 xc] 31)) := Ia
          clear Ha Ia
          go_wp2_with fail
          generalize wr.alloc (.cells #[.int .i64 xk, .int .i64 xi, .int .u8 (xb.toNat : Int), .slice ka kn kc, .int .i64 xt, .int .i64 xc] 31) = wa at *
          generalize wr.heap.size = ab at *
          refine break_any Ha' xi ni0 ni1 ?_
          intro w4 H4 I4
          have H4' : Sat (IsRf q d * ((pts ab (.cells (actA xk xi xb (.slice ka kn kc) xt xc) 31 (0, 0))) * (IsDk p (d.brk xi) * F))) w4 := H4.of_eq (by ac_rfl)
          obtain ⟨y0, y1, y2, y3, y4, y5⟩ := act_cells H4'.right
          go_wp2_with fail
          refine rf_stop H4' xi ni0 ni1 ?_
          intro wz H6 I6
          have H7 := (H6.of_eq (show _ = (pts ab (.cells (actA xk xi xb (.slice ka kn kc) xt xc) 31 (0, 0))) * (IsDk p (d.brk xi) * (IsRf q (d.brk xi) * F)) from by ac_rfl)).right
          have Hz := H7
          have Jz := ((Ia'.trans I4).trans I6)
          have FZ := Lib.hid ((FD.out.brk xi ni1).mono (show k ≤ k + 1 from by omega))
          obtain ⟨sv, wv, HQ⟩ := isRf_open (Hz.of_eq (show _ = IsRf q ((d.brk xi)) * (IsDk p ((d.brk xi)) * F) from by ac_rfl))
          have S := rf_seen HQ
          obtain ⟨sa, sc, rfl, _⟩ := row_any (rf_srow ▸ HQ)
          obtain ⟨wa, wc, rfl, _⟩ := row_any (rf_wrow ▸ HQ)
          have b0 := S.c0
          have b1 := S.c1
          have b2 := S.c2
          have b4 := S.c4
          have b5 := S.c5
          have lq := S.lp
          clear S HQ
          have hm : (d.brk xi).sure.length ≤ 16384 := by have := FZ.out.len; have := HM.out; omega
          have hp : (d.brk xi).pend.length ≤ 1000000 := by have := FZ.out.pend; omega
          generalize hdz : (d.brk xi) = dz at *
          have qs : ∀ n, Calls Try.prog 29 #[.pointer (some ⟨p, 0, none⟩)] (wz.drewN n) fun e w' => e = .returned (.int .i64 (dz.sure.length : Int)) ∧ w' = wz.drewN n :=
            fun n => dk_sectors (R := fun e w' => e = .returned (.int .i64 (dz.sure.length : Int)) ∧ w' = wz.drewN n) (Hz.drewN n) hm ⟨rfl, rfl⟩
          have qp : ∀ n, Calls Try.prog 18 #[.pointer (some ⟨p, 0, none⟩)] (wz.drewN n) fun e w' => e = .returned (.int .i64 (dz.pend.length : Int)) ∧ w' = wz.drewN n :=
            fun n => dk_length (R := fun e w' => e = .returned (.int .i64 (dz.pend.length : Int)) ∧ w' = wz.drewN n) (Hz.drewN n) hp ⟨rfl, rfl⟩
          have qd : ∀ n, Calls Try.prog 19 #[.pointer (some ⟨p, 0, none⟩)] (wz.drewN n) fun e w' => e = .returned (.bool dz.down) ∧ w' = wz.drewN n :=
            fun n => dk_isdown (R := fun e w' => e = .returned (.bool dz.down) ∧ w' = wz.drewN n) (Hz.drewN n) ⟨rfl, rfl⟩
          have qr : ∀ n, Calls Try.prog 30 #[.pointer (some ⟨p, 0, none⟩)] (wz.drewN n) fun e w' => e = .returned (.int .i64 dz.reads) ∧ w' = wz.drewN n :=
            fun n => dk_isreads (R := fun e w' => e = .returned (.int .i64 dz.reads) ∧ w' = wz.drewN n) (Hz.drewN n) ⟨rfl, rfl⟩
          have qw : ∀ n, Calls Try.prog 21 #[.pointer (some ⟨p, 0, none⟩)] (wz.drewN n) fun e w' => e = .returned (.int .i64 dz.writes) ∧ w' = wz.drewN n :=
            fun n => dk_iswrites (R := fun e w' => e = .returned (.int .i64 dz.writes) ∧ w' = wz.drewN n) (Hz.drewN n) ⟨rfl, rfl⟩
          have q1 : ∀ n, Calls Try.prog 16 #[.pointer (some ⟨p, 0, none⟩), .int .i64 (-1)] (wz.drewN n) fun e w' => e = .returned (.string ⟨#[]⟩) ∧ w' = wz.drewN n :=
            fun n => dk_issure (R := fun e w' => e = .returned (.string ⟨#[]⟩) ∧ w' = wz.drewN n) (Hz.drewN n) hm (-1) ⟨by rw [(sure_out dz).1]; rfl, rfl⟩
          have q2 : ∀ n, Calls Try.prog 16 #[.pointer (some ⟨p, 0, none⟩), .int .i64 (dz.sure.length : Int)] (wz.drewN n) fun e w' => e = .returned (.string ⟨#[]⟩) ∧ w' = wz.drewN n :=
            fun n => dk_issure (R := fun e w' => e = .returned (.string ⟨#[]⟩) ∧ w' = wz.drewN n) (Hz.drewN n) hm (dz.sure.length : Int) ⟨by rw [(sure_out dz).2]; rfl, rfl⟩
          have QS := Lib.hid qs
          have QP := Lib.hid qp
          have QD := Lib.hid qd
          have QR := Lib.hid qr
          have QW := Lib.hid qw
          have Q1 := Lib.hid q1
          have Q2 := Lib.hid q2
          have hm' : (dz.sure.length : Int) ≤ 16384 := by omega
          have hp' : (dz.pend.length : Int) ≤ 1000000 := by omega
          clear qs qp qd qr qw q1 q2 hm hp
          have DZ := Lib.hid hdz
          clear hdz
          go_wp2_with fail
          go_quiet ((first | (go_at_call 29; with_reducible exact Calls.quiet_of_same (QS.out _)) | (go_at_call 18; with_reducible exact Calls.quiet_of_same (QP.out _)) | (go_at_call 19; with_reducible exact Calls.quiet_of_same (QD.out _)) | (go_at_call 30; with_reducible exact Calls.quiet_of_same (QR.out _)) | (go_at_call 21; with_reducible exact Calls.quiet_of_same (QW.out _)) | (go_at_call 16; with_reducible exact Calls.quiet_of_same (Q1.out _)) | (go_at_call 16; with_reducible exact Calls.quiet_of_same (Q2.out _))))
          go_wp2_with fail
          go_roundw
          case rel => exact ⟨k + 1, dz, by omega, by go_num, FZ.out, Hz.drewN _, Jz.drewN _⟩
          case measure => simp [intOf]; omega
        by_cases e4 : xk.tmod 6 = 4
        · have tt0 : (xk.tmod 6 == 0) = false := by simp; omega
          have tt1 : (xk.tmod 6 == 1) = false := by simp; omega
          have tt2 : (xk.tmod 6 == 2) = false := by simp; omega
          have tt3 : (xk.tmod 6 == 3) = false := by simp; omega
          have tt4 : (xk.tmod 6 == 4) = true := by simp; omega
          have Ha' : Sat (IsDk p d * (IsRf q d * ((pts wr.heap.size (.cells (actA xk xi xb (.slice ka kn kc) xt xc) 31 (0, 0))) * F))) (wr.alloc (.cells #[.int .i64 xk, .int .i64 xi, .int .u8 (xb.toNat : Int), .slice ka kn kc, .int .i64 xt, .int .i64 xc] 31)) := Ha.of_eq (by ac_rfl)
          have Ia' : Io w (wr.alloc (.cells #[.int .i64 xk, .int .i64 xi, .int .u8 (xb.toNat : Int), .slice ka kn kc, .int .i64 xt, .int .i64 xc] 31)) := Ia
          clear Ha Ia
          go_wp2_with fail
          generalize wr.alloc (.cells #[.int .i64 xk, .int .i64 xi, .int .u8 (xb.toNat : Int), .slice ka kn kc, .int .i64 xt, .int .i64 xc] 31) = wa at *
          generalize wr.heap.size = ab at *
          refine crash_any Ha' HKP.out.with.with FD.out.ok (by have := FD.out.pend; omega) xt xc ?_
          intro w4 H4 I4
          have H4' : Sat (IsRf q d * ((pts ab (.cells (actA xk xi xb (.slice ka kn kc) xt xc) 31 (0, 0))) * (IsDk p (d.crash kl xt xc) * F))) w4 := H4.of_eq (by ac_rfl)
          obtain ⟨y0, y1, y2, y3, y4, y5⟩ := act_cells H4'.right
          go_wp2_with fail
          refine rf_crash H4' HKP.out.with.with FD.out.ok (by have := FD.out.pend; omega) xt xc ?_
          intro wz H6 I6
          have H7 := (H6.of_eq (show _ = (pts ab (.cells (actA xk xi xb (.slice ka kn kc) xt xc) 31 (0, 0))) * (IsDk p (d.crash kl xt xc) * (IsRf q (d.crash kl xt xc) * F)) from by ac_rfl)).right
          have Hz := H7
          have Jz := ((Ia'.trans I4).trans I6)
          have FZ := Lib.hid ((FD.out.crash kl xt xc).mono (show k ≤ k + 1 from by omega))
          obtain ⟨sv, wv, HQ⟩ := isRf_open (Hz.of_eq (show _ = IsRf q ((d.crash kl xt xc)) * (IsDk p ((d.crash kl xt xc)) * F) from by ac_rfl))
          have S := rf_seen HQ
          obtain ⟨sa, sc, rfl, _⟩ := row_any (rf_srow ▸ HQ)
          obtain ⟨wa, wc, rfl, _⟩ := row_any (rf_wrow ▸ HQ)
          have b0 := S.c0
          have b1 := S.c1
          have b2 := S.c2
          have b4 := S.c4
          have b5 := S.c5
          have lq := S.lp
          clear S HQ
          have hm : (d.crash kl xt xc).sure.length ≤ 16384 := by have := FZ.out.len; have := HM.out; omega
          have hp : (d.crash kl xt xc).pend.length ≤ 1000000 := by have := FZ.out.pend; omega
          generalize hdz : (d.crash kl xt xc) = dz at *
          have qs : ∀ n, Calls Try.prog 29 #[.pointer (some ⟨p, 0, none⟩)] (wz.drewN n) fun e w' => e = .returned (.int .i64 (dz.sure.length : Int)) ∧ w' = wz.drewN n :=
            fun n => dk_sectors (R := fun e w' => e = .returned (.int .i64 (dz.sure.length : Int)) ∧ w' = wz.drewN n) (Hz.drewN n) hm ⟨rfl, rfl⟩
          have qp : ∀ n, Calls Try.prog 18 #[.pointer (some ⟨p, 0, none⟩)] (wz.drewN n) fun e w' => e = .returned (.int .i64 (dz.pend.length : Int)) ∧ w' = wz.drewN n :=
            fun n => dk_length (R := fun e w' => e = .returned (.int .i64 (dz.pend.length : Int)) ∧ w' = wz.drewN n) (Hz.drewN n) hp ⟨rfl, rfl⟩
          have qd : ∀ n, Calls Try.prog 19 #[.pointer (some ⟨p, 0, none⟩)] (wz.drewN n) fun e w' => e = .returned (.bool dz.down) ∧ w' = wz.drewN n :=
            fun n => dk_isdown (R := fun e w' => e = .returned (.bool dz.down) ∧ w' = wz.drewN n) (Hz.drewN n) ⟨rfl, rfl⟩
          have qr : ∀ n, Calls Try.prog 30 #[.pointer (some ⟨p, 0, none⟩)] (wz.drewN n) fun e w' => e = .returned (.int .i64 dz.reads) ∧ w' = wz.drewN n :=
            fun n => dk_isreads (R := fun e w' => e = .returned (.int .i64 dz.reads) ∧ w' = wz.drewN n) (Hz.drewN n) ⟨rfl, rfl⟩
          have qw : ∀ n, Calls Try.prog 21 #[.pointer (some ⟨p, 0, none⟩)] (wz.drewN n) fun e w' => e = .returned (.int .i64 dz.writes) ∧ w' = wz.drewN n :=
            fun n => dk_iswrites (R := fun e w' => e = .returned (.int .i64 dz.writes) ∧ w' = wz.drewN n) (Hz.drewN n) ⟨rfl, rfl⟩
          have q1 : ∀ n, Calls Try.prog 16 #[.pointer (some ⟨p, 0, none⟩), .int .i64 (-1)] (wz.drewN n) fun e w' => e = .returned (.string ⟨#[]⟩) ∧ w' = wz.drewN n :=
            fun n => dk_issure (R := fun e w' => e = .returned (.string ⟨#[]⟩) ∧ w' = wz.drewN n) (Hz.drewN n) hm (-1) ⟨by rw [(sure_out dz).1]; rfl, rfl⟩
          have q2 : ∀ n, Calls Try.prog 16 #[.pointer (some ⟨p, 0, none⟩), .int .i64 (dz.sure.length : Int)] (wz.drewN n) fun e w' => e = .returned (.string ⟨#[]⟩) ∧ w' = wz.drewN n :=
            fun n => dk_issure (R := fun e w' => e = .returned (.string ⟨#[]⟩) ∧ w' = wz.drewN n) (Hz.drewN n) hm (dz.sure.length : Int) ⟨by rw [(sure_out dz).2]; rfl, rfl⟩
          have QS := Lib.hid qs
          have QP := Lib.hid qp
          have QD := Lib.hid qd
          have QR := Lib.hid qr
          have QW := Lib.hid qw
          have Q1 := Lib.hid q1
          have Q2 := Lib.hid q2
          have hm' : (dz.sure.length : Int) ≤ 16384 := by omega
          have hp' : (dz.pend.length : Int) ≤ 1000000 := by omega
          clear qs qp qd qr qw q1 q2 hm hp
          have DZ := Lib.hid hdz
          clear hdz
          go_wp2_with fail
          go_quiet ((first | (go_at_call 29; with_reducible exact Calls.quiet_of_same (QS.out _)) | (go_at_call 18; with_reducible exact Calls.quiet_of_same (QP.out _)) | (go_at_call 19; with_reducible exact Calls.quiet_of_same (QD.out _)) | (go_at_call 30; with_reducible exact Calls.quiet_of_same (QR.out _)) | (go_at_call 21; with_reducible exact Calls.quiet_of_same (QW.out _)) | (go_at_call 16; with_reducible exact Calls.quiet_of_same (Q1.out _)) | (go_at_call 16; with_reducible exact Calls.quiet_of_same (Q2.out _))))
          go_wp2_with fail
          go_roundw
          case rel => exact ⟨k + 1, dz, by omega, by go_num, FZ.out, Hz.drewN _, Jz.drewN _⟩
          case measure => simp [intOf]; omega
        have tt0 : (xk.tmod 6 == 0) = false := by simp; omega
        have tt1 : (xk.tmod 6 == 1) = false := by simp; omega
        have tt2 : (xk.tmod 6 == 2) = false := by simp; omega
        have tt3 : (xk.tmod 6 == 3) = false := by simp; omega
        have tt4 : (xk.tmod 6 == 4) = false := by simp; omega
        have Ha' : Sat (IsDk p d * (IsRf q d * ((pts wr.heap.size (.cells (actA xk xi xb (.slice ka kn kc) xt xc) 31 (0, 0))) * F))) (wr.alloc (.cells #[.int .i64 xk, .int .i64 xi, .int .u8 (xb.toNat : Int), .slice ka kn kc, .int .i64 xt, .int .i64 xc] 31)) := Ha.of_eq (by ac_rfl)
        have Ia' : Io w (wr.alloc (.cells #[.int .i64 xk, .int .i64 xi, .int .u8 (xb.toNat : Int), .slice ka kn kc, .int .i64 xt, .int .i64 xc] 31)) := Ia
        clear Ha Ia
        go_wp2_with fail
        generalize wr.alloc (.cells #[.int .i64 xk, .int .i64 xi, .int .u8 (xb.toNat : Int), .slice ka kn kc, .int .i64 xt, .int .i64 xc] 31) = wz at *
        generalize wr.heap.size = ab at *
        have H7 := (Ha'.of_eq (show _ = (pts ab (.cells (actA xk xi xb (.slice ka kn kc) xt xc) 31 (0, 0))) * (IsDk p d * (IsRf q d * F)) from by ac_rfl)).right
        have Hz := H7
        have Jz := Ia'
        have FZ := Lib.hid (FD.out.mono (show k ≤ k + 1 from by omega))
        obtain ⟨sv, wv, HQ⟩ := isRf_open (Hz.of_eq (show _ = IsRf q (d) * (IsDk p (d) * F) from by ac_rfl))
        have S := rf_seen HQ
        obtain ⟨sa, sc, rfl, _⟩ := row_any (rf_srow ▸ HQ)
        obtain ⟨wa, wc, rfl, _⟩ := row_any (rf_wrow ▸ HQ)
        have b0 := S.c0
        have b1 := S.c1
        have b2 := S.c2
        have b4 := S.c4
        have b5 := S.c5
        have lq := S.lp
        clear S HQ
        have hm : d.sure.length ≤ 16384 := by have := FZ.out.len; have := HM.out; omega
        have hp : d.pend.length ≤ 1000000 := by have := FZ.out.pend; omega
        generalize hdz : d = dz at *
        have qs : ∀ n, Calls Try.prog 29 #[.pointer (some ⟨p, 0, none⟩)] (wz.drewN n) fun e w' => e = .returned (.int .i64 (dz.sure.length : Int)) ∧ w' = wz.drewN n :=
          fun n => dk_sectors (R := fun e w' => e = .returned (.int .i64 (dz.sure.length : Int)) ∧ w' = wz.drewN n) (Hz.drewN n) hm ⟨rfl, rfl⟩
        have qp : ∀ n, Calls Try.prog 18 #[.pointer (some ⟨p, 0, none⟩)] (wz.drewN n) fun e w' => e = .returned (.int .i64 (dz.pend.length : Int)) ∧ w' = wz.drewN n :=
          fun n => dk_length (R := fun e w' => e = .returned (.int .i64 (dz.pend.length : Int)) ∧ w' = wz.drewN n) (Hz.drewN n) hp ⟨rfl, rfl⟩
        have qd : ∀ n, Calls Try.prog 19 #[.pointer (some ⟨p, 0, none⟩)] (wz.drewN n) fun e w' => e = .returned (.bool dz.down) ∧ w' = wz.drewN n :=
          fun n => dk_isdown (R := fun e w' => e = .returned (.bool dz.down) ∧ w' = wz.drewN n) (Hz.drewN n) ⟨rfl, rfl⟩
        have qr : ∀ n, Calls Try.prog 30 #[.pointer (some ⟨p, 0, none⟩)] (wz.drewN n) fun e w' => e = .returned (.int .i64 dz.reads) ∧ w' = wz.drewN n :=
          fun n => dk_isreads (R := fun e w' => e = .returned (.int .i64 dz.reads) ∧ w' = wz.drewN n) (Hz.drewN n) ⟨rfl, rfl⟩
        have qw : ∀ n, Calls Try.prog 21 #[.pointer (some ⟨p, 0, none⟩)] (wz.drewN n) fun e w' => e = .returned (.int .i64 dz.writes) ∧ w' = wz.drewN n :=
          fun n => dk_iswrites (R := fun e w' => e = .returned (.int .i64 dz.writes) ∧ w' = wz.drewN n) (Hz.drewN n) ⟨rfl, rfl⟩
        have q1 : ∀ n, Calls Try.prog 16 #[.pointer (some ⟨p, 0, none⟩), .int .i64 (-1)] (wz.drewN n) fun e w' => e = .returned (.string ⟨#[]⟩) ∧ w' = wz.drewN n :=
          fun n => dk_issure (R := fun e w' => e = .returned (.string ⟨#[]⟩) ∧ w' = wz.drewN n) (Hz.drewN n) hm (-1) ⟨by rw [(sure_out dz).1]; rfl, rfl⟩
        have q2 : ∀ n, Calls Try.prog 16 #[.pointer (some ⟨p, 0, none⟩), .int .i64 (dz.sure.length : Int)] (wz.drewN n) fun e w' => e = .returned (.string ⟨#[]⟩) ∧ w' = wz.drewN n :=
          fun n => dk_issure (R := fun e w' => e = .returned (.string ⟨#[]⟩) ∧ w' = wz.drewN n) (Hz.drewN n) hm (dz.sure.length : Int) ⟨by rw [(sure_out dz).2]; rfl, rfl⟩
        have QS := Lib.hid qs
        have QP := Lib.hid qp
        have QD := Lib.hid qd
        have QR := Lib.hid qr
        have QW := Lib.hid qw
        have Q1 := Lib.hid q1
        have Q2 := Lib.hid q2
        have hm' : (dz.sure.length : Int) ≤ 16384 := by omega
        have hp' : (dz.pend.length : Int) ≤ 1000000 := by omega
        clear qs qp qd qr qw q1 q2 hm hp
        have DZ := Lib.hid hdz
        clear hdz
        go_wp2_with fail
        go_quiet ((first | (go_at_call 29; with_reducible exact Calls.quiet_of_same (QS.out _)) | (go_at_call 18; with_reducible exact Calls.quiet_of_same (QP.out _)) | (go_at_call 19; with_reducible exact Calls.quiet_of_same (QD.out _)) | (go_at_call 30; with_reducible exact Calls.quiet_of_same (QR.out _)) | (go_at_call 21; with_reducible exact Calls.quiet_of_same (QW.out _)) | (go_at_call 16; with_reducible exact Calls.quiet_of_same (Q1.out _)) | (go_at_call 16; with_reducible exact Calls.quiet_of_same (Q2.out _))))
        go_wp2_with fail
        go_roundw
        case rel => exact ⟨k + 1, dz, by omega, by go_num, FZ.out, Hz.drewN _, Jz.drewN _⟩
        case measure => simp [intOf]; omega
      · obtain rfl : k = l.length := by omega
        have hge1 : ¬ (l.length : Int) < (l.length : Int) := by omega
        have hm : d.sure.length ≤ 16384 := by have := FD.out.len; have := HM.out; omega
        have hm' : (d.sure.length : Int) ≤ 16384 := by omega
        obtain ⟨sv, wv, HQ⟩ := isRf_open (Hk.of_eq (show _ = IsRf q d * (IsDk p d * F) from by ac_rfl))
        have S := rf_seen HQ
        obtain ⟨sa, sc, rfl, hsa⟩ := row_any (rf_srow ▸ HQ)
        have b0 := S.c0
        have lq := S.lp
        have HS := Lib.hid hsa
        have HD : Sat (IsDk p d * (RfMid q (.slice sa d.sure.length sc) wv d (.slice sa d.sure.length sc) d.sure wv d.pend * F)) wr := HQ.of_eq (by ac_rfl)
        clear S hsa
        go_wp2_with fail
        go_loopw [15] (fun x w' => ∃ (i : Nat), i ≤ d.sure.length ∧ x = .int .i64 (i : Int) ∧ Sat (IsDk p d * (RfMid q (.slice sa d.sure.length sc) wv d (.slice sa d.sure.length sc) d.sure wv d.pend * F)) w' ∧ Io w w') (fun x _ => d.sure.length - (intOf x).toNat)
        case atStart => exact ⟨0, by omega, rfl, HD, Ik⟩
        case round =>
          obtain ⟨i, hi8, rfl, Hq, Iq⟩ := hrel
          clear b0 lq
          by_cases hlt8 : i < d.sure.length
          · obtain ⟨sg, rfl⟩ := HS.out (by omega)
            have HQ2 := Hq.right
            have S := rf_seen Hq.right
            have b0 := S.c0
            have lq := S.lp
            have cs := row_cell (rf_srow ▸ Hq.right) i _ (svals_get d.sure i hlt8)
            have qs : ∀ n, Calls Try.prog 16 #[.pointer (some ⟨p, 0, none⟩), .int .i64 (i : Int)] (wr.drewN n) fun e w' => e = .returned (.string (d.sure.getD i ByteArray.empty)) ∧ w' = wr.drewN n :=
              fun n => dk_issure (R := fun e w' => e = .returned (.string (d.sure.getD i ByteArray.empty)) ∧ w' = wr.drewN n) (Hq.drewN n) hm (i : Int) ⟨by rw [show d.sureS (i : Int) = d.sure.getD i ByteArray.empty from by unfold Dk.sureS; rw [if_pos ⟨by omega, by omega⟩, Int.toNat_natCast]], rfl⟩
            have QS := Lib.hid qs
            clear qs S HQ2
            generalize d.sure.getD i ByteArray.empty = t at *
            have i0 : (0 : Int) ≤ (i : Int) := by omega
            have i1 : (i : Int) < (d.sure.length : Int) := by omega
            go_wp2_with fail
            go_quiet ((go_at_call 16; with_reducible exact Calls.quiet_of_same (QS.out _)))
            go_wp2_with fail
            go_roundw
            case rel => exact ⟨i + 1, by omega, by go_num, Hq.drewN _, Iq.drewN _⟩
            case measure => simp [intOf]; omega
          · obtain rfl : i = d.sure.length := by omega
            have S := rf_seen Hq.right
            have b0 := S.c0
            have lq := S.lp
            clear S
            go_wp2_with fail
            exact HH.out _ Hq.right.right Iq
end
end Go.Proofs.Ytnkekdeicgmelaa
