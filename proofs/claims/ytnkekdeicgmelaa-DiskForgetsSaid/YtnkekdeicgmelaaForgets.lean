/-
  The statement DiskForgets, walked: it answers true. It proves the walk alone; the row is closed elsewhere.
-/
import Derived.Test.YtnkekdeicgmelaaApart
namespace Go.Proofs.Ytnkekdeicgmelaa
open Go.RowKit
set_option linter.unusedSimpArgs false
set_option linter.unusedVariables false

theorem Try.info3 : (Try.prog.info? 3).map (fun i => (i.zero, i.size, i.bytes)) = some (some (.int .i64 0), 1, 8) := by kernel_rfl

/-- 0, 1 .. -/
def upto (k : Nat) : List Int := (List.range k).map fun (i : Nat) => (i : Int)
theorem upto_length (k : Nat) : (upto k).length = k := by simp [upto]
theorem upto_succ (k : Nat) : (upto (k + 1)).map (Value.int .i64) = (upto k).map (Value.int .i64) ++ [.int .i64 (k : Int)] := by simp [upto, List.range_succ]
theorem upto_has (k j : Nat) (h : j < k) : (upto k).contains (j : Int) = true := by
  simp only [upto, List.contains_iff_mem, List.mem_map, List.mem_range]
  exact ⟨j, h, rfl⟩

theorem reads_row {F : Asn} {w : World} {e : TypeId} {v : Value} {n : Nat} {zs : List Int} (H : Sat (Row e 1 v n (zs.map (Value.int .i64)) * F) w) (hn : n ≤ 9223372036854775807) : ReadsInts (Row e 1 v n (zs.map (Value.int .i64)) * F) v zs := by
  obtain ⟨hl, hc⟩ := sat_row.1 H
  have hz : n = zs.length := by rw [List.length_map] at hl; omega
  rcases hc with ⟨rfl, h0, _⟩ | ⟨g, cap, cur, rfl, _, _, _, _, _⟩
  · exact ⟨none, 0, 0, rfl, by omega, by omega, .inl rfl⟩
  · refine ⟨_, n, cap, rfl, hz, hn, ?_⟩
    rcases Nat.eq_zero_or_pos n with h0 | h0
    · exact .inl h0
    · refine .inr ⟨g, 0, rfl, fun w' hw j hj => ?_⟩
      rw [Nat.zero_add]
      refine row_cell hw j _ ?_
      have hj' : j < zs.length := by omega
      simp [List.getD, hj']

/-- Nothing is kept: what is sure stays. -/
theorem crash_forgets (d : Dk) : (d.crash [] 0 0).sure = d.sure := crashes_none [] 0 0 d.pend 0 d.sure (fun _ _ => rfl)

/-- All is kept: what is sure is what it read as. -/
theorem crash_keeps {d : Dk} (ok : d.Ok) (n : Nat) (hn : d.pend.length ≤ n) (j : Nat) (hj : j < d.sure.length) : (d.crash (upto n) (-1) 0).sureS (j : Int) = d.now j := by
  have e : (d.crash (upto n) (-1) 0).sure = Dk.syncs d.sure d.pend := Dk.crashes_all (upto n) 0 d.pend 0 d.sure (fun i hi => by rw [Nat.zero_add]; exact upto_has n i (by omega))
  unfold Dk.sureS
  rw [e, Dk.syncs_length, if_pos ⟨by omega, by omega⟩, Int.toNat_natCast]
  exact Dk.syncs_get d.pend d.sure ok.sect ok.rng ok.txt j hj

theorem sures_of (d d' : Dk) (h : d'.sure = d.sure) (i : Int) : d'.sureS i = d.sureS i := by unfold Dk.sureS; rw [h]

theorem Live.pend_write {d : Dk} {n m : Nat} (h : d.pend.length ≤ m) (i : Int) (s : ByteArray) : (d.write i s).pend.length ≤ m + 1 ∧ (d.write i s).sure = d.sure := by
  refine ⟨by have := Dk.write_pend d i s; omega, ?_⟩
  unfold Dk.write
  split <;> (try split) <;> rfl

section
variable {w : World} {R : Ending → World → Prop}

set_option maxRecDepth 100000 in
set_option maxHeartbeats 8000000 in
theorem forgets_walk {F : Asn} {v v' : Value} {l m : List Act4} (hl : ReadsActs F v l) (hm : ReadsActs F v' m) (H : Sat F w)
    (h : ∀ w', Sat F w' → Io w w' → R (.returned (.bool true)) w') :
    Calls Try.prog 7 #[v, v'] w R := by
  have HH : Hid (∀ w', Sat F w' → Io w w' → R (.returned (.bool true)) w') := h
  clear h
  obtain ⟨a, c, rfl⟩ := acts_len hl
  obtain ⟨a', c', rfl⟩ := acts_len hm
  cases hb : lightB 8 l with
  | false =>
    have HB := Lib.hid hb
    clear hb
    cases hx : lightB 8 m with
    | false =>
      have HX := Lib.hid hx
      clear hx
      go_enter Try.func7, Try.ntmps7
      go_wp2_with fail
      refine works_any H ?_
      intro w1 H1 I1
      go_wp2_with fail
      refine light_any 8 hl H1 ?_
      rw [HB.out]
      go_wp2_with fail
      refine light_any 8 hm H1 ?_
      rw [HX.out]
      go_wp2_with fail
      exact HH.out w1 H1 I1
    | true =>
      have HX := Lib.hid hx
      clear hx
      go_enter Try.func7, Try.ntmps7
      go_wp2_with fail
      refine works_any H ?_
      intro w1 H1 I1
      go_wp2_with fail
      refine light_any 8 hl H1 ?_
      rw [HB.out]
      go_wp2_with fail
      refine light_any 8 hm H1 ?_
      rw [HX.out]
      go_wp2_with fail
      exact HH.out w1 H1 I1
  | true =>
    have HB := Lib.hid hb
    clear hb
    cases hx : lightB 8 m with
    | false =>
      have HX := Lib.hid hx
      clear hx
      go_enter Try.func7, Try.ntmps7
      go_wp2_with fail
      refine works_any H ?_
      intro w1 H1 I1
      go_wp2_with fail
      refine light_any 8 hl H1 ?_
      rw [HB.out]
      go_wp2_with fail
      refine light_any 8 hm H1 ?_
      rw [HX.out]
      go_wp2_with fail
      exact HH.out w1 H1 I1
    | true =>
      have HX := Lib.hid hx
      clear hx
      have hlen : (l.length : Int) ≤ 60 := by have := light_len HB.out; omega
      have hlen2 : (m.length : Int) ≤ 60 := by have := light_len HX.out; omega
      have AL := Lib.hid (acts_at hl)
      have AM := Lib.hid (acts_at hm)
      go_enter Try.func7, Try.ntmps7
      go_wp2_with fail
      refine works_any H ?_
      intro w1 H1 I1
      go_wp2_with fail
      refine light_any 8 hl H1 ?_
      rw [HB.out]
      go_wp2_with fail
      refine light_any 8 hm H1 ?_
      rw [HX.out]
      go_wp2_with fail
      refine new_any 8 (by omega) (by omega) H1 ?_
      rw [show (min (max 8 0) 16384 : Int).toNat = 8 from rfl]
      intro p w2 H2 I2
      go_wp2_with fail
      refine new_any 8 (by omega) (by omega) H2 ?_
      rw [show (min (max 8 0) 16384 : Int).toNat = 8 from rfl]
      intro q w3 H3 I3
      have H5 : Sat (IsDk p (Dk.new 8) * (IsDk q (Dk.new 8) * F)) w3 := H3.of_eq (by ac_rfl)
      have I := (I1.trans I2).trans I3
      clear I1 I2 I3 H1 H2 H3 hl hm
      obtain ⟨i0, hi, hz0, hz1, hz2⟩ := info_parts Try.info9
      obtain ⟨i1, hj, hy0, hy1, hy2⟩ := info_parts Try.info3
      go_wp2_with fail
      go_loopw [10] (fun x wr => ∃ (k : Nat) (d : Dk), k ≤ l.length ∧ x = .int .i64 (k : Int) ∧ Live d k ∧ Sat (IsDk p d * (IsDk q d * F)) wr ∧ Io w wr) (fun x _ => l.length - (intOf x).toNat)
      case atStart => exact ⟨0, _, by omega, rfl, Live.new, H5, I⟩
      case round =>
        obtain ⟨k, d, hk, rfl, lv, Hk, Ik⟩ := hrel
        clear H5 I
        have FD := Lib.hid lv.fit
        have LV := Lib.hid lv
        clear lv
        by_cases hlt : k < l.length
        · have hlti : (k : Int) < (l.length : Int) := by omega
          obtain ⟨b, off, rfl, hc⟩ := AL.out k hlt
          generalize l[k].I = xi at *
          generalize l[k].B = xb at *
          generalize l[k].K = xk at *
          have HC := Lib.hid hc
          clear hc
          have Hd := Hk.drew
          go_wp2_with fail
          obtain ⟨_, q1, q2⟩ := HC.out _ Hd.right.right
          go_region_held3 (fun W => W.cell? ⟨b, off + k * 6 + 1, none⟩ = some (.int .i64 xi) ∧ W.cell? ⟨b, off + k * 6 + 2, none⟩ = some (.int .u8 (xb.toNat : Int))) (first | exact ⟨q1, q2⟩ | exact (HC.out _ H3.right.right).2 | exact (HC.out _ H4.right.right).2)
            (first | (go_at_call 14; refine page_any Hd xb ?_; intro w3 H3 I3) | (go_at_call 13; refine write_any H3 FD.out.ok (by have := FD.out.writes; omega) (by have := FD.out.pend; omega) xi (pageS xb) (by have := pageS_size xb; omega) ?_; intro w4 H4 I4))
          clear q1 q2
          go_wp2_with fail
          have H4' : Sat (IsDk q d * (IsDk p (d.write xi (pageS xb)) * F)) w4.drew := (H4.of_eq (by ac_rfl)).drew
          obtain ⟨_, q1, q2⟩ := HC.out _ H4'.right.right
          go_region_held3 (fun W => W.cell? ⟨b, off + k * 6 + 1, none⟩ = some (.int .i64 xi) ∧ W.cell? ⟨b, off + k * 6 + 2, none⟩ = some (.int .u8 (xb.toNat : Int))) (first | exact ⟨q1, q2⟩ | exact (HC.out _ H5.right.right).2 | exact (HC.out _ H6.right.right).2)
            (first | (go_at_call 14; refine page_any H4' xb ?_; intro w5 H5 I5) | (go_at_call 13; refine write_any H5 FD.out.ok (by have := FD.out.writes; omega) (by have := FD.out.pend; omega) xi (pageS xb) (by have := pageS_size xb; omega) ?_; intro w6 H6 I6))
          clear q1 q2
          have H7 : Sat (IsDk p (d.write xi (pageS xb)) * (IsDk q (d.write xi (pageS xb)) * F)) w6 := H6.of_eq (by ac_rfl)
          have J := ((((Ik.drew.trans I3).trans I4).drew).trans I5).trans I6
          have lv' := LV.out.write xi (pageS xb)
          clear H3 H4 H5 H6 H4' I3 I4 I5 I6 Hd Hk Ik
          generalize d.write xi (pageS xb) = d' at *
          have LV' := Lib.hid lv'
          clear lv'
          go_wp2_with fail
          go_roundw
          case rel => exact ⟨k + 1, d', by omega, by go_num, LV'.out, H7, J⟩
          case measure => simp [intOf]; omega
        · have hge1 : ¬ (k : Int) < (l.length : Int) := by omega
          have LV1 := Lib.hid (LV.out.sync)
          clear AL
          go_wp2_with fail
          refine sync_any Hk FD.out.ok (by have := FD.out.pend; omega) ?_
          intro w3 H3 I3
          go_wp2_with fail
          refine sync_any (d := d) (F := IsDk p d.sync * F) (H3.of_eq (by ac_rfl)) FD.out.ok (by have := FD.out.pend; omega) ?_
          intro w4 H4 I4
          have H5 : Sat (IsDk p d.sync * (IsDk q d.sync * F)) w4 := H4.of_eq (by ac_rfl)
          have hp0 : d.sync.pend.length = 0 := by simp [Dk.sync, LV.out.down, Dk.settle]
          have HP0 := Lib.hid hp0
          have J := (Ik.trans I3).trans I4
          clear hp0 H3 H4 I3 I4 Hk Ik FD LV
          generalize d.sync = s0 at *
          generalize d.syncE = e1 at *
          go_wp2_with fail
          go_loopw [11, 12] (fun v x wr => ∃ j : Nat, j ≤ 8 ∧ x = .int .i64 (j : Int) ∧ Sat (Row 9 1 v j (sures s0 j) * (IsDk p s0 * (IsDk q s0 * F))) wr ∧ Io w wr) (fun _ x _ => 8 - (intOf x).toNat)
          case atStart => exact ⟨0, by omega, rfl, row_nil _ _ _ _ H5, J⟩
          case round =>
            obtain ⟨j, hj8, rfl, Hr, Ir⟩ := hrel
            by_cases hlt8 : (j : Int) < 8
            · have hsn := Lib.hid (sures_succ s0 j)
              go_wp2_with (first | (go_at_call 16; refine dk_issure Hr.right (by have := LV1.out.fit.len; omega) _ ?_) | (at_builtin; refine wpList_append_new rfl (.tmp 76) (.tmp 80) 34 rfl 9 Try.underlying34 hi hz0 hz1 hz2 rfl rfl Hr 1 1 [.string (s0.sureS (j : Int))] rfl rfl rfl rfl (by omega) (by omega) (by omega) ?_; intro g1 k1 w6 H6 I7))
              go_roundw
              case rel => exact ⟨j + 1, by omega, by go_num, by rw [hsn.out]; exact H6, Ir.trans I7⟩
              case measure => simp [intOf]; omega
            · obtain rfl : j = 8 := by omega
              obtain ⟨g, cg, rfl⟩ := row_shape Hr (by omega)
              have Hs : Sat (Row 3 1 (.slice none 0 0) 0 ((upto 0).map (Value.int .i64)) * (Row 9 1 (.slice (some ⟨g, 0, none⟩) 8 cg) 8 (sures s0 8) * (IsDk p s0 * (IsDk q s0 * F)))) wr := row_nil _ _ _ _ Hr
              clear H5 J Hr
              go_wp2_with fail
              go_loopw [13, 14] (fun v x wr => ∃ (va : Value) (j : Nat) (d : Dk), va = v ∧ j ≤ m.length ∧ x = .int .i64 (j : Int) ∧ Live d (k + j) ∧ d.pend.length ≤ j ∧ d.sure = s0.sure ∧ Sat (Row 3 1 v j ((upto j).map (Value.int .i64)) * (Row 9 1 (.slice (some ⟨g, 0, none⟩) 8 cg) 8 (sures s0 8) * (IsDk p d * (IsDk q d * F)))) wr ∧ Io w wr) (fun _ x _ => m.length - (intOf x).toNat)
              case atStart => exact ⟨_, 0, s0, rfl, by omega, rfl, LV1.out, by have := HP0.out; omega, rfl, Hs, Ir⟩
              case round =>
                obtain ⟨va, j, d, rfl, hjm, rfl, lv, hpj, hsu, Hk, Ik⟩ := hrel
                have FD := Lib.hid lv.fit
                have LV := Lib.hid lv
                have HPJ := Lib.hid hpj
                have HSU := Lib.hid hsu
                clear lv hpj hsu Hs Ir
                by_cases hlt2 : j < m.length
                · have hlti2 : (j : Int) < (m.length : Int) := by omega
                  obtain ⟨b, off, rfl, hc⟩ := AM.out j hlt2
                  generalize m[j].I = xi at *
                  generalize m[j].B = xb at *
                  generalize m[j].K = xk at *
                  have HC := Lib.hid hc
                  clear hc
                  have Hd : Sat (IsDk p d * (IsDk q d * (Row 3 1 _ j ((upto j).map (Value.int .i64)) * (Row 9 1 (.slice (some ⟨g, 0, none⟩) 8 cg) 8 (sures s0 8) * F)))) wr.drew := (Hk.of_eq (by ac_rfl)).drew
                  go_wp2_with fail
                  obtain ⟨_, q1, q2⟩ := HC.out _ Hd.right.right.right.right
                  go_region_held3 (fun W => W.cell? ⟨b, off + j * 6 + 1, none⟩ = some (.int .i64 xi) ∧ W.cell? ⟨b, off + j * 6 + 2, none⟩ = some (.int .u8 (xb.toNat : Int))) (first | exact ⟨q1, q2⟩ | exact (HC.out _ H3.right.right.right.right).2 | exact (HC.out _ H4.right.right.right.right).2)
                    (first | (go_at_call 14; refine page_any Hd xb ?_; intro w3 H3 I3) | (go_at_call 13; refine write_any H3 FD.out.ok (by have := FD.out.writes; omega) (by have := FD.out.pend; omega) xi (pageS xb) (by have := pageS_size xb; omega) ?_; intro w4 H4 I4))
                  clear q1 q2
                  go_wp2_with fail
                  have H4' : Sat (IsDk q d * (IsDk p (d.write xi (pageS xb)) * (Row 3 1 _ j ((upto j).map (Value.int .i64)) * (Row 9 1 (.slice (some ⟨g, 0, none⟩) 8 cg) 8 (sures s0 8) * F)))) w4.drew := (H4.of_eq (by ac_rfl)).drew
                  obtain ⟨_, q1, q2⟩ := HC.out _ H4'.right.right.right.right
                  go_region_held3 (fun W => W.cell? ⟨b, off + j * 6 + 1, none⟩ = some (.int .i64 xi) ∧ W.cell? ⟨b, off + j * 6 + 2, none⟩ = some (.int .u8 (xb.toNat : Int))) (first | exact ⟨q1, q2⟩ | exact (HC.out _ H5.right.right.right.right).2 | exact (HC.out _ H6.right.right.right.right).2)
                    (first | (go_at_call 14; refine page_any H4' xb ?_; intro w5 H5 I5) | (go_at_call 13; refine write_any H5 FD.out.ok (by have := FD.out.writes; omega) (by have := FD.out.pend; omega) xi (pageS xb) (by have := pageS_size xb; omega) ?_; intro w6 H6 I6))
                  clear q1 q2
                  have H7 : Sat (Row 3 1 _ j ((upto j).map (Value.int .i64)) * (Row 9 1 (.slice (some ⟨g, 0, none⟩) 8 cg) 8 (sures s0 8) * (IsDk p (d.write xi (pageS xb)) * (IsDk q (d.write xi (pageS xb)) * F)))) w6 := H6.of_eq (by ac_rfl)
                  have J := ((((Ik.drew.trans I3).trans I4).drew).trans I5).trans I6
                  have lv' := LV.out.write xi (pageS xb)
                  have pw := Live.pend_write (n := 0) HPJ.out xi (pageS xb)
                  rw [HSU.out] at pw
                  clear H3 H4 H5 H6 H4' I3 I4 I5 I6 Hd Hk Ik
                  generalize d.write xi (pageS xb) = d' at *
                  have LV' := Lib.hid lv'
                  have PW := Lib.hid pw
                  have hsn := Lib.hid (upto_succ j)
                  clear lv' pw
                  go_wp2_with (at_builtin; refine wpList_append_new rfl (.tmp 114) (.tmp 116) 23 rfl 3 Try.underlying23 hj hy0 hy1 hy2 rfl rfl H7 1 1 [.int .i64 (j : Int)] rfl rfl rfl rfl (by omega) (by omega) (by omega) ?_; intro g1 k1 w8 H8 I8)
                  go_roundw
                  case rel => exact ⟨_, j + 1, d', rfl, by omega, by go_num, LV'.out, PW.out.1, PW.out.2, by rw [hsn.out]; exact H8, J.trans I8⟩
                  case measure => simp [intOf]; omega
                · obtain rfl : j = m.length := by omega
                  have hge2 : ¬ (m.length : Int) < (m.length : Int) := by omega
                  clear AM
                  have RA := Lib.hid (reads_row Hk (by omega))
                  have Hn : Sat (Row 9 1 (.slice none 0 0) 0 (nows d 0) * (Row 3 1 va m.length ((upto m.length).map (Value.int .i64)) * (Row 9 1 (.slice (some ⟨g, 0, none⟩) 8 cg) 8 (sures s0 8) * (IsDk p d * (IsDk q (d.seen 0) * F))))) wr := by
                    have e : d.seen 0 = d := by simp [Dk.seen]
                    rw [e]
                    exact row_nil _ _ _ _ Hk
                  go_wp2_with fail
                  go_loopw [15, 16] (fun v x wr => ∃ i : Nat, i ≤ 8 ∧ x = .int .i64 (i : Int) ∧ Sat (Row 9 1 v i (nows d i) * (Row 3 1 va m.length ((upto m.length).map (Value.int .i64)) * (Row 9 1 (.slice (some ⟨g, 0, none⟩) 8 cg) 8 (sures s0 8) * (IsDk p d * (IsDk q (d.seen i) * F))))) wr ∧ Io w wr) (fun _ x _ => 8 - (intOf x).toNat)
                  case atStart => exact ⟨0, by omega, rfl, Hn, Ik⟩
                  case round =>
                    obtain ⟨i, hi8, rfl, Hr, Ir⟩ := hrel
                    clear Hn
                    by_cases hlt9 : (i : Int) < 8
                    · obtain ⟨s1, s2, s3⟩ := (LV.out.seen i).at i (by omega)
                      have S1 := Lib.hid s1
                      have S2 : Hid ((d.seen i).readS (i : Int) = d.now i) := Lib.hid s2
                      have S3 : Hid ((d.seen i).read (i : Int) = d.seen (i + 1)) := Lib.hid (by rw [s3]; simp [Dk.seen]; omega)
                      have fk := Lib.hid (LV.out.seen i).fit
                      clear s1 s2 s3
                      have Hs' : Sat (IsDk q (d.seen i) * (Row 9 1 _ i (nows d i) * (Row 3 1 va m.length ((upto m.length).map (Value.int .i64)) * (Row 9 1 (.slice (some ⟨g, 0, none⟩) 8 cg) 8 (sures s0 8) * (IsDk p d * F))))) wr := Hr.of_eq (by ac_rfl)
                      go_wp2_with fail
                      refine read_any Hs' fk.out.ok (by have := fk.out.reads; omega) (i : Int) ?_
                      rw [S1.out, S2.out, S3.out]
                      intro w3 H3 I3
                      have H4 := H3.of_eq (show _ = Row 9 1 _ i (nows d i) * (Row 3 1 va m.length ((upto m.length).map (Value.int .i64)) * (Row 9 1 (.slice (some ⟨g, 0, none⟩) 8 cg) 8 (sures s0 8) * (IsDk p d * (IsDk q (d.seen (i + 1)) * F)))) from by ac_rfl)
                      have hsn := Lib.hid (nows_succ d i)
                      clear S1 S2 S3 H3 Hs' fk Hr
                      go_wp2_with (at_builtin; refine wpList_append_new rfl (.tmp 128) (.tmp 130) 34 rfl 9 Try.underlying34 hi hz0 hz1 hz2 rfl rfl H4 1 1 [.string (d.now i)] rfl rfl rfl rfl (by omega) (by omega) (by omega) ?_; intro g1 k1 w6 H6 I7)
                      go_roundw
                      case rel => exact ⟨i + 1, by omega, by go_num, by rw [hsn.out]; exact H6, (Ir.trans I3).trans I7⟩
                      case measure => simp [intOf]; omega
                    · obtain rfl : i = 8 := by omega
                      obtain ⟨gn, cn, rfl⟩ := row_shape Hr (by omega)
                      have Hp : Sat (IsDk p d * (IsDk q (d.seen 8) * (Row 3 1 va m.length ((upto m.length).map (Value.int .i64)) * (Row 9 1 (.slice (some ⟨gn, 0, none⟩) 8 cn) 8 (nows d 8) * (Row 9 1 (.slice (some ⟨g, 0, none⟩) 8 cg) 8 (sures s0 8) * F))))) wr := Hr.of_eq (by ac_rfl)
                      have f8 := Lib.hid (LV.out.seen 8).fit
                      have eP : Hid (∀ i : Nat, i < 8 → (d.crash [] 0 0).sureS (i : Int) = s0.sureS (i : Int)) := Lib.hid fun i _ => sures_of _ _ ((crash_forgets d).trans HSU.out) _
                      have eQ : Hid (∀ i : Nat, i < 8 → ((d.seen 8).crash (upto m.length) (-1) 0).sureS (i : Int) = d.now i) := Lib.hid fun i hi => crash_keeps f8.out.ok m.length (by exact HPJ.out) i (by have := f8.out.len; omega)
                      have hPl : Hid ((d.crash [] 0 0).sure.length ≤ 16384) := Lib.hid (by rw [crash_forgets]; have := FD.out.len; omega)
                      have hQl : Hid (((d.seen 8).crash (upto m.length) (-1) 0).sure.length ≤ 16384) := Lib.hid (by have := (f8.out.crash (upto m.length) (-1) 0).len; omega)
                      have NG := Lib.hid (nows_get d 8)
                      have SG := Lib.hid (sures_get s0 8)
                      generalize nows d 8 = ns at *
                      generalize sures s0 8 = ss at *
                      generalize d.seen 8 = d8 at *
                      clear Hr LV
                      go_wp2_with fail
                      refine crash_any Hp (ReadsInts.nil _) FD.out.ok (by have := FD.out.pend; omega) 0 0 ?_
                      intro w3 H3 I3
                      generalize d.crash [] 0 0 = dp at *
                      have Hq : Sat (IsDk q d8 * (Row 3 1 va m.length ((upto m.length).map (Value.int .i64)) * (Row 9 1 (.slice (some ⟨gn, 0, none⟩) 8 cn) 8 ns * (Row 9 1 (.slice (some ⟨g, 0, none⟩) 8 cg) 8 ss * (IsDk p dp * F))))) w3 := H3.of_eq (by ac_rfl)
                      have RA4 := reads_row Hq.right (by omega)
                      go_wp2_with fail
                      refine crash_any Hq RA4 f8.out.ok (by have := f8.out.pend; omega) (-1) 0 ?_
                      intro w4 H4 I4
                      generalize d8.crash (upto m.length) (-1) 0 = dq at *
                      have H5 : Sat (Row 9 1 (.slice (some ⟨gn, 0, none⟩) 8 cn) 8 ns * (Row 9 1 (.slice (some ⟨g, 0, none⟩) 8 cg) 8 ss * (IsDk p dp * (IsDk q dq * F)))) w4 :=
                        (H4.of_eq (show _ = Row 3 1 va m.length ((upto m.length).map (Value.int .i64)) * (Row 9 1 (.slice (some ⟨gn, 0, none⟩) 8 cn) 8 ns * (Row 9 1 (.slice (some ⟨g, 0, none⟩) 8 cg) 8 ss * (IsDk p dp * (IsDk q dq * F)))) from by ac_rfl)).right
                      have J := (Ir.trans I3).trans I4
                      clear H3 H4 I3 I4 Hq Hp Ir RA4 f8 RA Hk Ik
                      go_wp2_with fail
                      go_loopw [19] (fun x wr => ∃ i : Nat, i ≤ 8 ∧ x = .int .i64 (i : Int) ∧ Sat (Row 9 1 (.slice (some ⟨gn, 0, none⟩) 8 cn) 8 ns * (Row 9 1 (.slice (some ⟨g, 0, none⟩) 8 cg) 8 ss * (IsDk p dp * (IsDk q dq * F)))) wr ∧ Io w wr) (fun x _ => 8 - (intOf x).toNat)
                      case atStart => exact ⟨0, by omega, rfl, H5, J⟩
                      case round =>
                        obtain ⟨i, hi8, rfl, Hr, Ir⟩ := hrel
                        clear H5 J
                        by_cases hlt10 : (i : Int) < 8
                        · have q0 := row_cell Hr i _ (NG.out i (by omega))
                          have q1 := row_cell Hr.right i _ (SG.out i (by omega))
                          have hq1 : ∀ n, Calls Try.prog 16 #[.pointer (some ⟨p, 0, none⟩), .int .i64 (i : Int)] (wr.drewN n) fun e w' => e = .returned (.string (s0.sureS (i : Int))) ∧ w' = wr.drewN n :=
                            fun n => dk_issure (R := fun e w' => e = .returned (.string (s0.sureS (i : Int))) ∧ w' = wr.drewN n) (Hr.right.right.drewN n) hPl.out (i : Int) ⟨by rw [eP.out i (by omega)], rfl⟩
                          have hq2 : ∀ n, Calls Try.prog 16 #[.pointer (some ⟨q, 0, none⟩), .int .i64 (i : Int)] (wr.drewN n) fun e w' => e = .returned (.string (d.now i)) ∧ w' = wr.drewN n :=
                            fun n => dk_issure (R := fun e w' => e = .returned (.string (d.now i)) ∧ w' = wr.drewN n) (Hr.right.right.right.drewN n) hQl.out (i : Int) ⟨by rw [eQ.out i (by omega)], rfl⟩
                          have HQ1 := Lib.hid hq1
                          have HQ2 := Lib.hid hq2
                          clear hq1 hq2
                          generalize s0.sureS (i : Int) = t1 at *
                          generalize d.now i = t2 at *
                          go_wp2_with fail
                          go_quiet ((first | (go_at_call_of 16 (Value.pointer (some ⟨p, 0, none⟩)); exact Calls.quiet_of_same (HQ1.out _)) | (go_at_call_of 16 (Value.pointer (some ⟨q, 0, none⟩)); exact Calls.quiet_of_same (HQ2.out _))))
                          go_wp2_with fail
                          go_roundw
                          case rel => exact ⟨i + 1, by omega, by go_num, Hr.drewN _, Ir.drewN _⟩
                          case measure => simp [intOf]; omega
                        · go_wp2_with fail
                          exact HH.out _ Hr.right.right.right.right Ir
end
end Go.Proofs.Ytnkekdeicgmelaa
