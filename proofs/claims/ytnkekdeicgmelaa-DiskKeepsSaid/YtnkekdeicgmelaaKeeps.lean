/-
  The statement DiskKeeps, walked: it answers true. It proves the walk alone; the row is closed elsewhere.
-/
import Derived.Test.YtnkekdeicgmelaaApart
namespace Go.Proofs.Ytnkekdeicgmelaa
open Go.RowKit
set_option linter.unusedSimpArgs false
set_option linter.unusedVariables false

/-- Bools as cells. -/
def tvals (ts : List Bool) : List Value := ts.map Value.bool
theorem tvals_get (ts : List Bool) (j : Nat) (h : j < ts.length) : (tvals ts)[j]? = some (.bool (ts.getD j false)) := by simp [tvals, List.getD, h]
theorem tvals_set (ts : List Bool) (j : Nat) : (tvals ts).set j (.bool true) = tvals (ts.set j true) := by simp [tvals, List.map_set]
theorem tset_true (ts : List Bool) (k : Nat) (h : k < ts.length) : (ts.set k true).getD k false = true := by simp [List.getD, h]
theorem tset_keep (ts : List Bool) (k j : Nat) (h : ts.getD j false = true) : (ts.set k true).getD j false = true := by
  by_cases e : k = j
  · subst e
    by_cases hk : k < ts.length
    · simp [List.getD, hk]
    · rw [List.set_eq_of_length_le (by omega)]; exact h
  · rw [List.getD_eq_getElem?_getD, List.getElem?_set_ne e]; simpa [List.getD] using h

/-- What is pending is marked. -/
def Tch (d : Dk) (ts : List Bool) : Prop := ∀ q ∈ d.pend, ts.getD q.1.toNat false = true

theorem Tch.none {d : Dk} (h : d.pend = []) (ts : List Bool) : Tch d ts := fun q hq => by rw [h] at hq; cases hq

theorem Tch.write {d : Dk} {ts : List Bool} (h : Tch d ts) {n : Nat} (lv : Live d n) (hl : ts.length = 8) (i : Int) (s : ByteArray) (he : d.writeE i s = 0) : Tch (d.write i s) (ts.set i.toNat true) := by
  obtain ⟨i0, i8⟩ := lv.writeE i s he
  intro q hq
  have hp : (d.write i s).pend = d.pend ∨ (d.write i s).pend = d.pend ++ [(i, s)] := by
    unfold Dk.write
    split
    · exact .inl rfl
    · split
      · exact .inl rfl
      · exact .inr rfl
  rcases hp with e | e
  · rw [e] at hq; exact tset_keep _ _ _ (h q hq)
  · rw [e] at hq
    rcases List.mem_append.1 hq with hq | hq
    · exact tset_keep _ _ _ (h q hq)
    · rw [List.mem_singleton] at hq
      subst hq
      exact tset_true _ _ (by omega)

theorem write_sure (d : Dk) (i : Int) (s : ByteArray) : (d.write i s).sure = d.sure := by
  unfold Dk.write
  split <;> (try split) <;> rfl

theorem keeps_crash {d s0 : Dk} {ts : List Bool} (h : Tch d ts) (hs : d.sure = s0.sure) (i : Nat) (ht : ts.getD i false = false) (keep : List Int) (torn cut : Int) : (d.crash keep torn cut).sureS (i : Int) = s0.sureS (i : Int) := by
  have e : ∀ sure : List ByteArray, (Dk.crashes keep torn cut 0 d.pend sure).getD i ByteArray.empty = sure.getD i ByteArray.empty := fun sure =>
    Dk.crashes_other keep torn cut i d.pend 0 sure fun q hq e => by have := h q hq; rw [e, ht] at this; cases this
  have el : (Dk.crashes keep torn cut 0 d.pend d.sure).length = s0.sure.length := by
    rw [Dk.crashes_length, hs]
  unfold Dk.sureS
  show (if 0 ≤ (i : Int) ∧ (i : Int) < ((Dk.crashes keep torn cut 0 d.pend d.sure).length : Int) then (Dk.crashes keep torn cut 0 d.pend d.sure).getD (i : Int).toNat ByteArray.empty else ByteArray.empty) = _
  rw [el, Int.toNat_natCast, e, hs]

section
variable {w : World} {R : Ending → World → Prop}

theorem page_lit {F : Asn} (H : Sat F w) (k : Int) (b : UInt8) (e : (b.toNat : Int) = k) (h : ∀ w', Sat F w' → Io w w' → R (.returned (.string (pageS b))) w') :
    Calls Try.prog 14 #[.int .u8 k] w R := by
  subst e; exact page_any H b h

theorem made8 {F : Asn} (H : Sat F w) (v : Value) (e : TypeId) : Sat (Row e 1 (.slice (some ⟨w.heap.size, 0, none⟩) 8 8) 8 (List.replicate 8 v) * F) (w.alloc (.cells (List.replicate 8 v).toArray e)) :=
  sat_row.2 ⟨by simp, .inr ⟨w.heap.size, 8, _, rfl, Nat.le_refl _, by decide, by simp, by simp, H.new _⟩⟩

set_option maxRecDepth 100000 in
set_option maxHeartbeats 4000000 in
theorem keeps_walk {F : Asn} {v kv lv : Value} {l : List Act4} {keep zs : List Int} (hl : ReadsActs F v l) (hk : ReadsInts F kv keep) (torn cut : Int) (hz : ReadsInts F lv zs) (H : Sat F w)
    (h : ∀ w', Sat F w' → Io w w' → R (.returned (.bool true)) w') :
    Calls Try.prog 8 #[v, kv, .int .i64 torn, .int .i64 cut, lv] w R := by
  have HH : Hid (∀ w', Sat F w' → Io w w' → R (.returned (.bool true)) w') := h
  clear h
  obtain ⟨a, c, rfl⟩ := acts_len hl
  obtain ⟨ka, kn, kc, rfl, e2, e3, _⟩ := id hk
  obtain ⟨za, zn, zc, rfl, f2, f3, f4⟩ := id hz
  have ZC := Lib.hid f4
  clear e2 e3 f2 f4 hz
  have f3' : (zn : Int) ≤ 9223372036854775807 := by omega
  clear f3
  cases hb : lightB 8 l with
  | false =>
    have HB := Lib.hid hb
    clear hb
    go_enter Try.func8, Try.ntmps8
    go_wp2_with fail
    refine works_any H ?_
    intro w1 H1 I1
    go_wp2_with fail
    refine light_any 8 hl H1 ?_
    rw [HB.out]
    go_wp2_with fail
    exact HH.out w1 H1 I1
  | true =>
    have HB := Lib.hid hb
    clear hb
    by_cases hkn : (kn : Int) ≤ 60
    · by_cases hzn : (zn : Int) ≤ 60
      · have hlen : (l.length : Int) ≤ 60 := by have := light_len HB.out; omega
        have AL := Lib.hid (acts_at hl)
        go_enter Try.func8, Try.ntmps8
        go_wp2_with fail
        refine works_any H ?_
        intro w1 H1 I1
        go_wp2_with fail
        refine light_any 8 hl H1 ?_
        rw [HB.out]
        go_wp2_with fail
        refine new_any 8 (by omega) (by omega) H1 ?_
        rw [show (min (max 8 0) 16384 : Int).toNat = 8 from rfl]
        intro p w2 H2 I2
        have I := I1.trans I2
        clear I1 I2 H1 hl
        obtain ⟨i0, hi, hz0, hz1, hz2⟩ := info_parts Try.info9
        go_wp2_with fail
        go_loopw [14] (fun x wr => ∃ (k : Nat) (d : Dk), k ≤ l.length ∧ x = .int .i64 (k : Int) ∧ Live d k ∧ Sat (IsDk p d * F) wr ∧ Io w wr) (fun x _ => l.length - (intOf x).toNat)
        case atStart => exact ⟨0, _, by omega, rfl, Live.new, H2, I⟩
        case round =>
          obtain ⟨k, d, hk1, rfl, lv, Hk, Ik⟩ := hrel
          clear H2 I
          have FD := Lib.hid lv.fit
          have LV := Lib.hid lv
          clear lv
          by_cases hlt : k < l.length
          · have hlti : (k : Int) < (l.length : Int) := by omega
            obtain ⟨b, off, rfl, hc⟩ := AL.out k hlt
            generalize l[k].I = xi at *
            generalize l[k].B = xb at *
            generalize l[k].K = xk at *
            have HC := Lib.hid hc
            clear hc
            have Hd := Hk.drew
            go_wp2_with fail
            obtain ⟨_, q1, q2⟩ := HC.out _ Hd.right
            go_region_held3 (fun W => W.cell? ⟨b, off + k * 6 + 1, none⟩ = some (.int .i64 xi) ∧ W.cell? ⟨b, off + k * 6 + 2, none⟩ = some (.int .u8 (xb.toNat : Int))) (first | exact ⟨q1, q2⟩ | exact (HC.out _ H3.right).2 | exact (HC.out _ H4.right).2)
              (first | (go_at_call 14; refine page_any Hd xb ?_; intro w3 H3 I3) | (go_at_call 13; refine write_any H3 FD.out.ok (by have := FD.out.writes; omega) (by have := FD.out.pend; omega) xi (pageS xb) (by have := pageS_size xb; omega) ?_; intro w4 H4 I4))
            clear q1 q2
            have J := ((Ik.drew.trans I3).trans I4)
            have lv' := LV.out.write xi (pageS xb)
            clear H3 I3 I4 Hd Hk Ik
            generalize d.write xi (pageS xb) = d' at *
            have LV' := Lib.hid lv'
            clear lv'
            go_wp2_with fail
            go_roundw
            case rel => exact ⟨k + 1, d', by omega, by go_num, LV'.out, H4, J⟩
            case measure => simp [intOf]; omega
          · have hge1 : ¬ (k : Int) < (l.length : Int) := by omega
            have LV1 := Lib.hid ((LV.out.sync).mono (show _ ≤ 60 from by omega))
            clear AL
            go_wp2_with fail
            refine sync_any Hk FD.out.ok (by have := FD.out.pend; omega) ?_
            rw [show d.syncE = 0 from by simp [Dk.syncE, LV.out.down]]
            intro w3 H3 I3
            have hp0 : d.sync.pend = [] := by simp [Dk.sync, LV.out.down, Dk.settle]
            have J := Ik.trans I3
            clear I3 Hk Ik FD LV
            generalize d.sync = s0 at *
            have hp1 : s0.pend.length = 0 := by rw [hp0]; rfl
            have HP0 := Lib.hid hp0
            have HP1 := Lib.hid hp1
            clear hp0 hp1
            go_wp2_with fail
            refine dk_length H3 (by rw [HP1.out]; omega) ?_
            rw [HP1.out]
            have H5 : Sat (IsDk p (s0.seen 0) * F) w3 := by
              have e : s0.seen 0 = s0 := by simp [Dk.seen]
              rw [e]; exact H3
            clear H3
            go_wp2_with fail
            go_loopw [15, 16] (fun v x wr => ∃ j : Nat, j ≤ 8 ∧ x = .int .i64 (j : Int) ∧ Sat (Row 9 1 v j (sures s0 j) * (IsDk p (s0.seen j) * F)) wr ∧ Io w wr) (fun _ x _ => 8 - (intOf x).toNat)
            case atStart => exact ⟨0, by omega, rfl, row_nil _ _ _ _ H5, J⟩
            case round =>
              obtain ⟨j, hj8, rfl, Hr, Ir⟩ := hrel
              clear H5 J
              by_cases hlt8 : (j : Int) < 8
              · have hsn := Lib.hid (sures_succ s0 j)
                have hlen8 := LV1.out.fit.len
                obtain ⟨s1, s2, s3⟩ := Dk.seen_step s0 j (j : Int) LV1.out.down (by omega) (by omega)
                have S1 := Lib.hid s1
                have S2 := Lib.hid s2
                have S3 := Lib.hid (s3 HP0.out)
                have fk := Lib.hid (LV1.out.seen j).fit
                have hm11 : Hid ((s0.seen (j + 1)).sure.length ≤ 16384) := Lib.hid (by show s0.sure.length ≤ _; omega)
                clear s1 s2 s3 hlen8
                have Hs' : Sat (IsDk p (s0.seen j) * (Row 9 1 _ j (sures s0 j) * F)) wr := Hr.of_eq (by ac_rfl)
                go_wp2_with fail
                refine read_any Hs' fk.out.ok (by have := fk.out.reads; omega) (j : Int) ?_
                rw [S1.out, S2.out, S3.out]
                intro w4 H4 I4
                have hss : Hid ((s0.seen (j + 1)).sureS (j : Int) = s0.sureS (j : Int)) := Lib.hid rfl
                clear S1 S2 S3 Hs' Hr fk
                go_wp2_with fail
                refine dk_issure H4 hm11.out (j : Int) ?_
                rw [hss.out]
                have H6 := H4.of_eq (show _ = Row 9 1 _ j (sures s0 j) * (IsDk p (s0.seen (j + 1)) * F) from by ac_rfl)
                clear H4
                go_wp2_with (at_builtin; refine wpList_append_new rfl (.tmp 90) (.tmp 92) 34 rfl 9 Try.underlying34 hi hz0 hz1 hz2 rfl rfl H6 1 1 [.string (s0.sureS (j : Int))] rfl rfl rfl rfl (by omega) (by omega) (by omega) ?_; intro g1 k1 w6 H7 I7)
                go_roundw
                case rel => exact ⟨j + 1, by omega, by go_num, by rw [hsn.out]; exact H7, (Ir.trans I4).trans I7⟩
                case measure => simp [intOf]; omega
              · obtain rfl : j = 8 := by omega
                obtain ⟨g, cg, rfl⟩ := row_shape Hr (by omega)
                have hmk0 : (Instr.makeSlice 45 (.int .i64 8) (.int .i64 8)).run Try.prog wr = .ok (.slice (some ⟨wr.heap.size, 0, none⟩) 8 8) (wr.alloc (.cells (List.replicate 8 (Value.bool false)).toArray 4)) := by kernel_rfl
                obtain ⟨tb, wm, hmk, Hm, Im⟩ : ∃ tb wm, (Instr.makeSlice 45 (.int .i64 8) (.int .i64 8)).run Try.prog wr = .ok (.slice (some ⟨tb, 0, none⟩) 8 8) wm ∧ Sat (Row 4 1 (.slice (some ⟨tb, 0, none⟩) 8 8) 8 (tvals (List.replicate 8 false)) * (Row 9 1 (.slice (some ⟨g, 0, none⟩) 8 cg) 8 (sures s0 8) * (IsDk p (s0.seen 8) * F))) wm ∧ Io w wm :=
                  ⟨_, _, hmk0, made8 Hr (.bool false) 4, Ir.alloc _⟩
                clear hmk0 Hr
                have SG := Lib.hid (sures_get s0 8)
                generalize sures s0 8 = ss at *
                go_wp2_with fail
                clear hmk
                go_loopw [20] (fun x wr => ∃ (j : Nat) (d : Dk) (ts : List Bool), j ≤ zn ∧ x = .int .i64 (j : Int) ∧ Live d (68 + j) ∧ d.sure = s0.sure ∧ ts.length = 8 ∧ Tch d ts ∧ Sat (Row 4 1 (.slice (some ⟨tb, 0, none⟩) 8 8) 8 (tvals ts) * (Row 9 1 (.slice (some ⟨g, 0, none⟩) 8 cg) 8 ss * (IsDk p d * F))) wr ∧ Io w wr) (fun x _ => zn - (intOf x).toNat)
                case atStart => exact ⟨0, s0.seen 8, List.replicate 8 false, by omega, rfl, LV1.out.seen 8, rfl, rfl, Tch.none HP0.out _, Hm, Im⟩
                case round =>
                  obtain ⟨j, d, ts, hjm, rfl, lv, hsu, htl, htc, Hk, Ik⟩ := hrel
                  have FD := Lib.hid lv.fit
                  have LV := Lib.hid lv
                  have HSU := Lib.hid hsu
                  have HTL := Lib.hid htl
                  have HTC := Lib.hid htc
                  clear lv hsu htl htc Hm Im
                  by_cases hlt2 : j < zn
                  · have hlti2 : (j : Int) < (zn : Int) := by omega
                    obtain ⟨b, off, rfl, hc⟩ : ∃ b off, za = some ⟨b, off, none⟩ ∧ ∀ w, Sat F w → w.cell? ⟨b, off + j, none⟩ = some (.int .i64 (zs.getD j 0)) := by
                      rcases ZC.out with h0 | ⟨b, off, e, h6⟩
                      · omega
                      · exact ⟨b, off, e, fun w hw => h6 w hw j hlt2⟩
                    generalize zs.getD j 0 = z at *
                    have HC := Lib.hid hc
                    clear hc
                    have Hd : Sat (IsDk p d * (Row 4 1 (.slice (some ⟨tb, 0, none⟩) 8 8) 8 (tvals ts) * (Row 9 1 (.slice (some ⟨g, 0, none⟩) 8 cg) 8 ss * F))) wr.drew := (Hk.of_eq (by ac_rfl)).drew
                    have q1 := HC.out _ Hd.right.right.right
                    by_cases he : d.writeE z (pageS 7) = 0
                    · have HE := Lib.hid he
                      obtain ⟨r0, r8⟩ := LV.out.writeE _ _ he
                      have lv' := Lib.hid (LV.out.write z (pageS 7))
                      have tc' := Lib.hid (HTC.out.write LV.out HTL.out z (pageS 7) he)
                      have su' : Hid ((d.write z (pageS 7)).sure = s0.sure) := Lib.hid (by rw [write_sure]; exact HSU.out)
                      have tl' : Hid ((ts.set z.toNat true).length = 8) := Lib.hid (by rw [List.length_set]; exact HTL.out)
                      have tv := Lib.hid (tvals_set ts z.toNat)
                      have tg := Lib.hid (tvals_get ts z.toNat (by have := HTL.out; omega))
                      clear he
                      generalize ts.getD z.toNat false = told at *
                      go_wp2_with fail
                      go_region_held3 (fun W => W.cell? ⟨b, off + j, none⟩ = some (.int .i64 z)) (first | exact q1 | exact HC.out _ H3.right.right.right | exact HC.out _ H4.right.right.right)
                        (first | (go_at_call 14; refine page_lit Hd 7 7 rfl ?_; intro w3 H3 I3) | (go_at_call 13; refine write_any H3 FD.out.ok (by have := FD.out.writes; omega) (by have := FD.out.pend; omega) z (pageS 7) (by have := pageS_size 7; omega) ?_; rw [HE.out]; intro w4 H4 I4))
                      clear q1
                      have J := ((Ik.drew.trans I3).trans I4)
                      generalize d.write z (pageS 7) = d' at *
                      have H5 : Sat (Row 4 1 (.slice (some ⟨tb, 0, none⟩) 8 8) 8 (tvals ts) * (Row 9 1 (.slice (some ⟨g, 0, none⟩) 8 cg) 8 ss * (IsDk p d' * F))) w4 := H4.of_eq (by ac_rfl)
                      clear H3 H4 I3 I4 Hd Hk Ik
                      have q2 := HC.out _ H5.right.right.right
                      have c5 := row_cell H5 z.toNat _ tg.out
                      have f5 := (row_free H5 z.toNat).1
                      have H6 := row_set H5 z.toNat (by omega) (.bool true)
                      have J6 := J.setCell ⟨tb, z.toNat, none⟩ (.bool true)
                      clear J H5
                      go_wp2_with fail
                      go_roundw
                      case rel => exact ⟨j + 1, d', _, by omega, by go_num, lv'.out, su'.out, tl'.out, tc'.out, by rw [← tv.out]; exact H6, J6⟩
                      case measure => simp [intOf]; omega
                    · have HWS := Lib.hid (Dk.write_same z (pageS 7) LV.out.left he)
                      generalize hev : d.writeE z (pageS 7) = ev at *
                      have HE := Lib.hid hev
                      have hev1 : (ev == 0) = false := by simpa using he
                      clear hev he
                      go_wp2_with fail
                      go_region_held3 (fun W => W.cell? ⟨b, off + j, none⟩ = some (.int .i64 z)) (first | exact q1 | exact HC.out _ H3.right.right.right | exact HC.out _ H4.right.right.right)
                        (first | (go_at_call 14; refine page_lit Hd 7 7 rfl ?_; intro w3 H3 I3) | (go_at_call 13; refine write_any H3 FD.out.ok (by have := FD.out.writes; omega) (by have := FD.out.pend; omega) z (pageS 7) (by have := pageS_size 7; omega) ?_; rw [HE.out]; intro w4 H4 I4))
                      clear q1
                      have J := ((Ik.drew.trans I3).trans I4)
                      rw [HWS.out] at H4
                      have H5 : Sat (Row 4 1 (.slice (some ⟨tb, 0, none⟩) 8 8) 8 (tvals ts) * (Row 9 1 (.slice (some ⟨g, 0, none⟩) 8 cg) 8 ss * (IsDk p d * F))) w4 := H4.of_eq (by ac_rfl)
                      clear H3 H4 I3 I4 Hd Hk Ik
                      go_wp2_with fail
                      go_roundw
                      case rel => exact ⟨j + 1, d, ts, by omega, by go_num, LV.out.mono (by omega), HSU.out, HTL.out, HTC.out, H5, J⟩
                      case measure => simp [intOf]; omega
                  · obtain rfl : j = zn := by omega
                    have hge2 : ¬ (j : Int) < (j : Int) := by omega
                    have Hp : Sat (IsDk p d * (Row 4 1 (.slice (some ⟨tb, 0, none⟩) 8 8) 8 (tvals ts) * (Row 9 1 (.slice (some ⟨g, 0, none⟩) 8 cg) 8 ss * F))) wr := Hk.of_eq (by ac_rfl)
                    have hkp : ∀ i : Nat, ts.getD i false = false → (d.crash keep torn cut).sureS (i : Int) = s0.sureS (i : Int) := fun i hi => keeps_crash HTC.out HSU.out i hi keep torn cut
                    have KP := Lib.hid hkp
                    have TG := Lib.hid (fun i (hi : i < 8) => tvals_get ts i (by have := HTL.out; omega))
                    clear hkp Hk
                    go_wp2_with fail
                    refine crash_any Hp hk.with.with FD.out.ok (by have := FD.out.pend; omega) torn cut ?_
                    have FC := Lib.hid (FD.out.crash keep torn cut)
                    have CD : Hid ((d.crash keep torn cut).down = false ∧ (d.crash keep torn cut).pend = []) := Lib.hid ⟨rfl, rfl⟩
                    generalize d.crash keep torn cut = dc at *
                    intro w3 H3 I3
                    have H5 : Sat (Row 4 1 (.slice (some ⟨tb, 0, none⟩) 8 8) 8 (tvals ts) * (Row 9 1 (.slice (some ⟨g, 0, none⟩) 8 cg) 8 ss * (IsDk p (dc.seen 0) * F))) w3 := by
                      have e : dc.seen 0 = dc := by simp [Dk.seen]
                      rw [e]; exact H3.of_eq (by ac_rfl)
                    have J := Ik.trans I3
                    generalize tvals ts = tv at *
                    clear H3 I3 Hp Ik FD LV HSU HTL HTC ZC
                    go_wp2_with fail
                    go_loopw [22] (fun x wr => ∃ i : Nat, i ≤ 8 ∧ x = .int .i64 (i : Int) ∧ Sat (Row 4 1 (.slice (some ⟨tb, 0, none⟩) 8 8) 8 tv * (Row 9 1 (.slice (some ⟨g, 0, none⟩) 8 cg) 8 ss * (IsDk p (dc.seen i) * F))) wr ∧ Io w wr) (fun x _ => 8 - (intOf x).toNat)
                    case atStart => exact ⟨0, by omega, rfl, H5, J⟩
                    case round =>
                      obtain ⟨i, hi8, rfl, Hr, Ir⟩ := hrel
                      clear H5 J
                      by_cases hlt9 : (i : Int) < 8
                      · have hlen8 := FC.out.len
                        obtain ⟨s1, s2, s3⟩ := Dk.seen_step dc i (i : Int) CD.out.1 (by omega) (by omega)
                        have S1 := Lib.hid s1
                        have S2 := Lib.hid s2
                        have S3 := Lib.hid (s3 CD.out.2)
                        have fk := Lib.hid (FC.out.seen i)
                        have hm11 : Hid ((dc.seen (i + 1)).sure.length ≤ 16384) := Lib.hid (by show dc.sure.length ≤ _; omega)
                        have hss : Hid ((dc.seen (i + 1)).sureS (i : Int) = dc.sureS (i : Int)) := Lib.hid rfl
                        have kp := Lib.hid (KP.out i)
                        have tg := Lib.hid (TG.out i (by omega))
                        have sg := Lib.hid (SG.out i (by omega))
                        clear s1 s2 s3 hlen8
                        have Hs' : Sat (IsDk p (dc.seen i) * (Row 4 1 (.slice (some ⟨tb, 0, none⟩) 8 8) 8 tv * (Row 9 1 (.slice (some ⟨g, 0, none⟩) 8 cg) 8 ss * F))) wr := Hr.of_eq (by ac_rfl)
                        go_wp2_with fail
                        refine read_any Hs' fk.out.ok (by have := fk.out.reads; omega) (i : Int) ?_
                        rw [S1.out, S2.out, S3.out]
                        intro w4 H4 I4
                        have H6 : Sat (Row 4 1 (.slice (some ⟨tb, 0, none⟩) 8 8) 8 tv * (Row 9 1 (.slice (some ⟨g, 0, none⟩) 8 cg) 8 ss * (IsDk p (dc.seen (i + 1)) * F))) w4 := H4.of_eq (by ac_rfl)
                        have c5 := row_cell H6 i _ tg.out
                        have c6 := row_cell H6.right i _ sg.out
                        clear S1 S2 S3 Hs' Hr fk
                        cases hb : ts.getD i false with
                        | true =>
                          rw [hb] at c5
                          clear kp hb
                          generalize dc.sureS (i : Int) = t1 at *
                          generalize s0.sureS (i : Int) = t2 at *
                          go_wp2_with fail
                          refine dk_issure H4 hm11.out (i : Int) ?_
                          rw [hss.out]
                          go_wp2_with fail
                          go_roundw
                          case rel => exact ⟨i + 1, by omega, by go_num, H6, Ir.trans I4⟩
                          case measure => simp [intOf]; omega
                        | false =>
                          rw [hb] at c5
                          rw [← kp.out hb] at c6
                          clear kp hb
                          generalize dc.sureS (i : Int) = t1 at *
                          go_wp2_with fail
                          refine dk_issure H4 hm11.out (i : Int) ?_
                          rw [hss.out]
                          go_wp2_with fail
                          go_roundw
                          case rel => exact ⟨i + 1, by omega, by go_num, H6, Ir.trans I4⟩
                          case measure => simp [intOf]; omega
                      · obtain rfl : i = 8 := by omega
                        have hl0 : Hid ((dc.seen 8).pend.length = 0) := Lib.hid (by show dc.pend.length = 0; rw [CD.out.2]; rfl)
                        have hd0 : Hid ((dc.seen 8).down = false) := Lib.hid CD.out.1
                        go_wp2_with fail
                        refine dk_length Hr.right.right (by rw [hl0.out]; omega) ?_
                        rw [hl0.out]
                        go_wp2_with fail
                        refine dk_isdown Hr.right.right ?_
                        rw [hd0.out]
                        go_wp2_with fail
                        exact HH.out _ Hr.right.right.right Ir
      · go_enter Try.func8, Try.ntmps8
        go_wp2_with fail
        refine works_any H ?_
        intro w1 H1 I1
        go_wp2_with fail
        refine light_any 8 hl H1 ?_
        rw [HB.out]
        go_wp2_with fail
        exact HH.out w1 H1 I1
    · go_enter Try.func8, Try.ntmps8
      go_wp2_with fail
      refine works_any H ?_
      intro w1 H1 I1
      go_wp2_with fail
      refine light_any 8 hl H1 ?_
      rw [HB.out]
      go_wp2_with fail
      exact HH.out w1 H1 I1
end
end Go.Proofs.Ytnkekdeicgmelaa
