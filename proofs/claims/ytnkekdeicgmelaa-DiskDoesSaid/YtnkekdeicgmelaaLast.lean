/-
  The statement DiskLast, walked: it answers true. It proves the walk alone; the row is closed elsewhere.
-/
import Derived.Test.YtnkekdeicgmelaaDLaws
namespace Go.Proofs.Ytnkekdeicgmelaa
open Go.RowKit
set_option linter.unusedSimpArgs false
set_option linter.unusedVariables false

/-- One act done. -/
def lstep (d : Dk) (x : Act4) : Dk := if x.K.tmod 4 = 0 then (d.write x.I (pageS x.B)).sync else d.write x.I (pageS x.B)
def lrun (l : List Act4) : Dk := l.foldl lstep ((Dk.new 8).seen 8)
theorem lrun_snoc (l : List Act4) (x : Act4) : lrun (l ++ [x]) = lstep (lrun l) x := by simp [lrun]

/-- A disk of eight sectors whose power does not go. -/
structure Live (d : Dk) (n : Nat) : Prop where
  fit : d.Fit 8 n
  down : d.down = false
  left : d.left = -1

theorem Live.write {d : Dk} {n : Nat} (h : Live d n) (i : Int) (s : ByteArray) : Live (d.write i s) (n + 1) :=
  ⟨h.fit.write i s, (Dk.write_live d i s ⟨h.down, h.left⟩).1, (Dk.write_live d i s ⟨h.down, h.left⟩).2⟩
theorem Live.sync {d : Dk} {n : Nat} (h : Live d n) : Live d.sync n := by
  refine ⟨h.fit.sync, ?_, ?_⟩ <;> simp [Dk.sync, Dk.settle, h.down, h.left]
theorem Live.new : Live (Dk.new 8) 0 := ⟨Dk.Fit.new 8 (by omega), rfl, rfl⟩
theorem Live.seen {d : Dk} {n : Nat} (h : Live d n) (k : Nat) : Live (d.seen k) (n + k) := ⟨h.fit.seen k, h.down, h.left⟩
theorem Live.mono {d : Dk} {n m : Nat} (h : Live d n) (hm : n ≤ m) : Live d m := ⟨h.fit.mono hm, h.down, h.left⟩
theorem Live.step {d : Dk} {n : Nat} (h : Live d n) (x : Act4) : Live (lstep d x) (n + 1) := by
  unfold lstep
  split
  · exact (h.write x.I (pageS x.B)).sync
  · exact h.write x.I (pageS x.B)
theorem Live.run (l : List Act4) : Live (lrun l) (8 + l.length) := by
  have gen : ∀ (l : List Act4) (d : Dk) (n : Nat), Live d n → Live (l.foldl lstep d) (n + l.length) := by
    intro l
    induction l with
    | nil => intro d n h; exact h
    | cons x l ih =>
      intro d n h
      have := ih _ _ (h.step x)
      rw [List.length_cons, show n + (l.length + 1) = n + 1 + l.length from by omega]
      exact this
  have := gen l _ _ (Live.new.seen 8)
  rw [Nat.zero_add] at this
  exact this

theorem Live.writeE {d : Dk} {n : Nat} (h : Live d n) (i : Int) (s : ByteArray) (he : d.writeE i s = 0) : 0 ≤ i ∧ i < 8 := by
  have h1 : d.atE i = 0 := by
    unfold Dk.writeE at he
    split at he
    · rename_i h; exact absurd he h
    · rename_i h; exact Decidable.not_not.1 h
  have := Dk.at_range h1
  rw [h.fit.len] at this
  exact this

theorem Live.at {d : Dk} {n : Nat} (h : Live d n) (k : Nat) (hk : k < 8) : d.atE (k : Int) = 0 ∧ d.readS (k : Int) = d.now k ∧ d.read (k : Int) = d.seen 1 := by
  have e : d.atE (k : Int) = 0 := by
    have := h.fit.len
    simp [Dk.atE, h.down]
    omega
  refine ⟨e, ?_, ?_⟩
  · simp [Dk.readS, e]
  · simp [Dk.read, e, Dk.seen]

/-- What is written is what is read. -/
theorem Live.nows_step {d : Dk} {n : Nat} (h : Live d n) (x : Act4) :
    nows (lstep d x) 8 = if d.writeE x.I (pageS x.B) = 0 then (nows d 8).set x.I.toNat (.string (pageS x.B)) else nows d 8 := by
  have hs : nows (lstep d x) 8 = nows (d.write x.I (pageS x.B)) 8 := by
    unfold lstep
    split
    · refine nows_congr _ _ _ fun j hj => ?_
      have hw := h.write x.I (pageS x.B)
      exact (Dk.now_sync hw.fit.ok hw.down j (by rw [hw.fit.len]; exact hj)).1
    · rfl
  rw [hs]
  split
  · rename_i he
    obtain ⟨i0, i8⟩ := h.writeE _ _ he
    apply List.ext_getElem?
    intro j
    by_cases hj : j < 8
    · rw [nows_get _ _ _ hj, Dk.now_write _ _ he]
      by_cases e : x.I = (j : Int)
      · have : x.I.toNat = j := by omega
        rw [if_pos e, this, List.getElem?_set_self (by rw [nows_length]; exact hj)]
      · have : ¬ x.I.toNat = j := by omega
        rw [if_neg e, List.getElem?_set_ne this, nows_get _ _ _ hj]
    · rw [List.getElem?_eq_none (by rw [nows_length]; omega), List.getElem?_eq_none (by rw [List.length_set, nows_length]; omega)]
  · rename_i he
    rw [Dk.write_same _ _ h.left he]

section
variable {w : World} {R : Ending → World → Prop}

set_option maxRecDepth 100000 in
set_option maxHeartbeats 8000000 in
theorem last_walk {F : Asn} {v : Value} {l : List Act4} (hl : ReadsActs F v l) (H : Sat F w)
    (h : ∀ w', Sat F w' → Io w w' → R (.returned (.bool true)) w') :
    Calls Try.prog 5 #[v] w R := by
  have HH : Hid (∀ w', Sat F w' → Io w w' → R (.returned (.bool true)) w') := h
  clear h
  cases hb : lightB 8 l with
  | false =>
    have HB := Lib.hid hb
    clear hb
    go_enter Try.func5, Try.ntmps5
    go_wp2_with fail
    refine works_any H ?_
    intro w1 H1 I1
    go_wp2_with fail
    refine light_any 8 hl H1 ?_
    rw [HB.out]
    go_wp2_with fail
    exact HH.out w1 H1 I1
  | true =>
    have HB := Lib.hid hb
    clear hb
    have hlen : l.length ≤ 60 := by
      have := HB.out
      simp [lightB] at this
      exact this.1
    have hlen' : (l.length : Int) ≤ 60 := by omega
    go_enter Try.func5, Try.ntmps5
    go_wp2_with fail
    refine works_any H ?_
    intro w1 H1 I1
    go_wp2_with fail
    refine light_any 8 hl H1 ?_
    rw [HB.out]
    go_wp2_with fail
    refine new_any 8 (by omega) (by omega) H1 ?_
    rw [show (min (max 8 0) 16384 : Int).toNat = 8 from rfl]
    intro p w2 H2 I2
    have I12 := I1.trans I2
    clear I1 I2 H1
    obtain ⟨i0, hi, hz0, hz1, hz2⟩ := info_parts Try.info9
    obtain ⟨⟨a, c, rfl, hm, h3⟩, hkeeps, hints⟩ := hl
    have h3' := Lib.hid h3
    clear h3 hkeeps hints
    have H2' : Sat (IsDk p ((Dk.new 8).seen 0) * F) w2 := by
      have e : (Dk.new 8).seen 0 = Dk.new 8 := by simp [Dk.seen]
      rw [e]; exact H2
    go_wp2_with fail
    go_loopw [6, 7] (fun v x wr => ∃ k : Nat, k ≤ 8 ∧ x = .int .i64 (k : Int) ∧ Sat (Row 9 1 v k (nows (Dk.new 8) k) * (IsDk p ((Dk.new 8).seen k) * F)) wr ∧ Io w wr) (fun _ x _ => 8 - (intOf x).toNat)
    case atStart => exact ⟨0, by omega, rfl, row_nil _ _ _ _ H2', I12⟩
    case round =>
      obtain ⟨k, hk8, rfl, Hr, Ir⟩ := hrel
      by_cases hlt8 : (k : Int) < 8
      · have hsn := Lib.hid (nows_succ (Dk.new 8) k)
        obtain ⟨s1, s2, s3⟩ := (Live.new.seen k).at k (by omega)
        have S1 := Lib.hid s1
        have S2 : Hid (((Dk.new 8).seen k).readS (k : Int) = (Dk.new 8).now k) := Lib.hid s2
        have S3 : Hid (((Dk.new 8).seen k).read (k : Int) = (Dk.new 8).seen (k + 1)) := Lib.hid (by rw [s3]; simp [Dk.seen, Dk.new])
        have fk := (Live.new.seen k).fit
        clear s1 s2 s3
        have Hs' : Sat (IsDk p ((Dk.new 8).seen k) * (Row 9 1 _ k (nows (Dk.new 8) k) * F)) wr := Hr.of_eq (by ac_rfl)
        go_wp2_with fail
        refine read_any Hs' fk.ok (by have := fk.reads; omega) (k : Int) ?_
        rw [S1.out, S2.out, S3.out]
        intro w3 H3 I3
        have H4 := H3.of_eq (show _ = Row 9 1 _ k (nows (Dk.new 8) k) * (IsDk p ((Dk.new 8).seen (k + 1)) * F) from by ac_rfl)
        clear S1 S2 S3
        go_wp2_with (at_builtin; refine wpList_append_new rfl (.tmp 34) (.tmp 36) 34 rfl 9 Try.underlying34 hi hz0 hz1 hz2 rfl rfl H4 1 1 [.string ((Dk.new 8).now k)] rfl rfl rfl rfl (by omega) (by omega) (by omega) ?_; intro g1 k1 w6 H6 I7)
        go_roundw
        case rel => exact ⟨k + 1, by omega, by go_num, by rw [hsn.out]; exact H6, (Ir.trans I3).trans I7⟩
        case measure => simp [intOf]; omega
      · obtain rfl : k = 8 := by omega
        obtain ⟨g, cc, rfl⟩ := row_shape Hr (by omega)
        clear H2 H2' I12
        go_wp2_with fail
        go_loopw [10] (fun x wr => ∃ k : Nat, k ≤ l.length ∧ x = .int .i64 (k : Int) ∧ Sat (Row 9 1 (.slice (some ⟨g, 0, none⟩) 8 cc) 8 (nows (lrun (l.take k)) 8) * (IsDk p (lrun (l.take k)) * F)) wr ∧ Io w wr) (fun x _ => l.length - (intOf x).toNat)
        case atStart => exact ⟨0, by omega, rfl, Hr, Ir⟩
        case round =>
          obtain ⟨k, hkl, rfl, Hk, Ik⟩ := hrel
          by_cases hlt : k < l.length
          · obtain ⟨b, off, rfl, hc⟩ : ∃ b off, a = some ⟨b, off, none⟩ ∧ ∀ w, Sat F w → w.cell? ⟨b, off + k * 6, none⟩ = some (.int .i64 l[k].K) ∧ w.cell? ⟨b, off + k * 6 + 1, none⟩ = some (.int .i64 l[k].I) ∧ w.cell? ⟨b, off + k * 6 + 2, none⟩ = some (.int .u8 (l[k].B.toNat : Int)) := by
              rcases h3'.out with hz | ⟨b, off, e, hc⟩
              · omega
              · exact ⟨b, off, e, fun w hw => by obtain ⟨q0, q1, q2, _⟩ := hc w hw k hlt; exact ⟨q0, q1, q2⟩⟩
            have HC := Lib.hid hc
            have lv := Live.run (l.take k)
            have hsn : lrun (l.take (k + 1)) = lstep (lrun (l.take k)) l[k] := by
              rw [List.take_succ_eq_append_getElem hlt, lrun_snoc]
            have hns := lv.nows_step l[k]
            rw [← hsn] at hns
            have hln : (l.take k).length ≤ 60 := by rw [List.length_take]; omega
            have lv' := lv.mono (show _ ≤ 100 from by omega)
            have hrng := lv'.writeE l[k].I (pageS l[k].B)
            unfold lstep at hsn
            generalize l[k].K = xk at *
            generalize l[k].I = xi at *
            generalize l[k].B = xb at *
            generalize lrun (l.take k) = dk at *
            generalize hdn : lrun (l.take (k + 1)) = dn at *
            have HDN := Lib.hid hdn
            clear hdn
            have lw := lv'.write xi (pageS xb)
            have FK := Lib.hid lv'
            have LW := Lib.hid lw
            clear lv lv' hln hc lw
            have Hd : Sat (IsDk p dk * (Row 9 1 (.slice (some ⟨g, 0, none⟩) 8 cc) 8 (nows dk 8) * F)) wr.drew := (Hk.of_eq (by ac_rfl)).drew
            have Hd0 := HC.out _ Hd.right.right
            obtain ⟨_, q1, q2⟩ := Hd0
            have ek : ∀ W, Sat F W → W.cell? ⟨b, off + k * 6 + 1, none⟩ = some (.int .i64 xi) ∧ W.cell? ⟨b, off + k * 6 + 2, none⟩ = some (.int .u8 (xb.toNat : Int)) := fun W hW => (HC.out W hW).2
            have EK := Lib.hid ek
            have e0 : ∀ W, Sat F W → W.cell? ⟨b, off + k * 6, none⟩ = some (.int .i64 xk) := fun W hW => (HC.out W hW).1
            have E0 := Lib.hid e0
            have HRNG := Lib.hid hrng
            clear ek e0 HC hrng
            by_cases he : dk.writeE xi (pageS xb) = 0
            · rw [if_pos he] at hns
              have HNS := Lib.hid hns
              have HE := Lib.hid he
              obtain ⟨r0, r8⟩ := HRNG.out he
              clear hns he HRNG
              by_cases hK : xk.tmod 4 = 0
              · rw [if_pos hK] at hsn
                have HSN := Lib.hid hsn
                have hK1 : (xk.tmod 4 == 0) = true := by simpa using hK
                clear hsn hK
                go_wp2_with fail
                go_region_held3 (fun W => W.cell? ⟨b, off + k * 6 + 1, none⟩ = some (.int .i64 xi) ∧ W.cell? ⟨b, off + k * 6 + 2, none⟩ = some (.int .u8 (xb.toNat : Int))) (first | exact ⟨q1, q2⟩ | exact EK.out _ H3.right.right | exact EK.out _ H4.right.right)
                  (first | (go_at_call 14; refine page_any Hd xb ?_; intro w3 H3 I3) | (go_at_call 13; refine write_any H3 FK.out.fit.ok (by have := FK.out.fit.writes; omega) (by have := FK.out.fit.pend; omega) xi (pageS xb) (by have := pageS_size xb; omega) ?_; rw [HE.out]; intro w4 H4 I4))
                clear q1 q2
                go_wp2_with fail
                have Hd4 := H4.drew
                have q4 := EK.out _ Hd4.right.right
                obtain ⟨q5, q6⟩ := q4
                go_region_held3 (fun W => W.cell? ⟨b, off + k * 6 + 1, none⟩ = some (.int .i64 xi) ∧ W.cell? ⟨b, off + k * 6 + 2, none⟩ = some (.int .u8 (xb.toNat : Int))) (first | exact ⟨q5, q6⟩ | exact EK.out _ H5.right.right | exact EK.out _ (row_set H5 xi.toNat (by omega) (.string (pageS xb))).right.right)
                  (first | (go_at_call 14; refine page_any (Hd4.of_eq (show _ = Row 9 1 (.slice (some ⟨g, 0, none⟩) 8 cc) 8 (nows dk 8) * (IsDk p (dk.write xi (pageS xb)) * F) from by ac_rfl)) xb ?_; intro w5 H5 I5; have c5 := row_cell H5 xi.toNat _ (nows_get dk 8 _ (by omega)); have f5 := (row_free H5 xi.toNat).1))
                clear q5 q6
                have H6 := row_set H5 xi.toNat (by omega) (.string (pageS xb))
                have J := ((((Ik.drew.trans I3).trans I4).drew).trans I5).setCell ⟨g, xi.toNat, none⟩ (.string (pageS xb))
                clear H3 H4 I3 I4 Hd Hd4 I5 H5 Hk Ik c5 f5
                have q8 := E0.out _ H6.right.right
                generalize w5.setCell ⟨g, xi.toNat, none⟩ (.string (pageS xb)) = w6 at *
                go_wp2_with fail
                refine sync_any (H6.of_eq (show _ = IsDk p (dk.write xi (pageS xb)) * (Row 9 1 (.slice (some ⟨g, 0, none⟩) 8 cc) 8 ((nows dk 8).set xi.toNat (.string (pageS xb))) * F) from by ac_rfl)) LW.out.fit.ok (by have := LW.out.fit.pend; omega) ?_
                rw [show (dk.write xi (pageS xb)).syncE = 0 from by simp [Dk.syncE, LW.out.down], ← HSN.out]
                intro w7 H7 I7
                go_wp2_with fail
                go_roundw
                case rel => exact ⟨k + 1, by omega, by go_num, by rw [HDN.out, HNS.out]; exact H7.of_eq (by ac_rfl), J.trans I7⟩
                case measure => simp [intOf]; omega
              · rw [if_neg hK] at hsn
                have HSN := Lib.hid hsn
                have hK1 : (xk.tmod 4 == 0) = false := by simpa using hK
                clear hsn hK
                go_wp2_with fail
                go_region_held3 (fun W => W.cell? ⟨b, off + k * 6 + 1, none⟩ = some (.int .i64 xi) ∧ W.cell? ⟨b, off + k * 6 + 2, none⟩ = some (.int .u8 (xb.toNat : Int))) (first | exact ⟨q1, q2⟩ | exact EK.out _ H3.right.right | exact EK.out _ H4.right.right)
                  (first | (go_at_call 14; refine page_any Hd xb ?_; intro w3 H3 I3) | (go_at_call 13; refine write_any H3 FK.out.fit.ok (by have := FK.out.fit.writes; omega) (by have := FK.out.fit.pend; omega) xi (pageS xb) (by have := pageS_size xb; omega) ?_; rw [HE.out]; intro w4 H4 I4))
                clear q1 q2
                go_wp2_with fail
                have Hd4 := H4.drew
                have q4 := EK.out _ Hd4.right.right
                obtain ⟨q5, q6⟩ := q4
                go_region_held3 (fun W => W.cell? ⟨b, off + k * 6 + 1, none⟩ = some (.int .i64 xi) ∧ W.cell? ⟨b, off + k * 6 + 2, none⟩ = some (.int .u8 (xb.toNat : Int))) (first | exact ⟨q5, q6⟩ | exact EK.out _ H5.right.right | exact EK.out _ (row_set H5 xi.toNat (by omega) (.string (pageS xb))).right.right)
                  (first | (go_at_call 14; refine page_any (Hd4.of_eq (show _ = Row 9 1 (.slice (some ⟨g, 0, none⟩) 8 cc) 8 (nows dk 8) * (IsDk p (dk.write xi (pageS xb)) * F) from by ac_rfl)) xb ?_; intro w5 H5 I5; have c5 := row_cell H5 xi.toNat _ (nows_get dk 8 _ (by omega)); have f5 := (row_free H5 xi.toNat).1))
                clear q5 q6
                have H6 := row_set H5 xi.toNat (by omega) (.string (pageS xb))
                have J := ((((Ik.drew.trans I3).trans I4).drew).trans I5).setCell ⟨g, xi.toNat, none⟩ (.string (pageS xb))
                clear H3 H4 I3 I4 Hd Hd4 I5 H5 Hk Ik c5 f5
                have q8 := E0.out _ H6.right.right
                generalize w5.setCell ⟨g, xi.toNat, none⟩ (.string (pageS xb)) = w6 at *
                go_wp2_with fail
                go_roundw
                case rel => exact ⟨k + 1, by omega, by go_num, by rw [HDN.out, HNS.out, HSN.out]; exact H6, J⟩
                case measure => simp [intOf]; omega
            · rw [if_neg he] at hns
              have hws := Dk.write_same xi (pageS xb) FK.out.left he
              rw [hws] at hsn LW
              have HNS := Lib.hid hns
              have HWS := Lib.hid hws
              clear hns hws HRNG
              generalize hev : dk.writeE xi (pageS xb) = ev at *
              have HEV := Lib.hid hev
              have hev1 : (ev == 0) = false := by simpa using he
              clear hev he
              by_cases hK : xk.tmod 4 = 0
              · rw [if_pos hK] at hsn
                have HSN := Lib.hid hsn
                have hK1 : (xk.tmod 4 == 0) = true := by simpa using hK
                clear hsn hK
                go_wp2_with fail
                go_region_held3 (fun W => W.cell? ⟨b, off + k * 6 + 1, none⟩ = some (.int .i64 xi) ∧ W.cell? ⟨b, off + k * 6 + 2, none⟩ = some (.int .u8 (xb.toNat : Int))) (first | exact ⟨q1, q2⟩ | exact EK.out _ H3.right.right | exact EK.out _ H4.right.right)
                  (first | (go_at_call 14; refine page_any Hd xb ?_; intro w3 H3 I3) | (go_at_call 13; refine write_any H3 FK.out.fit.ok (by have := FK.out.fit.writes; omega) (by have := FK.out.fit.pend; omega) xi (pageS xb) (by have := pageS_size xb; omega) ?_; rw [HWS.out, HEV.out]; intro w4 H4 I4))
                clear q1 q2
                have J := (Ik.drew.trans I3).trans I4
                have q8 := E0.out _ H4.right.right
                clear H3 I3 I4 Hd Hk Ik
                go_wp2_with fail
                refine sync_any H4 FK.out.fit.ok (by have := FK.out.fit.pend; omega) ?_
                rw [show dk.syncE = 0 from by simp [Dk.syncE, FK.out.down], ← HSN.out]
                intro w7 H7 I7
                go_wp2_with fail
                go_roundw
                case rel => exact ⟨k + 1, by omega, by go_num, by rw [HDN.out, HNS.out]; exact H7.of_eq (by ac_rfl), J.trans I7⟩
                case measure => simp [intOf]; omega
              · rw [if_neg hK] at hsn
                have HSN := Lib.hid hsn
                have hK1 : (xk.tmod 4 == 0) = false := by simpa using hK
                clear hsn hK
                go_wp2_with fail
                go_region_held3 (fun W => W.cell? ⟨b, off + k * 6 + 1, none⟩ = some (.int .i64 xi) ∧ W.cell? ⟨b, off + k * 6 + 2, none⟩ = some (.int .u8 (xb.toNat : Int))) (first | exact ⟨q1, q2⟩ | exact EK.out _ H3.right.right | exact EK.out _ H4.right.right)
                  (first | (go_at_call 14; refine page_any Hd xb ?_; intro w3 H3 I3) | (go_at_call 13; refine write_any H3 FK.out.fit.ok (by have := FK.out.fit.writes; omega) (by have := FK.out.fit.pend; omega) xi (pageS xb) (by have := pageS_size xb; omega) ?_; rw [HWS.out, HEV.out]; intro w4 H4 I4))
                clear q1 q2
                have J := (Ik.drew.trans I3).trans I4
                have q8 := E0.out _ H4.right.right
                clear H3 I3 I4 Hd Hk Ik
                go_wp2_with fail
                go_roundw
                case rel => exact ⟨k + 1, by omega, by go_num, by rw [HDN.out, HNS.out, HSN.out]; exact H4.of_eq (by ac_rfl), J⟩
                case measure => simp [intOf]; omega
          · obtain rfl : k = l.length := by omega
            rw [List.take_length] at Hk
            have lv := (Live.run l).mono (show _ ≤ 100 from by omega)
            generalize lrun l = dk at *
            have LV := Lib.hid lv
            clear lv h3' Hr Ir
            have Hk0 : Sat (Row 9 1 (.slice (some ⟨g, 0, none⟩) 8 cc) 8 (nows dk 8) * (IsDk p (dk.seen 0) * F)) wr := by
              have e : dk.seen 0 = dk := by simp [Dk.seen]
              rw [e]; exact Hk
            go_wp2_with fail
            go_loopw [12] (fun x wr => ∃ k : Nat, k ≤ 8 ∧ x = .int .i64 (k : Int) ∧ Sat (Row 9 1 (.slice (some ⟨g, 0, none⟩) 8 cc) 8 (nows dk 8) * (IsDk p (dk.seen k) * F)) wr ∧ Io w wr) (fun x _ => 8 - (intOf x).toNat)
            case atStart => exact ⟨0, by omega, rfl, Hk0, Ik⟩
            case round =>
              obtain ⟨k, hk8, rfl, Hs, Is⟩ := hrel
              by_cases hlt9 : (k : Int) < 8
              · obtain ⟨s1, s2, s3⟩ := (LV.out.seen k).at k (by omega)
                have S1 := Lib.hid s1
                have S2 : Hid ((dk.seen k).readS (k : Int) = dk.now k) := Lib.hid s2
                have S3 : Hid ((dk.seen k).read (k : Int) = dk.seen (k + 1)) := Lib.hid (by rw [s3]; simp [Dk.seen]; omega)
                have fk := (LV.out.seen k).fit
                clear s1 s2 s3
                have Hs' : Sat (IsDk p (dk.seen k) * (Row 9 1 (.slice (some ⟨g, 0, none⟩) 8 cc) 8 (nows dk 8) * F)) wr := Hs.of_eq (by ac_rfl)
                go_wp2_with fail
                refine read_any Hs' fk.ok (by have := fk.reads; omega) (k : Int) ?_
                rw [S1.out, S2.out, S3.out]
                intro w3 H3 I3
                have H4 : Sat (Row 9 1 (.slice (some ⟨g, 0, none⟩) 8 cc) 8 (nows dk 8) * (IsDk p (dk.seen (k + 1)) * F)) w3 := H3.of_eq (by ac_rfl)
                have q0 := row_cell H4 k _ (nows_get dk 8 k (by omega))
                clear S1 S2 S3 H3 Hs Hs' fk
                generalize dk.now k = t at *
                go_wp2_with fail
                go_roundw
                case rel => exact ⟨k + 1, by omega, by go_num, H4, Is.trans I3⟩
                case measure => simp [intOf]; omega
              · go_wp2_with fail
                exact HH.out _ Hs.right.right Is
end
end Go.Proofs.Ytnkekdeicgmelaa
