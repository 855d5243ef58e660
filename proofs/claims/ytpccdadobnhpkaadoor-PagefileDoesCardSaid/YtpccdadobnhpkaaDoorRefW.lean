/-
  What the document's disk's calls do, by their walks: Put, Sync, Crash, New. It proves no statement by itself.
-/
import Derived.Test.YtpccdadobnhpkaaDoorRef
namespace Go.Proofs.YtpccdadobnhpkaaDoor
open Go.RowKit
set_option linter.unusedSimpArgs false
set_option linter.unusedVariables false

theorem Tryd.info86 : (Tryd.prog.info? 86).map (fun i => (i.zero, i.size, i.bytes)) = some (some (.agg #[.int .i64 0, .string ⟨#[]⟩]), 2, 24) := by kernel_rfl

section
variable {q : Nat} {sf wf sv wv : Value} {d : Dk} {ss : List ByteArray} {l : List (Int × ByteArray)} {F : Asn} {w : World} {R : Ending → World → Prop}

/-- One sector is written. -/
theorem rf_sector {g c : Nat} (h : Sat (RfMid q sf wf d (.slice (some ⟨g, 0, none⟩) ss.length c) ss wv l * F) w) (i : Nat) (hi : i < ss.length) (s : ByteArray) :
    Sat (RfMid q sf wf d (.slice (some ⟨g, 0, none⟩) ss.length c) (ss.set i s) wv l * F) (w.setCell ⟨g, i, none⟩ (.string s)) := by
  rw [rf_srow] at h ⊢
  have := row_set h i hi (.string s)
  rw [svals_set] at this
  rw [List.length_set]
  exact this

theorem rf_done (h : Sat (RfMid q sv wv d sv ss wv l * F) w) (d' : Dk) (e1 : d'.sure = ss) (e2 : d'.pend = l) (e3 : d'.down = d.down) (e4 : d'.left = d.left) (e5 : d'.reads = d.reads) (e6 : d'.writes = d.writes) : Sat (IsRf q d' * F) w := by
  obtain ⟨a1, a2, a3, a4, a5, a6⟩ := d'
  subst e1 e2 e3 e4 e5 e6
  exact isRf_shut (d := ⟨a1, a2, d.left, d.down, d.reads, d.writes⟩) h

theorem rf_drop (h : Sat (RfMid q sf wf d sv ss wv l * F) w) : Sat (RfMid q sf wf d sv ss (.slice none 0 0) [] * F) w := by
  rw [rf_wrow] at h ⊢
  exact row_nil _ _ _ _ h.right

set_option maxHeartbeats 2000000 in
set_option maxRecDepth 100000 in
theorem rf_put (H : Sat (IsRf q d * F) w) (ok : d.Ok) (hr : d.writes ≤ 4000000000000000000) (hp : d.pend.length ≤ 1000000) (i : Int) (s : ByteArray) (hsz : s.size ≤ 1000000)
    (h : ∀ w', Sat (IsRf q (d.write i s) * F) w' → Io w w' → R (.returned (.int .i64 (d.writeE i s))) w') :
    Calls Tryd.prog 28 #[.pointer (some ⟨q, 0, none⟩), .int .i64 i, .string s] w R := by
  obtain ⟨sv, wv, HP⟩ := isRf_open H
  obtain ⟨i0, hi, hz0, hz1, hz2⟩ := info_parts Tryd.info86
  have S := rf_seen HP
  have hmany := ok.many
  have c0 := S.c0
  have c1 := S.c1
  have c2 := S.c2
  have lp := S.lp
  obtain ⟨sa, sc, rfl, hsa⟩ := row_any (rf_srow ▸ HP)
  clear hsa
  cases hd : d.down with
  | true =>
    have ea : d.atE i = 4 := by simp [Dk.atE, hd]
    have hn := h w (by simpa [Dk.write, ea] using H) (Io.refl w)
    have e2 : d.writeE i s = 4 := by simp [Dk.writeE, ea]
    rw [e2] at hn
    rw [hd] at c2
    clear ea e2 h hd
    go_enter Tryd.func28, Tryd.ntmps28
    go_wp2_with fail
    exact hn
  | false =>
    rw [hd] at c2
    by_cases hr0 : i < 0
    · have ea : d.atE i = 40 := by simp [Dk.atE, hd]; omega
      have hn := h w (by simpa [Dk.write, ea] using H) (Io.refl w)
      have e2 : d.writeE i s = 40 := by simp [Dk.writeE, ea]
      rw [e2] at hn
      clear ea e2 h hd
      go_enter Tryd.func28, Tryd.ntmps28
      go_wp2_with fail
      exact hn
    by_cases hr1 : (d.sure.length : Int) ≤ i
    · have ea : d.atE i = 40 := by simp [Dk.atE, hd]; omega
      have hn := h w (by simpa [Dk.write, ea] using H) (Io.refl w)
      have e2 : d.writeE i s = 40 := by simp [Dk.writeE, ea]
      rw [e2] at hn
      clear ea e2 h hd
      go_enter Tryd.func28, Tryd.ntmps28
      go_wp2_with fail
      exact hn
    have ea : d.atE i = 0 := by simp [Dk.atE, hd]; omega
    by_cases hs : s.size = 256
    · have ew : d.write i s = { d with pend := d.pend ++ [(i, s)], writes := d.writes + 1, down := if d.left = 0 then true else d.down, left := if d.left = 0 then -1 else if 0 < d.left then d.left - 1 else d.left } := by simp [Dk.write, ea, hs]
      have ee : d.writeE i s = if d.left = 0 then 4 else 0 := by simp [Dk.writeE, ea, hs]
      rw [ew, ee] at h
      have HW := Lib.hid h
      have hlen2 : ((s.size : Int) != 256) = false := by rw [hs]; rfl
      have e1 : pcells d.pend ++ [.int .i64 i, .string s] = pcells (d.pend ++ [(i, s)]) := (pcells_snoc _ (i, s)).symm
      have e2 : ∀ (A : Nat → Asn), A (d.pend.length + 1) = A ((d.pend ++ [(i, s)]).length) := by intro A; simp
      have HE1 := Lib.hid e1
      have HE2 := Lib.hid e2
      have hw0 := ok.writes
      have hl0 := ok.left.1
      have hl1 := ok.left.2
      have HP1 := HP
      rw [rf_wrow] at HP1
      have HD := Lib.hid hd
      clear e1 e2 ew ee h hs ea hd S
      go_enter Tryd.func28, Tryd.ntmps28
      go_wp2_with (at_builtin; refine wpList_append_new rfl (.tmp 29) (.tmp 33) 56 rfl 86 Tryd.underlying56 hi hz0 hz1 hz2 rfl rfl HP1 1 1 [.int .i64 i, .string s] rfl rfl rfl rfl (by omega) (by omega) (by omega) ?_; intro g1 k1 w1 H1 I1; rw [HE1.out, HE2.out (fun n => Row 86 2 _ n _), ← rf_wrow] at H1; have S1 := rf_seen H1; have l1 := S1.lp; have d1 := S1.c1; have d2 := S1.c2; have d3 := S1.c3; have d5 := S1.c5; have f1 := S1.fz 1; have f2 := S1.fz 2; have f3 := S1.fz 3; have f5 := S1.fz 5; have H2 := rf_writes (rf_wf H1 (.slice (some ⟨g1, 0, none⟩) (d.pend.length + 1) k1)) (d.writes + 1); clear S1)
      · have hz : d.left = 0 := by first | assumption | omega | exact eq_of_beq ‹(d.left == 0) = true›
        have h := HW.out
        simp only [hz, if_true, ite_true] at h
        exact h _ (rf_done (rf_left (rf_down H2 true) (-1)) _ rfl rfl rfl rfl rfl rfl) ((((I1.setCell _ _).setCell _ _).setCell _ _).setCell _ _)
      · have hz : ¬ d.left = 0 := by first | assumption | omega | exact ne_of_beq_false ‹(d.left == 0) = false›
        have hp : 0 < d.left := by first | assumption | omega
        have h := HW.out
        simp only [hz, hp, if_true, if_false] at h
        exact h _ (rf_done (rf_left H2 (d.left - 1)) _ rfl rfl rfl rfl rfl rfl) (((I1.setCell _ _).setCell _ _).setCell _ _)
      · have hz : ¬ d.left = 0 := by first | assumption | omega | exact ne_of_beq_false ‹(d.left == 0) = false›
        have hp : ¬ 0 < d.left := by first | assumption | omega
        have h := HW.out
        simp only [hz, hp, if_false] at h
        exact h _ (rf_done H2 _ rfl rfl rfl rfl rfl rfl) ((I1.setCell _ _).setCell _ _)
    · have e2 : d.writeE i s = 1 := by simp [Dk.writeE, ea, hs]
      have hn := h w (by simpa [Dk.write, ea, hs] using H) (Io.refl w)
      rw [e2] at hn
      have hlen2 : ((s.size : Int) != 256) = true := by simp; omega
      clear ea e2 h hd hs
      go_enter Tryd.func28, Tryd.ntmps28
      go_wp2_with fail
      exact hn

set_option maxRecDepth 100000 in
set_option maxHeartbeats 2000000 in
theorem rf_sync (H : Sat (IsRf q d * F) w) (ok : d.Ok) (hp : d.pend.length ≤ 1000000)
    (h : ∀ w', Sat (IsRf q d.sync * F) w' → Io w w' → R (.returned (.int .i64 d.syncE)) w') :
    Calls Tryd.prog 21 #[.pointer (some ⟨q, 0, none⟩)] w R := by
  obtain ⟨sv, wv, HP⟩ := isRf_open H
  have S := rf_seen HP
  have hmany := ok.many
  have c1 := S.c1
  have c2 := S.c2
  have lp := S.lp
  obtain ⟨sa, sc, rfl, hsa⟩ := row_any (rf_srow ▸ HP)
  obtain ⟨wa, wc, rfl, hwa⟩ := row_any (rf_wrow ▸ HP)
  cases hd : d.down with
  | true =>
    have e1 : d.sync = d := by simp [Dk.sync, hd]
    have e2 : d.syncE = 4 := by simp [Dk.syncE, hd]
    have hn := h w (by rw [e1]; exact H) (Io.refl w)
    rw [e2] at hn
    rw [hd] at c2
    clear e1 e2 h hd hsa hwa
    go_enter Tryd.func21, Tryd.ntmps21
    go_wp2
    exact hn
  | false =>
    have e1 : d.sync = d.settle (Dk.syncs d.sure d.pend) := by simp [Dk.sync, hd]
    have e2 : d.syncE = 0 := by simp [Dk.syncE, hd]
    rw [e1, e2] at h
    rw [hd] at c2
    have HH := Lib.hid h
    have HSA := Lib.hid hsa
    have HWA := Lib.hid hwa
    have htxt := Lib.hid ok.txt
    have hrng := Lib.hid ok.rng
    have hsect := Lib.hid ok.sect
    clear e1 e2 hd h hsa hwa S H
    go_enter Tryd.func21, Tryd.ntmps21
    go_wp2_with fail
    go_loopw [3] (fun v wr => ∃ (k : Nat) (ss : List ByteArray), k ≤ d.pend.length ∧ v = .int .i64 (k : Int) ∧ ss = Dk.syncs d.sure (d.pend.take k) ∧ ss.length = d.sure.length ∧ Sat (RfMid q (.slice sa d.sure.length sc) (.slice wa d.pend.length wc) d (.slice sa d.sure.length sc) ss (.slice wa d.pend.length wc) d.pend * F) wr ∧ Io w wr) (fun v _ => d.pend.length - (intOf v).toNat)
    case atStart => exact ⟨0, d.sure, Nat.zero_le _, rfl, rfl, rfl, HP, Io.refl w⟩
    case round =>
      obtain ⟨k, ss, hk, rfl, hss, hsl, Hk, Ik⟩ := hrel
      have S := rf_seen Hk
      have b0 := S.c0
      have b1 := S.c1
      have lq := S.lp
      have f1 := S.fz 1
      clear c1 c2 HP lp S
      by_cases hlt : k < d.pend.length
      · obtain ⟨g, rfl⟩ := HWA.out (by omega)
        have hmem : d.pend[k] ∈ d.pend := List.getElem_mem hlt
        have t1 := htxt.out _ hmem
        have t2 := hrng.out _ hmem
        obtain ⟨sg, rfl⟩ := HSA.out (by omega)
        obtain ⟨q0, q1, lg⟩ := row2_cells (rf_wrow ▸ Hk) k hlt
        have hsn : ss.set d.pend[k].1.toNat d.pend[k].2 = Dk.syncs d.sure (d.pend.take (k + 1)) := by
          rw [List.take_succ_eq_append_getElem hlt, syncs_snoc, ← hss]
          refine (Dk.done_full ss d.pend[k] t1 ?_).symm
          rw [hss]
          exact Dk.size_le _ (syncs_sect _ _ hsect.out fun r hr => htxt.out r (List.mem_of_mem_take hr)) _
        have HSN := Lib.hid hsn
        have HSL := Lib.hid hsl
        rw [← hsl] at Hk
        have fs := (row_free (rf_srow ▸ Hk) d.pend[k].1.toNat).1
        have ls := (row_free (rf_srow ▸ Hk) d.pend[k].1.toNat).2
        have cs := row_cell (rf_srow ▸ Hk) d.pend[k].1.toNat _ (svals_get ss d.pend[k].1.toNat (by omega))
        have Hn := rf_sector Hk d.pend[k].1.toNat (by omega) d.pend[k].2
        have In := Ik.setCell ⟨sg, d.pend[k].1.toNat, none⟩ (.string d.pend[k].2)
        obtain ⟨r0, r1⟩ := t2
        have Hn' := Hn.drew
        have In' := In.drew
        generalize d.pend[k].1 = x0 at *
        generalize d.pend[k].2 = x1 at *
        generalize ss.getD x0.toNat ByteArray.empty = told at *
        clear hsn hsl hss t1 hmem Hk Ik Hn In
        go_wp2_with fail
        refine region_tail 21 (by kernel_rfl) (by kernel_rfl) ?_
        simp only [List.take_succ_cons, List.take_zero, List.drop_succ_cons, List.drop_zero]
        repeat still_step
        refine wpStill_nil ?_
        go_wp2_with fail
        go_roundw
        case rel => exact ⟨k + 1, _, by omega, by go_num, HSN.out, by rw [List.length_set]; exact HSL.out, by rw [HSL.out] at Hn'; exact Hn', In'⟩
        case measure => simp [intOf]; omega
      · obtain rfl : k = d.pend.length := by omega
        rw [List.take_length] at hss
        have Hf := rf_drop (rf_wf Hk (.slice none 0 0))
        have If := Ik.setCell ⟨q, 1, none⟩ (.slice none 0 0)
        have fin := HH.out _ (rf_done Hf (d.settle (Dk.syncs d.sure d.pend)) hss.symm rfl rfl rfl rfl rfl) If
        clear Hf If Hk Ik hss hsl HH HSA HWA
        go_wp2_with fail
        exact fin
end
end Go.Proofs.YtpccdadobnhpkaaDoor
