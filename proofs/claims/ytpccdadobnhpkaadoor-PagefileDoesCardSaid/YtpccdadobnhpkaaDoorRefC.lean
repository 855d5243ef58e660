/-
  What the document's disk's Crash does, by its walk. It proves no statement by itself.
-/
import Derived.Test.YtpccdadobnhpkaaDoorRefW
namespace Go.Proofs.YtpccdadobnhpkaaDoor
open Go.RowKit
set_option linter.unusedSimpArgs false
set_option linter.unusedVariables false

section
variable {q : Nat} {sf wf sv wv : Value} {d : Dk} {ss : List ByteArray} {l : List (Int × ByteArray)} {F : Asn} {w : World} {R : Ending → World → Prop}

set_option maxHeartbeats 400000 in
theorem zero_doc (w : World) (h : R (.returned (.string (rp 256 0))) w) : Calls Tryd.prog 40 #[] w R := by
  have HH := Lib.hid h
  clear h
  go_enter Tryd.func40, Tryd.ntmps40
  go_wp2_with fail
  go_loop [1] (fun v => ∃ j : Nat, j ≤ 8 ∧ v = .string (rp (2 ^ j) 0)) (fun v => match v with | .string s => 256 - s.size | _ => 0)
  case atStart => exact ⟨0, by omega, rfl⟩
  case round =>
    obtain ⟨j, hj, rfl⟩ := hrel
    have hsz := rp_size (2 ^ j) 0
    by_cases hlt : j < 8
    · have h8 : ((2 ^ j : Nat) : Int) < 256 := by
        have : (2 : Nat) ^ j < 2 ^ 8 := Nat.pow_lt_pow_right (by omega) hlt
        have e : (2 : Nat) ^ 8 = 256 := rfl
        omega
      have hp : 0 < 2 ^ j := Nat.pow_pos (by omega)
      have hadd : ∀ W, (Op.stringOp .add (rp (2 ^ j) 0) (rp (2 ^ j) 0)).run Tryd.prog W = .ok (.string (rp (2 ^ (j + 1)) 0)) W := by
        intro W
        rw [run_string_add_sum W _ _ (by rw [hsz]; omega), rp_add, show 2 ^ j + 2 ^ j = 2 ^ (j + 1) from by omega]
      have hsz2 := Lib.hid (rp_size (2 ^ (j + 1)) 0)
      have hlt2 : Hid (2 ^ j < 2 ^ (j + 1)) := Lib.hid (Nat.pow_lt_pow_right (by omega) (by omega))
      generalize hmm : 2 ^ (j + 1) = m at *
      have HM := Lib.hid hmm
      clear hmm
      generalize 2 ^ j = n at *
      generalize hrm : rp m 0 = rm at *
      have HRM := Lib.hid hrm
      clear hrm
      generalize rp n 0 = rn at *
      go_wp2_with fail
      go_round
      case rel => exact ⟨j + 1, by omega, by rw [HM.out, HRM.out]⟩
      case measure =>
        have h1 := hsz2.out
        have h2 := hlt2.out
        simp only [h1, hsz]
        omega
    · obtain rfl : j = 8 := by omega
      rw [show (2 : Nat) ^ 8 = 256 from rfl] at *
      generalize rp 256 0 = t at *
      go_wp2_with fail
      exact HH.out

theorem take_contains (l : List Int) (i : Nat) (hi : i < l.length) (k : Int) : (l.take (i + 1)).contains k = ((l.take i).contains k || l.getD i 0 == k) := by
  rw [List.take_succ_eq_append_getElem hi, show l.getD i 0 = l[i] from by simp [List.getD, hi], Bool.eq_iff_iff]
  simp only [List.contains_iff_mem, List.mem_append, List.mem_singleton, Bool.or_eq_true, beq_iff_eq]
  constructor
  · rintro (h | h)
    · exact .inl h
    · exact .inr h.symm
  · rintro (h | h)
    · exact .inl h
    · exact .inr h.symm

theorem min_eq (cut : Int) : ((min (max cut 0) 256).toNat : Int) = min (max cut 0) 256 := by omega

set_option maxRecDepth 100000 in
set_option maxHeartbeats 4000000 in
theorem rf_crash {kv : Value} {keep : List Int} (H : Sat (IsRf q d * F) w) (hk : ReadsInts F kv keep) (ok : d.Ok) (hp : d.pend.length ≤ 1000000) (torn cut : Int)
    (h : ∀ w', Sat (IsRf q (d.crash keep torn cut) * F) w' → Io w w' → R (.returned (.tuple #[])) w') :
    Calls Tryd.prog 26 #[.pointer (some ⟨q, 0, none⟩), kv, .int .i64 torn, .int .i64 cut] w R := by
  obtain ⟨sv, wv, HP⟩ := isRf_open H
  have S := rf_seen HP
  have hmany := ok.many
  have c1 := S.c1
  have lp := S.lp
  obtain ⟨sa, sc, rfl, hsa⟩ := row_any (rf_srow ▸ HP)
  obtain ⟨wa, wc, rfl, hwa⟩ := row_any (rf_wrow ▸ HP)
  obtain ⟨ka, kn, kc, rfl, hkn, hkb, hkc⟩ := hk
  have HH : Hid (∀ w', Sat (IsRf q (d.crash keep torn cut) * F) w' → Io w w' → R (.returned (.tuple #[])) w') := h
  have HSA := Lib.hid hsa
  have HWA := Lib.hid hwa
  have htxt := Lib.hid ok.txt
  have hrng := Lib.hid ok.rng
  have hsect := Lib.hid ok.sect
  have HKN := Lib.hid hkn
  have HKC := Lib.hid hkc
  have hkb' : (kn : Int) ≤ 9223372036854775807 := by omega
  clear h hsa hwa S H hkn hkc hkb
  go_enter Tryd.func26, Tryd.ntmps26
  go_wp2_with fail
  go_loopw [8] (fun v wr => ∃ (k : Nat) (ss : List ByteArray), k ≤ d.pend.length ∧ v = .int .i64 (k : Int) ∧ ss = Dk.crashes keep torn cut 0 (d.pend.take k) d.sure ∧ ss.length = d.sure.length ∧ Sat (RfMid q (.slice sa d.sure.length sc) (.slice wa d.pend.length wc) d (.slice sa d.sure.length sc) ss (.slice wa d.pend.length wc) d.pend * F) wr ∧ Io w wr) (fun v _ => d.pend.length - (intOf v).toNat)
  case atStart => exact ⟨0, d.sure, Nat.zero_le _, rfl, rfl, rfl, HP, Io.refl w⟩
  case round =>
    obtain ⟨k, ss, hkk, rfl, hss, hsl, Hk, Ik⟩ := hrel
    have S := rf_seen Hk
    have b0 := S.c0
    have b1 := S.c1
    have lq := S.lp
    have f1 := S.fz 1
    have b2 := S.c2
    have b3 := S.c3
    have f2 := S.fz 2
    have f3 := S.fz 3
    clear c1 HP lp S
    have HSS := Lib.hid hss
    have HSL := Lib.hid hsl
    clear hss hsl
    by_cases hlt : k < d.pend.length
    · obtain ⟨g, rfl⟩ := HWA.out (by omega)
      have hmem : d.pend[k] ∈ d.pend := List.getElem_mem hlt
      have t1 := htxt.out _ hmem
      have t2 := hrng.out _ hmem
      obtain ⟨sg, rfl⟩ := HSA.out (by omega)
      obtain ⟨q0, q1, lg⟩ := row2_cells (rf_wrow ▸ Hk) k hlt
      have hsn : Dk.crashes keep torn cut 0 (d.pend.take (k + 1)) d.sure = if keep.contains (k : Int) then Dk.done ss (d.pend[k].1, d.pend[k].2) (Dk.comes torn cut k) else ss := by
        rw [List.take_succ_eq_append_getElem hlt, crashes_snoc, List.length_take, Nat.min_eq_left (by omega), Nat.zero_add, ← HSS.out]
      have hsz : (ss.getD d.pend[k].1.toNat ByteArray.empty).size = 256 := by
        rw [HSS.out]
        exact crashes_sect keep torn cut (d.pend.take k) 0 d.sure hsect.out (fun r hr => htxt.out r (List.mem_of_mem_take hr)) _ (by rw [Dk.crashes_length]; omega)
      have HSN := Lib.hid hsn
      have Hk' := Hk
      rw [← HSL.out] at Hk'
      have fs := (row_free (rf_srow ▸ Hk') d.pend[k].1.toNat).1
      have ls := (row_free (rf_srow ▸ Hk') d.pend[k].1.toNat).2
      have cs := row_cell (rf_srow ▸ Hk') d.pend[k].1.toNat _ (svals_get ss d.pend[k].1.toNat (by have := HSL.out; omega))
      have hset := fun s => rf_sector Hk' d.pend[k].1.toNat (by have := HSL.out; omega) s
      have HSET := Lib.hid hset
      obtain ⟨r0, r1⟩ := t2
      have KF : ∀ j, j < kn → ∃ b off, ka = some ⟨b, off, none⟩ ∧ wr.cell? ⟨b, off + j, none⟩ = some (.int .i64 (keep.getD j 0)) := by
        intro j hj
        rcases HKC.out with h0 | ⟨b, off, e, h6⟩
        · omega
        · exact ⟨b, off, e, h6 wr Hk.right j hj⟩
      have KFH := Lib.hid KF
      clear KF hset Hk' hsn hmem
      generalize d.pend[k].1 = x0 at *
      generalize d.pend[k].2 = x1 at *
      generalize hu : ss.getD x0.toNat ByteArray.empty = u at *
      have HU := Lib.hid hu
      clear hu
      go_wp2_with fail
      go_loop [9, 10] (fun b x => ∃ i : Nat, i ≤ kn ∧ b = .bool ((keep.take i).contains (k : Int)) ∧ x = .int .i64 (i : Int)) (fun _ x => kn - (intOf x).toNat)
      case atStart => exact ⟨0, Nat.zero_le _, rfl, rfl⟩
      case round =>
        obtain ⟨i, hik, rfl, rfl⟩ := hrel
        by_cases hil : i < kn
        · have hsn2 : (keep.take (i + 1)).contains (k : Int) = ((keep.take i).contains (k : Int) || keep.getD i 0 == (k : Int)) := by
            have hik2 : i < keep.length := by have := HKN.out; omega
            exact take_contains keep i hik2 k
          obtain ⟨kb, koff, rfl, kcell⟩ := KFH.out i hil
          have HSN2 := Lib.hid hsn2
          clear hsn2
          generalize (keep.take i).contains (k : Int) = bb at *
          generalize keep.getD i 0 = kz at *
          cases bb with
          | true =>
            go_wp2_with fail
            go_round
            case rel => exact ⟨i + 1, by omega, by rw [HSN2.out]; rfl, by go_num⟩
            case measure => simp [intOf]; omega
          | false =>
            go_wp2_with fail
            go_round
            case rel => exact ⟨i + 1, by omega, by rw [HSN2.out]; rfl, by go_num⟩
            case measure => simp [intOf]; omega
        · obtain rfl : i = kn := by omega
          rw [show keep.take i = keep from by rw [HKN.out]; exact List.take_length]
          cases hb : keep.contains (k : Int) with
          | false =>
            rw [hb] at HSN
            have hsn3 : Hid (Dk.crashes keep torn cut 0 (d.pend.take (k + 1)) d.sure = ss) := Lib.hid HSN.out
            clear hb
            go_wp2_with fail
            go_roundw
            case rel => exact ⟨k + 1, ss, by omega, by go_num, hsn3.out.symm, HSL.out, Hk, Ik⟩
            case measure => simp [intOf]; omega
          | true =>
            rw [hb] at HSN
            clear hb
            have fin : ∀ n : Nat, Dk.comes torn cut k = n → ∃ ss' : List ByteArray, ss' = Dk.crashes keep torn cut 0 (d.pend.take (k + 1)) d.sure ∧ ss'.length = d.sure.length ∧
                Sat (RfMid q (.slice (some ⟨sg, 0, none⟩) d.sure.length sc) (.slice (some ⟨g, 0, none⟩) d.pend.length wc) d (.slice (some ⟨sg, 0, none⟩) d.sure.length sc) ss' (.slice (some ⟨g, 0, none⟩) d.pend.length wc) d.pend * F) ((wr.setCell ⟨sg, x0.toNat, none⟩ (.string (x1.extract 0 n ++ u.extract n u.size))).alloc (.cells #[.int .i64 x0, .string x1] 86)).drew ∧
                Io w ((wr.setCell ⟨sg, x0.toNat, none⟩ (.string (x1.extract 0 n ++ u.extract n u.size))).alloc (.cells #[.int .i64 x0, .string x1] 86)).drew := by
              intro n hn
              refine ⟨_, rfl, ?_, ?_, (((Ik.setCell _ _).alloc _).drew)⟩
              · rw [HSN.out]; simp [Dk.done_length, HSL.out]
              · rw [HSN.out, if_pos rfl, hn]
                have := HSET.out (x1.extract 0 n ++ u.extract n u.size)
                rw [HSL.out] at this
                have e : Dk.done ss (x0, x1) n = ss.set x0.toNat (x1.extract 0 n ++ u.extract n u.size) := by
                  unfold Dk.done
                  rw [HU.out, hsz]
                rw [e]
                exact (this.alloc _).drew
            have FIN := Lib.hid fin
            have hu1 : (u.size : Int) = 256 := by omega
            have hu2 : (x1.size : Int) = 256 := by omega
            clear fin hsz t1 HSN HSET Hk HSS HU
            by_cases ht : (k : Int) = torn
            · have hm0 : 0 ≤ min (max cut 0) 256 := by omega
              have hm1 : min (max cut 0) 256 ≤ 256 := by omega
              have hc : Dk.comes torn cut k = (min (max cut 0) 256).toNat := by simp [Dk.comes, ht]
              obtain ⟨ss', e1, e2, e3, e4⟩ := FIN.out _ hc
              have E1 := Lib.hid e1
              have ht1 : ((k : Int) == torn) = true := by simpa using ht
              have hadd : ∀ W, (Op.stringOp .add (x1.extract 0 (min (max cut 0) 256).toNat) (u.extract (min (max cut 0) 256).toNat u.size)).run Tryd.prog W = .ok (.string (x1.extract 0 (min (max cut 0) 256).toNat ++ u.extract (min (max cut 0) 256).toNat u.size)) W := fun W => run_string_add_sum W _ _ (by simp; omega)
              clear hc e1 ht FIN
              go_wp2_with fail
              refine region_tail 22 (by kernel_rfl) (by kernel_rfl) ?_
              simp only [List.take_succ_cons, List.take_zero, List.drop_succ_cons, List.drop_zero]
              repeat still_step
              refine wpStill_nil ?_
              go_wp2_with fail
              go_roundw
              case rel => exact ⟨k + 1, ss', by omega, by go_num, E1.out, e2, e3, e4⟩
              case measure => simp [intOf]; omega
            · have hc : Dk.comes torn cut k = (256 : Int).toNat := by simp [Dk.comes, ht]
              obtain ⟨ss', e1, e2, e3, e4⟩ := FIN.out _ hc
              have E1 := Lib.hid e1
              have ht1 : ((k : Int) == torn) = false := by simpa using ht
              have hadd : ∀ W, (Op.stringOp .add (x1.extract 0 (256 : Int).toNat) (u.extract (256 : Int).toNat u.size)).run Tryd.prog W = .ok (.string (x1.extract 0 (256 : Int).toNat ++ u.extract (256 : Int).toNat u.size)) W := fun W => run_string_add_sum W _ _ (by simp; omega)
              have hnn : 0 ≤ (256 : Int) := by omega
              clear hc e1 ht FIN
              go_wp2_with fail
              generalize (256 : Int) = nn at *
              refine region_tail 22 (by kernel_rfl) (by kernel_rfl) ?_
              simp only [List.take_succ_cons, List.take_zero, List.drop_succ_cons, List.drop_zero]
              repeat still_step
              refine wpStill_nil ?_
              go_wp2_with fail
              go_roundw
              case rel => exact ⟨k + 1, ss', by omega, by go_num, E1.out, e2, e3, e4⟩
              case measure => simp [intOf]; omega
    · obtain rfl : k = d.pend.length := by omega
      have hss := HSS.out
      rw [List.take_length] at hss
      have Hf := rf_left (rf_down (rf_drop (rf_wf Hk (.slice none 0 0))) false) (-1)
      have If := ((Ik.setCell ⟨q, 1, none⟩ (.slice none 0 0)).setCell ⟨q, 2, none⟩ (.bool false)).setCell ⟨q, 3, none⟩ (.int .i64 (-1))
      have fin := HH.out _ (rf_done Hf (d.crash keep torn cut) hss.symm rfl rfl rfl rfl rfl) If
      clear Hf If Hk Ik hss HH HSA HWA HSS HSL
      go_wp2_with fail
      go_end0
      exact fin
end
end Go.Proofs.YtpccdadobnhpkaaDoor
