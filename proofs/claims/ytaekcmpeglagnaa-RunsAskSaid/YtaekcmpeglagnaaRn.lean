/-
  Runs: Norm, by its walk. It proves no statement by itself.
-/
import Derived.Test.YtaekcmpeglagnaaRs1
import Derived.Test.YtaekcmpeglagnaaRc
namespace Go.Proofs.Ytaekcmpeglagnaa
open Go.RowKit Go.Lib
set_option linter.unusedSimpArgs false
set_option linter.unusedVariables false

theorem cellsR_last (o : List Rn) (c : Rn) (m : Int) : (cellsOf encR (o ++ [c])).set (o.length * 2 + 1) (.int .i64 m) = cellsOf encR (o ++ [(c.1, m)]) := by
  have hl : (cellsOf encR o).length = o.length * 2 := cellsOf_length encR_ok o
  rw [cellsOf_append, cellsOf_append, List.set_append_right _ _ (by omega), hl, show o.length * 2 + 1 - o.length * 2 = 1 from by omega]
  rfl
section
variable {F : Asn} {w : World} {R : Ending → World → Prop} {l m : List Rn} {v u : Value}
set_option maxRecDepth 100000 in
set_option maxHeartbeats 8000000 in
theorem norm_any (hv : ReadsR F v l) (hl : l.length ≤ 10000) (H : Sat F w) (h : ∀ v' w', Sat (RowR v' (Rs.norm l) * F) w' → Io w w' → R (.returned v') w') :
    Calls Try.prog 19 #[v] w R := by
  obtain ⟨a, c, rfl, hm⟩ := readsR_len hv
  have HV := Lib.hid (fun k hk => readsR_get hv k hk)
  have HH := Lib.hid h
  clear h hv
  go_enter Try.func19, Try.ntmps19
  go_wp2_with fail
  go_loopw [3, 12] (fun y x wr => ∃ (k : Nat) (o : List Rn), k ≤ l.length ∧ x = .int .i64 (k : Int) ∧ Hid (Rs.clips (l.take k) = o) ∧ Sat (RowR y o * F) wr ∧ Io w wr) (fun _ x _ => l.length - (intOf x).toNat)
  case atStart => exact ⟨0, [], by omega, rfl, Lib.hid rfl, row_nilR H, Io.refl _⟩
  case round =>
    obtain ⟨k, o, hk, rfl, hs, Hk, Ik⟩ := hrel
    have ol : o.length ≤ 10000 := by
      have := Rs.clips_len (l.take k)
      rw [hs.out, List.length_take] at this
      omega
    have OL := Lib.hid ol
    clear ol
    by_cases hlt : k < l.length
    · have hlti : (k : Int) < (l.length : Int) := by omega
      obtain ⟨b, off, x1, x2, rfl, hx, hc⟩ := HV.out k hlt
      obtain ⟨c0, c1⟩ := hc wr Hk.right
      have hs' := Rs.clips_take l k hlt
      rw [hs.out, hx] at hs'
      obtain ⟨m1, k1⟩ : ∃ m, max x1 0 = m := ⟨_, rfl⟩
      obtain ⟨m2, k2⟩ : ∃ m, min x2 4294967295 = m := ⟨_, rfl⟩
      have kc : Rs.clip (x1, x2) = (m1, m2) := by rw [← k1, ← k2]; rfl
      rw [kc] at hs'
      have HB := Hk.alloc (.cells #[.int .i64 m1, .int .i64 m2] 28)
      have IB := Ik.alloc (.cells #[.int .i64 m1, .int .i64 m2] 28)
      clear hc hx hs kc
      by_cases hok : m1 ≤ m2
      · have HS : Hid (Rs.clips (l.take (k + 1)) = o ++ [(m1, m2)]) := Lib.hid (by rw [hs', if_pos hok])
        clear hs'
        go_wp2_with (at_builtin; refine wpList_append_rec Try.rowR encR_ok rfl (.tmp 28) (.tmp 30) rfl rfl HB (by have := OL.out; omega) (m1, m2) rfl (by simp) ?_; intro v3 w3 H3 I3)
        go_roundw
        case rel => exact ⟨k + 1, _, by omega, by go_num, HS, H3, IB.trans I3⟩
        case measure => simp [intOf]; omega
      · have HS : Hid (Rs.clips (l.take (k + 1)) = o) := Lib.hid (by rw [hs', if_neg hok])
        clear hs'
        go_wp2_with fail
        go_roundw
        case rel => exact ⟨k + 1, o, by omega, by go_num, HS, HB, IB⟩
        case measure => simp [intOf]; omega
    · obtain rfl : k = l.length := by omega
      have hge : ¬ (l.length : Int) < (l.length : Int) := by omega
      have he : Rs.clips l = o := by rw [← hs.out, List.take_length]
      have hoks : Hid (∀ r ∈ o, Rs.Ok r) := Lib.hid (by rw [← he]; exact Rs.clips_ok l)
      have HE := Lib.hid he
      clear HV he hs
      obtain ⟨sa, sc, rfl, sm⟩ := readsR_len (Reads.of_row Hk (by have := OL.out; omega))
      go_wp2_with (go_at_call 31; with_reducible refine sortruns_any Hk (by have := OL.out; omega) ?_; intro s w2 hp hw H2 I2; have hpl := hp.length_eq; rw [← hpl] at H2 ⊢; have sm2 : (s.length : Int) ≤ 9223372036854775807 := (by rw [hpl]; exact sm))
      have hsl : s.length ≤ 10000 := by have := hp.length_eq; have := OL.out; omega
      have hnorm : Hid (s.foldl Rs.mstep [] = Rs.norm l) := Lib.hid (Rs.norm_prog l s (by rw [HE.out]; exact hp) hw)
      have hsok : Hid (∀ r ∈ s, Rs.Ok r) := Lib.hid (fun r hr => hoks.out r (hp.mem_iff.1 hr))
      have HW := Lib.hid hw
      have rs := Reads.of_row H2 (by omega)
      have HSV := Lib.hid (fun k hk => readsR_get rs k hk)
      have I02 := Ik.trans I2
      clear rs hp hw hoks HE OL Hk Ik I2
      go_loopw [6, 37] (fun y x wr => ∃ (k : Nat) (o : List Rn), k ≤ s.length ∧ x = .int .i64 (k : Int) ∧ Hid ((s.take k).foldl Rs.mstep [] = o) ∧ Sat (RowR y o * (RowR (.slice sa s.length sc) s * F)) wr ∧ Io w wr) (fun _ x _ => s.length - (intOf x).toNat)
      case atStart => exact ⟨0, [], by omega, rfl, Lib.hid rfl, row_nilR H2, I02⟩
      case round =>
        obtain ⟨k, o, hk, rfl, hs, Hk, Ik⟩ := hrel
        clear H2 I02
        by_cases hlt : k < s.length
        · have hlti : (k : Int) < (s.length : Int) := by omega
          obtain ⟨b, off, x1, x2, rfl, hx, hc⟩ := HSV.out k hlt
          obtain ⟨c0, c1⟩ := hc wr Hk.right
          obtain ⟨z0, z1, z2⟩ := hsok.out s[k] (List.getElem_mem hlt)
          rw [hx] at z0 z1 z2
          simp only [Rs.most] at z0 z1 z2
          have ol : o.length ≤ 10000 := by
            have := Rs.mfold_len (s.take k) []
            rw [hs.out, List.length_take] at this
            simp at this
            omega
          have OL := Lib.hid ol
          have hcan : Rs.Canon o := by rw [← hs.out]; exact Rs.mfold_canon hsok.out HW.out k
          have hs' : (s.take (k + 1)).foldl Rs.mstep [] = Rs.mstep o (x1, x2) := by rw [Rs.fold_take _ _ _ _ hlt, hs.out, hx]
          have HB := (Hk.new (.cells #[.int .i64 x1, .int .i64 x2] 28)).of_eq (show _ = RowR u6 o * (pts wr.heap.size (.cells #[.int .i64 x1, .int .i64 x2] 28 (0, 0)) * (RowR (.slice (some ⟨b, off, none⟩) s.length sc) s * F)) from by ac_rfl)
          have IB := Ik.alloc (.cells #[.int .i64 x1, .int .i64 x2] 28)
          clear hc hx hs ol HSV
          rcases List.eq_nil_or_concat o with rfl | ⟨o2, cc, rfl⟩
          · have HS : Hid ((s.take (k + 1)).foldl Rs.mstep [] = [(x1, x2)]) := Lib.hid hs'
            clear hs' hcan
            obtain ⟨ra, rc, rfl, _⟩ := readsR_len (Reads.of_row HB (by simp))
            have Hn := fun n => HB.drewN n
            have In := fun n => IB.drewN n
            obtain ⟨e0, e1⟩ := box_cells HB.right
            go_wp2_with fail
            go_quiet (fail)
            go_wp2_with (at_builtin; refine wpList_append_rec Try.rowR encR_ok rfl (.tmp 71) (.tmp 73) rfl rfl (Hn _) (by simp) (x1, x2) rfl (by simp) ?_; intro v3 w3 H3 I3)
            go_roundw
            case rel => exact ⟨k + 1, [(x1, x2)], by omega, by go_num, HS, H3.mid, (In _).trans I3⟩
            case measure => simp [intOf]; omega
          · rw [List.concat_eq_append] at *
            obtain ⟨p1, p2⟩ := cc
            obtain ⟨w0, w1', w2'⟩ := (Rs.canon_cons.1 (Rs.canon_append.1 hcan).2.1).1
            simp only [Rs.most] at w0 w1' w2'
            obtain ⟨g, rc, rfl⟩ := row_shape HB (by simp)
            rw [Rs.mstep_snoc] at hs'
            simp only at hs'
            have hlast : (o2 ++ [(p1, p2)]).length = o2.length + 1 := by simp
            unfold RowR RowOf at HB
            rw [hlast] at HB ⊢
            generalize hq : o2.length = q at *
            have hq1 : (q : Int) < ((q + 1 : Nat) : Int) := by omega
            have hq0 : (0 : Int) ≤ (q : Int) := by omega
            have hsub : (q : Int) + 1 - 1 = (q : Int) := by omega
            have hqp : (0 : Int) < (q : Int) + 1 := by omega
            have hql : q ≤ 10000 := by have := OL.out; simp at this; omega
            have hcl2 : (cellsOf encR o2).length = q * 2 := by rw [cellsOf_length encR_ok, hq]
            have d0 := row_read HB (q * 2) (.int .i64 p1) (by rw [cellsOf_append, List.getElem?_append_right (by omega), hcl2, Nat.sub_self]; rfl)
            have d1 := row_read HB (q * 2 + 1) (.int .i64 p2) (by rw [cellsOf_append, List.getElem?_append_right (by omega), hcl2, show q * 2 + 1 - q * 2 = 1 from by omega]; rfl)
            have fz := row_free HB (q * 2 + 1)
            have Hn := fun n => HB.drewN n
            have In := fun n => IB.drewN n
            obtain ⟨e0, e1⟩ := box_cells HB.right
            have HCL := Lib.hid hcl2
            clear hcan hcl2
            by_cases hj : x1 ≤ p2 + 1
            · obtain ⟨mm, hmm⟩ : ∃ m, max p2 x2 = m := ⟨_, rfl⟩
              have HS : Hid ((s.take (k + 1)).foldl Rs.mstep [] = o2 ++ [(p1, mm)]) := Lib.hid (by rw [hs', if_pos hj, hmm])
              have X := fun n => (row_store (Hn n) (q * 2 + 1) (.int .i64 mm)).of_eq (show _ = RowR (.slice (some ⟨g, 0, none⟩) (q + 1) rc) (o2 ++ [(p1, mm)]) * (pts wr.heap.size (.cells #[.int .i64 x1, .int .i64 x2] 28 (0, 0)) * (RowR (.slice (some ⟨b, off, none⟩) s.length sc) s * F)) from by
                have hl3 : (o2 ++ [(p1, mm)]).length = q + 1 := by simp [hq]
                unfold RowR RowOf
                rw [hl3, ← hq, cellsR_last])
              clear hs'
              go_wp2_with fail
              go_quiet (fail)
              go_wp2_with fail
              go_region
              go_wp2_with fail
              go_roundw
              case rel => exact ⟨k + 1, _, by omega, by go_num, HS, (X _).mid, (In _).setCell _ _⟩
              case measure => simp [intOf]; omega
            · have HS : Hid ((s.take (k + 1)).foldl Rs.mstep [] = o2 ++ [(p1, p2)] ++ [(x1, x2)]) := Lib.hid (by rw [hs', if_neg hj])
              have X := fun n => (Hn n).of_eq (show _ = RowR (.slice (some ⟨g, 0, none⟩) (q + 1) rc) (o2 ++ [(p1, p2)]) * (pts wr.heap.size (.cells #[.int .i64 x1, .int .i64 x2] 28 (0, 0)) * (RowR (.slice (some ⟨b, off, none⟩) s.length sc) s * F)) from by
                have hl3 : (o2 ++ [(p1, p2)]).length = q + 1 := by simp [hq]
                unfold RowR RowOf
                rw [hl3])
              clear hs'
              go_wp2_with fail
              go_quiet (fail)
              go_wp2_with (at_builtin; refine wpList_append_rec Try.rowR encR_ok rfl (.tmp 71) (.tmp 73) rfl rfl (X _) (by have := OL.out; omega) (x1, x2) rfl (by simp) ?_; intro v3 w3 H3 I3)
              go_roundw
              case rel => exact ⟨k + 1, _, by omega, by go_num, HS, H3.mid, (In _).trans I3⟩
              case measure => simp [intOf]; omega
        · obtain rfl : k = s.length := by omega
          have hge : ¬ (s.length : Int) < (s.length : Int) := by omega
          have he : Hid (Rs.norm l = o) := Lib.hid (by rw [← hnorm.out, ← hs.out, List.take_length])
          clear HSV
          go_wp2_with fail
          refine HH.out _ _ ?_ Ik
          rw [he.out]
          exact Hk.mid
end
end Go.Proofs.Ytaekcmpeglagnaa
