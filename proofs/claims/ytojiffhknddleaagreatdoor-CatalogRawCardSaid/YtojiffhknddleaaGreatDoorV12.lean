/-
  Runs: Norm, by its walk. It proves no statement by itself.
-/
import Derived.Test.YtojiffhknddleaaGreatDoorV10
import Derived.Test.YtojiffhknddleaaGreatDoorV11
namespace Go.Proofs.YtojiffhknddleaaGreatDoor
open Go.RowKit Go.Lib
set_option linter.unusedSimpArgs false
set_option linter.unusedVariables false

theorem cellsR_last (o : List Rn) (c : Rn) (m : Int) : (cellsOf encR (o ++ [c])).set (o.length * 2 + 1) (.int .i64 m) = cellsOf encR (o ++ [(c.1, m)]) := by
  have hl : (cellsOf encR o).length = o.length * 2 := cellsOf_length encR_ok o
  rw [cellsOf_append, cellsOf_append, List.set_append_right _ _ (by omega), hl, show o.length * 2 + 1 - o.length * 2 = 1 from by omega]
  rfl
section
variable {F : Asn} {w : World} {R : Ending → World → Prop} {l m : List Rn} {v u : Value}
set_option maxRecDepth 100000 in
set_option maxHeartbeats 8000000 in
theorem norm_any (hv : ReadsR F v l) (hl : l.length ≤ 10000) (H : Sat F w) (h : ∀ v' w', Sat (RowR v' (Rs.norm l) * F) w' → Io w w' → R (.returned v') w') :
    Calls Tryz.prog 105 #[v] w R := by
  obtain ⟨a, c, rfl, hm⟩ := readsR_len hv
  have HV := Lib.hid (fun k hk => readsR_get hv k hk)
  have HH := Lib.hid h
  clear h hv
  go_enter Tryz.func105, Tryz.ntmps105
  go_wp2_with fail
  go_loopw [3, 12] (fun y x wr => ∃ (k : Nat) (o : List Rn), k ≤ l.length ∧ x = .int .i64 (k : Int) ∧ Hid (Rs.clips (l.take k) = o) ∧ Sat (RowR y o * F) wr ∧ Io w wr) (fun _ x _ => l.length - (intOf x).toNat)
  case atStart => exact ⟨0, [], by omega, rfl, Lib.hid rfl, row_nilR H, Io.refl _⟩
  case round =>
    obtain ⟨k, o, hk, rfl, hs, Hk, Ik⟩ := hrel
    have ol : o.length ≤ 10000 := by
      have := Rs.clips_len (l.take k)
      rw [hs.out, List.length_take] at this
      omega
    have OL := Lib.hid ol
    clear ol
    by_cases hlt : k < l.length
    · have hlti : (k : Int) < (l.length : Int) := by omega
      obtain ⟨b, off, x1, x2, rfl, hx, hc⟩ := HV.out k hlt
      obtain ⟨c0, c1⟩ := hc wr Hk.right
      have hs' := Rs.clips_take l k hlt
      rw [hs.out, hx] at hs'
      obtain ⟨m1, k1⟩ : ∃ m, max x1 0 = m := ⟨_, rfl⟩
      obtain ⟨m2, k2⟩ : ∃ m, min x2 4294967295 = m := ⟨_, rfl⟩
      have kc : Rs.clip (x1, x2) = (m1, m2) := by rw [← k1, ← k2]; rfl
      rw [kc] at hs'
      have HB := Hk.alloc (.cells #[.int .i64 m1, .int .i64 m2] 107)
      have IB := Ik.alloc (.cells #[.int .i64 m1, .int .i64 m2] 107)
      clear hc hx hs kc
      by_cases hok : m1 ≤ m2
      · have HS : Hid (Rs.clips (l.take (k + 1)) = o ++ [(m1, m2)]) := Lib.hid (by rw [hs', if_pos hok])
        clear hs'
        go_wp2_with (at_builtin; refine wpList_append_rec Tryz.rowR encR_ok rfl (.tmp 28) (.tmp 30) rfl rfl HB (by have := OL.out; omega) (m1, m2) rfl (by simp) ?_; intro v3 w3 H3 I3)
        go_roundw
        case rel => exact ⟨k + 1, _, by omega, by go_num, HS, H3, IB.trans I3⟩
        case measure => simp [intOf]; omega
      · have HS : Hid (Rs.clips (l.take (k + 1)) = o) := Lib.hid (by rw [hs', if_neg hok])
        clear hs'
        go_wp2_with fail
        go_roundw
        case rel => exact ⟨k + 1, o, by omega, by go_num, HS, HB, IB⟩
        case measure => simp [intOf]; omega
    · obtain rfl : k = l.length := by omega
      have hge : ¬ (l.length : Int) < (l.length : Int) := by omega
      have he : Rs.clips l = o := by rw [← hs.out, List.take_length]
      have hoks : Hid (∀ r ∈ o, Rs.Ok r) := Lib.hid (by rw [← he]; exact Rs.clips_ok l)
      have HE := Lib.hid he
      clear HV he hs
      obtain ⟨sa, sc, rfl, sm⟩ := readsR_len (Reads.of_row Hk (by have := OL.out; omega))
      go_wp2_with (go_at_call 131; with_reducible refine sortruns_any Hk (by have := OL.out; omega) ?_; intro s w2 hp hw H2 I2; have hpl := hp.length_eq; rw [← hpl] at H2 ⊢; have sm2 : (s.length : Int) ≤ 9223372036854775807 := (by rw [hpl]; exact sm))
      have hsl : s.length ≤ 10000 := by have := hp.length_eq; have := OL.out; omega
      have hnorm : Hid (s.foldl Rs.mstep [] = Rs.norm l) := Lib.hid (Rs.norm_prog l s (by rw [HE.out]; exact hp) hw)
      have hsok : Hid (∀ r ∈ s, Rs.Ok r) := Lib.hid (fun r hr => hoks.out r (hp.mem_iff.1 hr))
      have HW := Lib.hid hw
      have rs := Reads.of_row H2 (by omega)
      have HSV := Lib.hid (fun k hk => readsR_get rs k hk)
      have I02 := Ik.trans I2
      clear rs hp hw hoks HE OL Hk Ik I2
      go_loopw [6, 37] (fun y x wr => ∃ (k : Nat) (o : List Rn), k ≤ s.length ∧ x = .int .i64 (k : Int) ∧ Hid ((s.take k).foldl Rs.mstep [] = o) ∧ Sat (RowR y o * (RowR (.slice sa s.length sc) s * F)) wr ∧ Io w wr) (fun _ x _ => s.length - (intOf x).toNat)
      case atStart => exact ⟨0, [], by omega, rfl, Lib.hid rfl, row_nilR H2, I02⟩
      case round =>
        obtain ⟨k, o, hk, rfl, hs, Hk, Ik⟩ := hrel
        clear H2 I02
        by_cases hlt : k < s.length
        · have hlti : (k : Int) < (s.length : Int) := by omega
          obtain ⟨b, off, x1, x2, rfl, hx, hc⟩ := HSV.out k hlt
          obtain ⟨c0, c1⟩ := hc wr Hk.right
          obtain ⟨z0, z1, z2⟩ := hsok.out s[k] (List.getElem_mem hlt)
          rw [hx] at z0 z1 z2
          simp only [Rs.most] at z0 z1 z2
          have ol : o.length ≤ 10000 := by
            have := Rs.mfold_len (s.take k) []
            rw [hs.out, List.length_take] at this
            simp at this
            omega
          have OL := Lib.hid ol
          have hcan : Rs.Canon o := by rw [← hs.out]; exact Rs.mfold_canon hsok.out HW.out k
          have hs' : (s.take (k + 1)).foldl Rs.mstep [] = Rs.mstep o (x1, x2) := by rw [Rs.fold_take _ _ _ _ hlt, hs.out, hx]
          have HB := (Hk.new (.cells #[.int .i64 x1, .int .i64 x2] 107)).of_eq (show _ = RowR u6 o * (pts wr.heap.size (.cells #[.int .i64 x1, .int .i64 x2] 107 (0, 0)) * (RowR (.slice (some ⟨b, off, none⟩) s.length sc) s * F)) from by ac_rfl)
          have IB := Ik.alloc (.cells #[.int .i64 x1, .int .i64 x2] 107)
          clear hc hx hs ol HSV
          rcases List.eq_nil_or_concat o with rfl | ⟨o2, cc, rfl⟩
          · have HS : Hid ((s.take (k + 1)).foldl Rs.mstep [] = [(x1, x2)]) := Lib.hid hs'
            clear hs' hcan
            obtain ⟨ra, rc, rfl, _⟩ := readsR_len (Reads.of_row HB (by simp))
            have Hn := fun n => HB.drewN n
            have In := fun n => IB.drewN n
            obtain ⟨e0, e1⟩ := box_cells HB.right
            go_wp2_with fail
            go_quiet (fail)
            go_wp2_with (at_builtin; refine wpList_append_rec Tryz.rowR encR_ok rfl (.tmp 71) (.tmp 73) rfl rfl (Hn _) (by simp) (x1, x2) rfl (by simp) ?_; intro v3 w3 H3 I3)
            go_roundw
            case rel => exact ⟨k + 1, [(x1, x2)], by omega, by go_num, HS, H3.mid, (In _).trans I3⟩
            case measure => simp [intOf]; omega
          · rw [List.concat_eq_append] at *
            obtain ⟨p1, p2⟩ := cc
            obtain ⟨w0, w1', w2'⟩ := (Rs.canon_cons.1 (Rs.canon_append.1 hcan).2.1).1
            simp only [Rs.most] at w0 w1' w2'
            obtain ⟨g, rc, rfl⟩ := row_shape HB (by simp)
            rw [Rs.mstep_snoc] at hs'
            simp only at hs'
            have hlast : (o2 ++ [(p1, p2)]).length = o2.length + 1 := by simp
            unfold RowR RowOf at HB
            rw [hlast] at HB ⊢
            generalize hq : o2.length = q at *
            have hq1 : (q : Int) < ((q + 1 : Nat) : Int) := by omega
            have hq0 : (0 : Int) ≤ (q : Int) := by omega
            have hsub : (q : Int) + 1 - 1 = (q : Int) := by omega
            have hqp : (0 : Int) < (q : Int) + 1 := by omega
            have hql : q ≤ 10000 := by have := OL.out; simp at this; omega
            have hcl2 : (cellsOf encR o2).length = q * 2 := by rw [cellsOf_length encR_ok, hq]
            have d0 := row_read HB (q * 2) (.int .i64 p1) (by rw [cellsOf_append, List.getElem?_append_right (by omega), hcl2, Nat.sub_self]; rfl)
            have d1 := row_read HB (q * 2 + 1) (.int .i64 p2) (by rw [cellsOf_append, List.getElem?_append_right (by omega), hcl2, show q * 2 + 1 - q * 2 = 1 from by omega]; rfl)
            have fz := row_free HB (q * 2 + 1)
            have Hn := fun n => HB.drewN n
            have In := fun n => IB.drewN n
            obtain ⟨e0, e1⟩ := box_cells HB.right
            have HCL := Lib.hid hcl2
            clear hcan hcl2
            by_cases hj : x1 ≤ p2 + 1
            · obtain ⟨mm, hmm⟩ : ∃ m, max p2 x2 = m := ⟨_, rfl⟩
              have HS : Hid ((s.take (k + 1)).foldl Rs.mstep [] = o2 ++ [(p1, mm)]) := Lib.hid (by rw [hs', if_pos hj, hmm])
              have X := fun n => (row_store (Hn n) (q * 2 + 1) (.int .i64 mm)).of_eq (show _ = RowR (.slice (some ⟨g, 0, none⟩) (q + 1) rc) (o2 ++ [(p1, mm)]) * (pts wr.heap.size (.cells #[.int .i64 x1, .int .i64 x2] 107 (0, 0)) * (RowR (.slice (some ⟨b, off, none⟩) s.length sc) s * F)) from by
                have hl3 : (o2 ++ [(p1, mm)]).length = q + 1 := by simp [hq]
                unfold RowR RowOf
                rw [hl3, ← hq, cellsR_last])
              clear hs'
              go_wp2_with fail
              go_quiet (fail)
              go_wp2_with fail
              go_region
              go_wp2_with fail
              go_roundw
              case rel => exact ⟨k + 1, _, by omega, by go_num, HS, (X _).mid, (In _).setCell _ _⟩
              case measure => simp [intOf]; omega
            · have HS : Hid ((s.take (k + 1)).foldl Rs.mstep [] = o2 ++ [(p1, p2)] ++ [(x1, x2)]) := Lib.hid (by rw [hs', if_neg hj])
              have X := fun n => (Hn n).of_eq (show _ = RowR (.slice (some ⟨g, 0, none⟩) (q + 1) rc) (o2 ++ [(p1, p2)]) * (pts wr.heap.size (.cells #[.int .i64 x1, .int .i64 x2] 107 (0, 0)) * (RowR (.slice (some ⟨b, off, none⟩) s.length sc) s * F)) from by
                have hl3 : (o2 ++ [(p1, p2)]).length = q + 1 := by simp [hq]
                unfold RowR RowOf
                rw [hl3])
              clear hs'
              go_wp2_with fail
              go_quiet (fail)
              go_wp2_with (at_builtin; refine wpList_append_rec Tryz.rowR encR_ok rfl (.tmp 71) (.tmp 73) rfl rfl (X _) (by have := OL.out; omega) (x1, x2) rfl (by simp) ?_; intro v3 w3 H3 I3)
              go_roundw
              case rel => exact ⟨k + 1, _, by omega, by go_num, HS, H3.mid, (In _).trans I3⟩
              case measure => simp [intOf]; omega
        · obtain rfl : k = s.length := by omega
          have hge : ¬ (s.length : Int) < (s.length : Int) := by omega
          have he : Hid (Rs.norm l = o) := Lib.hid (by rw [← hnorm.out, ← hs.out, List.take_length])
          clear HSV
          go_wp2_with fail
          refine HH.out _ _ ?_ Ik
          rw [he.out]
          exact Hk.mid
end
end Go.Proofs.YtojiffhknddleaaGreatDoor

/-
  Runs: Has, Count, rest, by their walks. It proves no statement by itself.
-/
namespace Go.Proofs.YtojiffhknddleaaGreatDoor
open Go.RowKit Go.Lib
set_option linter.unusedSimpArgs false
set_option linter.unusedVariables false

section
variable {F : Asn} {w : World} {R : Ending → World → Prop} {l m : List Rn} {v u : Value}
set_option maxRecDepth 100000 in
set_option maxHeartbeats 4000000 in
theorem rest_any (hv : ReadsR F v l) (hl : l.length ≤ 10000) (H : Sat F w) (h : ∀ v' w', Sat (RowR v' (Rs.rest l) * F) w' → Io w w' → R (.returned v') w') :
    Calls Tryz.prog 80 #[v] w R := by
  have HH := Lib.hid h
  have HC := Lib.hid (Rs.canon_norm l)
  have hnl := Rs.norm_len l
  have hn2 : Hid (Rs.rest l = Rs.rend ((Rs.norm l).foldl Rs.rstep ([], 0))) := Lib.hid rfl
  clear h
  go_enter Tryz.func80, Tryz.ntmps80
  go_wp2_with (go_at_call 105; with_reducible refine norm_any hv hl H ?_; intro v1 w1 H1 I1; obtain ⟨a, c, rfl, hm⟩ := readsR_len (Reads.of_row H1 (by omega)))
  have rv := Reads.of_row H1 (by omega)
  generalize Rs.norm l = S at *
  have HV := Lib.hid (fun k hk => readsR_get rv k hk)
  clear rv hv
  go_loopw [3, 4, 10] (fun y z x wr => ∃ (k : Nat) (o : List Rn) (f : Int), k ≤ S.length ∧ x = .int .i64 (k : Int) ∧ z = .int .i64 f ∧ Hid ((S.take k).foldl Rs.rstep ([], 0) = (o, f)) ∧ Sat (RowR y o * (RowR (.slice a S.length c) S * F)) wr ∧ Io w wr) (fun _ _ x _ => S.length - (intOf x).toNat)
  case atStart => exact ⟨0, [], 0, by omega, rfl, rfl, Lib.hid rfl, row_nilR H1, I1⟩
  case round =>
    obtain ⟨k, o, f, hk, rfl, rfl, hs, Hk, Ik⟩ := hrel
    clear H1 I1
    have hf := Rs.rfold_from (S.take k) ([], 0) (fun r hr => HC.out.1 r (List.mem_of_mem_take hr)) ⟨Int.le_refl _, by decide⟩
    rw [hs.out] at hf
    simp only [Rs.most] at hf
    obtain ⟨f0, f1⟩ := hf
    have ol : o.length ≤ 10000 := by
      have := Rs.rfold_len (S.take k) ([], 0)
      rw [hs.out, List.length_take] at this
      simp at this
      omega
    have OL := Lib.hid ol
    clear ol
    by_cases hlt : k < S.length
    · have hlti : (k : Int) < (S.length : Int) := by omega
      obtain ⟨b, off, x1, x2, rfl, hx, hc⟩ := HV.out k hlt
      obtain ⟨c0, c1⟩ := hc wr Hk.right
      obtain ⟨y0, y1, y2⟩ := HC.out.1 S[k] (List.getElem_mem hlt)
      rw [hx] at y0 y1 y2
      simp only [Rs.most] at y0 y1 y2
      have hs' : (S.take (k + 1)).foldl Rs.rstep ([], 0) = Rs.rstep (o, f) (x1, x2) := by rw [Rs.fold_take _ _ _ _ hlt, hs.out, hx]
      have HB := (Hk.new (.cells #[.int .i64 x1, .int .i64 x2] 107)).of_eq (show _ = RowR u3 o * (pts wr.heap.size (.cells #[.int .i64 x1, .int .i64 x2] 107 (0, 0)) * (RowR (.slice (some ⟨b, off, none⟩) S.length c) S * F)) from by ac_rfl)
      have IB := Ik.alloc (.cells #[.int .i64 x1, .int .i64 x2] 107)
      clear hc hx hs
      by_cases hj : f < x1
      · have HS : Hid ((S.take (k + 1)).foldl Rs.rstep ([], 0) = (o ++ [(f, x1 - 1)], x2 + 1)) := Lib.hid (by rw [hs']; unfold Rs.rstep; simp only [if_pos hj])
        clear hs'
        go_wp2_with (at_builtin; refine wpList_append_rec Tryz.rowR encR_ok rfl (.tmp 18) (.tmp 24) rfl rfl HB (by have := OL.out; omega) (f, x1 - 1) rfl (by simp) ?_; intro v3 w3 H3 I3; obtain ⟨q0, q1⟩ := box_cells H3.right)
        go_roundw
        case rel => exact ⟨k + 1, _, x2 + 1, by omega, by go_num, by go_num, HS, H3.mid, IB.trans I3⟩
        case measure => simp [intOf]; omega
      · have HS : Hid ((S.take (k + 1)).foldl Rs.rstep ([], 0) = (o, x2 + 1)) := Lib.hid (by rw [hs']; unfold Rs.rstep; simp only [if_neg hj])
        clear hs'
        go_wp2_with fail
        go_roundw
        case rel => exact ⟨k + 1, o, x2 + 1, by omega, by go_num, by go_num, HS, HB.mid, IB⟩
        case measure => simp [intOf]; omega
    · obtain rfl : k = S.length := by omega
      have hge : ¬ (S.length : Int) < (S.length : Int) := by omega
      have he : Rs.rest l = Rs.rend (o, f) := by rw [hn2.out, ← hs.out, List.take_length]
      clear HV
      by_cases hj : f ≤ 4294967295
      · have he2 : Hid (Rs.rest l = o ++ [(f, 4294967295)]) := Lib.hid (he.trans (by unfold Rs.rend; rw [if_pos (show ((o, f) : List Rn × Int).2 ≤ Rs.most from hj)]; rfl))
        clear he
        go_wp2_with (at_builtin; refine wpList_append_rec Tryz.rowR encR_ok rfl (.tmp 32) (.tmp 35) rfl rfl Hk (by have := OL.out; omega) (f, 4294967295) rfl rfl ?_; intro v3 w3 H3 I3)
        refine HH.out _ _ ?_ (Ik.trans I3)
        rw [he2.out]
        exact H3.mid
      · have he2 : Hid (Rs.rest l = o) := Lib.hid (he.trans (by unfold Rs.rend; rw [if_neg (show ¬ ((o, f) : List Rn × Int).2 ≤ Rs.most from hj)]))
        clear he
        go_wp2_with fail
        refine HH.out _ _ ?_ Ik
        rw [he2.out]
        exact Hk.mid
end
end Go.Proofs.YtojiffhknddleaaGreatDoor

/-
  Runs: slices.Grow, slices.Concat of two rows, Union, Meet, Minus, Add, Remove, by their walks. It proves no statement by itself.
-/
namespace Go.Proofs.YtojiffhknddleaaGreatDoor
open Go.RowKit Go.Lib
set_option linter.unusedSimpArgs false
set_option linter.unusedVariables false

section
variable {F : Asn} {w : World} {R : Ending → World → Prop} {l m : List Rn} {v u : Value}
/-- 'append(nil, make(S, m)...)': a new row. -/
theorem run_make_nil {P : Program} {e t tn ty : TypeId} {i : TypeInfo} {z : Value} {kn : IntKind} {sz bytes : Nat} (ht : P.underlying t = some (.slice e)) (htn : P.underlying tn = some (.int kn)) (hi : P.info? e = some i) (hz : i.zero = some z) (hs : i.size = sz) (hb : i.bytes = bytes) (hzs : z.cells.size = sz) (h0 : 0 < sz)
    {G : Asn} (HG : Sat G w) (m : Nat) (hm : 0 < m) (h63 : m ≤ maxLen) (hbytes : m * bytes ≤ 140737488355328) (kq : IntKind) :
    ∃ g' c' w', (Builtin.append_ #[t, tn] ty #[.slice none 0 0, .int kq (m : Int)]).run P w = .ok (.slice (some ⟨g', 0, none⟩) m c') w' ∧ Sat (Row e sz (.slice (some ⟨g', 0, none⟩) m c') m (Builtin.zeroCells z.cells m).toList * G) w' ∧ Io w w' := by
  subst hs
  subst hb
  have hsmall : m ≤ 9223372036854775807 := by simp only [maxLen] at h63; omega
  have hold : (Builtin.firstCells i.size 0 (.slice none 0 0)).run P w.drew = .ok #[] w.drew := by simp [Builtin.firstCells, loadCells, loadCellsFrom]
  have hr := Lib.run_append_grow_zeros (P := P) w t tn ty e i z kq kn ht htn hi hz none 0 0 [] hold m hm h0 (by omega) (by omega) (by omega) (by rw [Nat.zero_add]; exact growslice_fits (by omega) hbytes)
  rw [Nat.zero_add] at hr
  have hge := grownCap_ge w m 0 e
  refine ⟨_, _, _, hr, sat_row.2 ⟨?_, .inr ⟨w.heap.size, _, _, rfl, hge, grownCap_le_maxLen w m 0 e h63, ?_, ?_, (Sat.drew HG).new _⟩⟩, ((Io.refl w).drew).alloc _⟩
  · rw [Array.length_toList, size_zeroCells, hzs]
  · simp only [Array.size_append, List.size_toArray, List.length_nil, size_zeroCells, hzs]
    have e1 := Nat.add_mul m (grownCap w m 0 e - m) i.size
    have e2 : m + (grownCap w m 0 e - m) = grownCap w m 0 e := by omega
    rw [e2] at e1
    omega
  · simp only [Array.toList_append, List.nil_append]
    exact List.take_left' (by rw [Array.length_toList, size_zeroCells, hzs])
set_option maxRecDepth 100000 in
set_option maxHeartbeats 2000000 in
theorem grow_any (n : Nat) (hn : n ≤ 1000000) (H : Sat F w) (h : ∀ v' w', Sat (RowR v' [] * F) w' → Io w w' → R (.returned v') w') :
    Calls Tryz.prog 134 #[.slice none 0 0, .int .i64 (n : Int)] w R := by
  have HH := Lib.hid h
  clear h
  cases n with
  | zero =>
    go_enter Tryz.func134, Tryz.ntmps134
    go_wp2_with fail
    exact HH.out _ _ (row_nilR H) (Io.refl _)
  | succ n =>
    obtain ⟨i0, z, hi, hz0, hz1, hz2, hz3⟩ := Tryz.rowR.parts
    obtain ⟨g, c, w3, hr, H3, I3⟩ := run_make_nil (P := Tryz.prog) (t := 104) (tn := 3) (ty := 104) (kn := .i64) Tryz.underlying104 Tryz.underlying3 hi hz0 hz1 hz2 hz3 (by omega) H (n + 1) (by omega) (by unfold maxLen; omega) (by omega) .i64
    have hcap := (row_cap H3).2
    have H4 := row_shrink H3 (k := 0) (by omega)
    have q1 : (0 : Int) < ((n + 1 : Nat) : Int) := by omega
    have q2 : (0 : Int) ≤ (c : Int) := by omega
    have q3 : (c : Int) ≤ 9223372036854775807 := by unfold maxLen at hcap; omega
    have q4 : ((n + 1 : Nat) : Int) ≤ 1000000 := by omega
    have fin : Hid (Sat (RowR (.slice (some ⟨g, 0, none⟩) 0 c) [] * F) w3) := Lib.hid (by
      refine H4.of_eq ?_
      unfold RowR RowOf
      rw [Nat.zero_mul, List.take_zero]
      rfl)
    generalize hN : ((n + 1 : Nat) : Int) = N at *
    clear H H3 H4
    go_enter Tryz.func134, Tryz.ntmps134
    go_wp2_with (at_builtin; refine Lib.wpList_append_run _ rfl _ _ _ _ rfl _ _ rfl rfl _ _ hr ?_)
    exact HH.out _ _ fin.out I3
theorem grow_at (N : Int) (n : Nat) (hN : N = (n : Int)) (hn : n ≤ 1000000) (H : Sat F w) (h : ∀ v' w', Sat (RowR v' [] * F) w' → Io w w' → R (.returned v') w') :
    Calls Tryz.prog 134 #[.slice none 0 0, .int .i64 N] w R := by
  subst hN
  exact grow_any n hn H h
set_option maxRecDepth 100000 in
set_option maxHeartbeats 4000000 in
theorem concat_any {bb : Nat} (hv : ReadsR F v l) (hl : l.length ≤ 10000) (hu : ReadsR F u m) (hm0 : m.length ≤ 10000) (H : Sat (pts bb (.cells #[v, u] 104 (0, 0)) * F) w) (h : ∀ v' w', Sat (RowR v' (l ++ m) * F) w' → Io w w' → R (.returned v') w') :
    Calls Tryz.prog 106 #[.slice (some ⟨bb, 0, none⟩) 2 2] w R := by
  obtain ⟨a, c, rfl, hm⟩ := readsR_len hv
  obtain ⟨a', c', rfl, hm'⟩ := readsR_len hu
  have HH := Lib.hid h
  have hv' := Lib.hid (hv.with (G := pts bb (.cells #[.slice a l.length c, .slice a' m.length c'] 104 (0, 0))))
  have hu' := Lib.hid (hu.with (G := pts bb (.cells #[.slice a l.length c, .slice a' m.length c'] 104 (0, 0))))
  obtain ⟨c0, c1⟩ := box_cells H
  have q1 : (0 : Int) ≤ (l.length : Int) := by omega
  have q2 : (l.length : Int) ≤ 10000 := by omega
  have q3 : (m.length : Int) ≤ 10000 := by omega
  have q4 : (0 : Int) ≤ (l.length : Int) + (m.length : Int) := by omega
  have LL := Lib.hid hl
  have LM := Lib.hid hm0
  clear h hv hu hl hm0
  go_enter Tryz.func106, Tryz.ntmps106
  go_wp2_with fail
  refine wp_loop_rounds 3 ?_
  rw [rounds_succ]
  go_wp2_with fail
  rw [rounds_succ]
  go_wp2_with fail
  rw [rounds_succ]
  go_wp2_with (go_at_call 134; with_reducible refine grow_at _ (l.length + m.length) (by omega) (by have := LL.out; have := LM.out; omega) H ?_; intro v3 w3 H3 I3; obtain ⟨d0, d1⟩ := box_cells H3.right)
  refine wp_loop_rounds 3 ?_
  rw [rounds_succ]
  go_wp2_with (at_builtin; refine wpList_append_recs Tryz.rowR encR_ok rfl (.tmp 31) (.tmp 32) rfl rfl H3 (by simp) (by have := LL.out; omega) rfl hv'.out ?_; intro v4 w4 H4 I4; obtain ⟨e0, e1⟩ := box_cells H4.right)
  rw [rounds_succ]
  go_wp2_with (at_builtin; refine wpList_append_recs Tryz.rowR encR_ok rfl (.tmp 31) (.tmp 32) rfl rfl H4 (by have := LL.out; simp; omega) (by have := LM.out; omega) rfl hu'.out ?_; intro v5 w5 H5 I5)
  rw [rounds_succ]
  go_wp2_with fail
  rw [List.nil_append] at H5
  exact HH.out _ _ H5.mid ((I3.trans I4).trans I5)
set_option maxRecDepth 100000 in
set_option maxHeartbeats 1000000 in
theorem union_any (hv : ReadsR F v l) (hl : l.length ≤ 5000) (hu : ReadsR F u m) (hm0 : m.length ≤ 5000) (H : Sat F w) (h : ∀ v' w', Sat (RowR v' (Rs.union l m) * F) w' → Io w w' → R (.returned v') w') :
    Calls Tryz.prog 81 #[v, u] w R := by
  obtain ⟨a, c, rfl, hm⟩ := readsR_len hv
  obtain ⟨a', c', rfl, hm'⟩ := readsR_len hu
  have HH := Lib.hid h
  have HB := H.new (.cells #[.slice a l.length c, .slice a' m.length c'] 104)
  have IB := (Io.refl w).alloc (.cells #[.slice a l.length c, .slice a' m.length c'] 104)
  clear h
  go_enter Tryz.func81, Tryz.ntmps81
  go_wp2_with (first
    | (go_at_call 106; with_reducible refine concat_any hv (by omega) hu (by omega) HB ?_; intro v2 w2 H2 I2)
    | (go_at_call 105; with_reducible refine norm_any (Reads.of_row H2 (by rw [List.length_append]; omega)) (by rw [List.length_append]; omega) H2 ?_; intro v3 w3 H3 I3))
  exact HH.out _ _ H3.mid ((IB.trans I2).trans I3)
set_option maxRecDepth 100000 in
set_option maxHeartbeats 1000000 in
theorem meet_any (hv : ReadsR F v l) (hl : l.length ≤ 2000) (hu : ReadsR F u m) (hm0 : m.length ≤ 2000) (H : Sat F w) (h : ∀ v' w', Sat (RowR v' (Rs.meet l m) * F) w' → Io w w' → R (.returned v') w') :
    Calls Tryz.prog 57 #[v, u] w R := by
  have HH := Lib.hid h
  have n1 := Rs.rest_len l
  have n2 := Rs.rest_len m
  have n3 := Rs.union_len (Rs.rest l) (Rs.rest m)
  clear h
  go_enter Tryz.func57, Tryz.ntmps57
  go_wp2_with (first
    | (go_at_call 80; first
      | (with_reducible refine rest_any hv (by omega) H ?_; intro v2 w2 H2 I2)
      | (with_reducible refine rest_any hu.with (by omega) H2 ?_; intro v3 w3 H3 I3)
      | (with_reducible refine rest_any (Reads.of_row H4 (by omega)) (by omega) H4 ?_; intro v5 w5 H5 I5))
    | (go_at_call 81; with_reducible refine union_any (Reads.of_row H2 (by omega)).with (by omega) (Reads.of_row H3 (by omega)) (by omega) H3 ?_; intro v4 w4 H4 I4))
  exact HH.out _ _ H5.mid.mid.mid (((I2.trans I3).trans I4).trans I5)
set_option maxRecDepth 100000 in
set_option maxHeartbeats 1000000 in
theorem minusr_any (hv : ReadsR F v l) (hl : l.length ≤ 1900) (hu : ReadsR F u m) (hm0 : m.length ≤ 1900) (H : Sat F w) (h : ∀ v' w', Sat (RowR v' (Rs.minus l m) * F) w' → Io w w' → R (.returned v') w') :
    Calls Tryz.prog 164 #[v, u] w R := by
  have HH := Lib.hid h
  have n2 := Rs.rest_len m
  have E := Lib.hid (Rs.pminus_eq l m)
  clear h
  go_enter Tryz.func164, Tryz.ntmps164
  go_wp2_with (first
    | (go_at_call 80; with_reducible refine rest_any hu (by omega) H ?_; intro v2 w2 H2 I2)
    | (go_at_call 57; with_reducible refine meet_any hv.with (by omega) (Reads.of_row H2 (by omega)) (by omega) H2 ?_; intro v3 w3 H3 I3))
  refine HH.out _ _ ?_ (I2.trans I3)
  rw [← E.out]
  exact H3.mid
theorem reads_one {b : Nat} (x1 x2 : Int) : ReadsR (pts b (.cells #[.int .i64 x1, .int .i64 x2] 107 (0, 0)) * F) (.slice (some ⟨b, 0, none⟩) 1 1) [(x1, x2)] :=
  ⟨_, 1, rfl, by simp, .inr ⟨b, 0, rfl, fun w hw j u hu => by rw [Nat.zero_add, Sat.read hw.left.at j, List.getElem?_toArray]; exact hu⟩⟩
set_option maxRecDepth 100000 in
set_option maxHeartbeats 1000000 in
theorem add_any (hv : ReadsR F v l) (hl : l.length ≤ 1900) (n : Int) (H : Sat F w) (h : ∀ v' w', Sat (RowR v' (Rs.union l [(n, n)]) * F) w' → Io w w' → R (.returned v') w') :
    Calls Tryz.prog 117 #[v, .int .i64 n] w R := by
  have HH := Lib.hid h
  have HB := H.new (.cells #[.int .i64 n, .int .i64 n] 107)
  have IB := (Io.refl w).alloc (.cells #[.int .i64 n, .int .i64 n] 107)
  clear h
  go_enter Tryz.func117, Tryz.ntmps117
  go_wp2_with (go_at_call 81; with_reducible refine union_any hv.with (by omega) (reads_one n n) (by simp) HB ?_; intro v2 w2 H2 I2)
  exact HH.out _ _ H2.mid (IB.trans I2)
set_option maxRecDepth 100000 in
set_option maxHeartbeats 1000000 in
theorem remove_any (hv : ReadsR F v l) (hl : l.length ≤ 1900) (n : Int) (H : Sat F w) (h : ∀ v' w', Sat (RowR v' (Rs.minus l [(n, n)]) * F) w' → Io w w' → R (.returned v') w') :
    Calls Tryz.prog 150 #[v, .int .i64 n] w R := by
  have HH := Lib.hid h
  have HB := H.new (.cells #[.int .i64 n, .int .i64 n] 107)
  have IB := (Io.refl w).alloc (.cells #[.int .i64 n, .int .i64 n] 107)
  clear h
  go_enter Tryz.func150, Tryz.ntmps150
  go_wp2_with (go_at_call 164; with_reducible refine minusr_any hv.with (by omega) (reads_one n n) (by simp) HB ?_; intro v2 w2 H2 I2)
  exact HH.out _ _ H2.mid (IB.trans I2)
end
end Go.Proofs.YtojiffhknddleaaGreatDoor
