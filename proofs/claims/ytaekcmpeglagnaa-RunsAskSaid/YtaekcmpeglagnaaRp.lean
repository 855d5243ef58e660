/-
  The document's lists of runs: Put, by its walk. It proves no statement by itself.
-/
import Derived.Test.YtaekcmpeglagnaaRr
namespace Go.Proofs.Ytaekcmpeglagnaa
open Go.RowKit Go.Lib
set_option linter.unusedSimpArgs false
set_option linter.unusedVariables false

section
variable {F : Asn} {w : World} {R : Ending → World → Prop} {l m : List Rn} {v u : Value}
set_option maxRecDepth 100000 in
set_option maxHeartbeats 8000000 in
theorem rputr_no (hv : ReadsR F v l) (x : Rn) (hx : ¬ (Rs.clip x).1 ≤ (Rs.clip x).2) (H : Sat F w) (h : ∀ w', Sat F w' → Io w w' → R (.returned v) w') :
    Calls Try.prog 26 #[v, .agg #[.int .i64 x.1, .int .i64 x.2]] w R := by
  obtain ⟨a, c, rfl, hm⟩ := readsR_len hv
  have HH := Lib.hid h
  obtain ⟨cx, hcx⟩ : ∃ c, Hid (c = Rs.clip x) := ⟨_, Lib.hid rfl⟩
  have hd : Hid (false = decide (cx.1 ≤ cx.2)) := Lib.hid (by rw [hcx.out]; simpa using hx)
  obtain ⟨x1, x2⟩ := x
  obtain ⟨c1, c2⟩ := cx
  have HP := H.alloc (.cells #[.int .i64 x1, .int .i64 x2] 28)
  have IP := (Io.refl w).alloc (.cells #[.int .i64 x1, .int .i64 x2] 28)
  clear h hx hv
  go_enter Try.func26, Try.ntmps26
  go_wp2_with (go_at_call 35; with_reducible refine rclip_any (x1, x2) hcx hd HP ?_; intro w1 H1 I1)
  exact HH.out _ (H1.alloc _) ((IP.trans I1).alloc _)
set_option maxRecDepth 100000 in
set_option maxHeartbeats 8000000 in
theorem rputr_yes (hv : ReadsR F v l) (hl : l.length ≤ 100000) (hcl : Rs.Canon l) (x : Rn) (hx : (Rs.clip x).1 ≤ (Rs.clip x).2) {o' : List Rn} (ho' : Hid (o' = Rs.put l x)) (H : Sat F w) (h : ∀ v' w', Sat (RowR v' o' * F) w' → Io w w' → R (.returned v') w') :
    Calls Try.prog 26 #[v, .agg #[.int .i64 x.1, .int .i64 x.2]] w R := by
  obtain ⟨a, c, rfl, hm⟩ := readsR_len hv
  have HV := Lib.hid (fun k hk => readsR_get hv k hk)
  have HH := Lib.hid h
  have HC := Lib.hid hcl
  obtain ⟨cx, hcx⟩ : ∃ c, Hid (c = Rs.clip x) := ⟨_, Lib.hid rfl⟩
  have hd : Hid (true = decide (cx.1 ≤ cx.2)) := Lib.hid (by rw [hcx.out]; simpa using hx)
  have hput : Hid (o' = Rs.pend (l.foldl Rs.pstep (cx, [], false))) := Lib.hid (by rw [ho'.out]; unfold Rs.put; rw [if_pos hx, hcx.out])
  have hok := Rs.clip_ok hx
  rw [← hcx.out] at hok
  have HOK := Lib.hid hok
  obtain ⟨x1, x2⟩ := x
  obtain ⟨c1, c2⟩ := cx
  have HP := H.alloc (.cells #[.int .i64 x1, .int .i64 x2] 28)
  have IP := (Io.refl w).alloc (.cells #[.int .i64 x1, .int .i64 x2] 28)
  clear h hx hv hcl hok
  go_enter Try.func26, Try.ntmps26
  go_wp2_with (go_at_call 35; with_reducible refine rclip_any (x1, x2) hcx hd HP ?_; intro w1 H1 I1)
  have B1 := H1.new (.cells #[.int .i64 c1, .int .i64 c2] 28)
  have J1 := (IP.trans I1).alloc (.cells #[.int .i64 c1, .int .i64 c2] 28)
  generalize w1.alloc (.cells #[.int .i64 c1, .int .i64 c2] 28) = w2 at *
  generalize w1.heap.size = bp at *
  clear HP IP H1 I1
  go_loopw [7, 8, 9] (fun y z xx wr => ∃ (k : Nat) (o : List Rn) (d : Bool) (r1 r2 : Int), k ≤ l.length ∧ xx = .int .i64 (k : Int) ∧ z = .bool d ∧ Hid ((l.take k).foldl Rs.pstep ((c1, c2), [], false) = ((r1, r2), o, d)) ∧ Sat (RowR y o * (pts bp (.cells #[.int .i64 r1, .int .i64 r2] 28 (0, 0)) * F)) wr ∧ Io w wr) (fun _ _ x _ => l.length - (intOf x).toNat)
  case atStart => exact ⟨0, [], false, c1, c2, by omega, rfl, rfl, Lib.hid rfl, row_nilR B1, J1⟩
  case round =>
    obtain ⟨k, o, d, r1, r2, hk, rfl, rfl, hs, Hk, Ik⟩ := hrel
    clear B1 J1
    have hrk := Rs.pfold_ok (l.take k) ((c1, c2), [], false) (fun y hy => HC.out.1 y (List.mem_of_mem_take hy)) HOK.out
    rw [hs.out] at hrk
    unfold Rs.Ok at hrk
    have hol := Rs.pfold_len (l.take k) ((c1, c2), [], false)
    rw [hs.out, List.length_take] at hol
    simp only [Rs.most, List.length_nil, Bool.false_eq_true, if_false] at hrk hol
    obtain ⟨hr0, hr01, hr1⟩ := hrk
    have ol : o.length ≤ 100001 := by split at hol <;> omega
    have OL := Lib.hid ol
    clear hol ol
    obtain ⟨q0, q1⟩ := box_cells Hk.right
    by_cases hlt : k < l.length
    · have hlti : (k : Int) < (l.length : Int) := by omega
      obtain ⟨b, off, y1, y2, rfl, hy, hc⟩ := HV.out k hlt
      obtain ⟨hy0, hy1, hy2⟩ := HC.out.1 l[k] (List.getElem_mem hlt)
      rw [hy] at hy0 hy1 hy2
      simp only [Rs.most] at hy0 hy1 hy2
      obtain ⟨e0, e1⟩ := hc wr Hk.right.right
      have hs' : (l.take (k + 1)).foldl Rs.pstep ((c1, c2), [], false) = Rs.pstep ((r1, r2), o, d) (y1, y2) := by rw [Rs.fold_take _ _ _ _ hlt, hs.out, hy]
      have HB := (Hk.new (.cells #[.int .i64 y1, .int .i64 y2] 28)).of_eq (show _ = RowR u7 o * (pts wr.heap.size (.cells #[.int .i64 y1, .int .i64 y2] 28 (0, 0)) * (pts bp (.cells #[.int .i64 r1, .int .i64 r2] 28 (0, 0)) * F)) from by ac_rfl)
      have IB := Ik.alloc (.cells #[.int .i64 y1, .int .i64 y2] 28)
      obtain ⟨p0, p1⟩ := box_cells HB.right.right
      obtain ⟨x0, x1'⟩ := box_cells HB.right
      clear hc hy hs HV
      by_cases g1 : y2 + 1 < r1
      · have hst : Rs.pstep ((r1, r2), o, d) (y1, y2) = ((r1, r2), o ++ [(y1, y2)], d) := by
          unfold Rs.pstep
          simp only [if_pos g1]
        have HS := Lib.hid (hs'.trans hst)
        clear hs' hst
        go_wp2_with (at_builtin; refine wpList_append_rec Try.rowR encR_ok rfl (.tmp 47) (.tmp 49) rfl rfl HB (by have := OL.out; omega) (y1, y2) rfl (by simp) ?_; intro v3 w3 H3 I3)
        go_roundw
        case rel => exact ⟨k + 1, o ++ [(y1, y2)], d, r1, r2, by omega, by go_num, rfl, HS, H3.mid, IB.trans I3⟩
        case measure => simp [intOf]; omega
      · by_cases g2 : r2 + 1 < y1
        · cases d with
          | true =>
            have hst : Rs.pstep ((r1, r2), o, true) (y1, y2) = ((r1, r2), o ++ [(y1, y2)], true) := by
              unfold Rs.pstep
              simp only [if_neg g1, if_pos g2, if_true]
            have HS := Lib.hid (hs'.trans hst)
            clear hs' hst
            go_wp2_with (at_builtin; refine wpList_append_rec Try.rowR encR_ok rfl (.tmp 64) (.tmp 66) rfl rfl HB (by have := OL.out; omega) (y1, y2) rfl (by simp) ?_; intro v3 w3 H3 I3)
            go_roundw
            case rel => exact ⟨k + 1, o ++ [(y1, y2)], true, r1, r2, by omega, by go_num, rfl, HS, H3.mid, IB.trans I3⟩
            case measure => simp [intOf]; omega
          | false =>
            have hst : Rs.pstep ((r1, r2), o, false) (y1, y2) = ((r1, r2), o ++ [(r1, r2)] ++ [(y1, y2)], true) := by
              unfold Rs.pstep
              simp only [if_neg g1, if_pos g2, Bool.false_eq_true, if_false]
              simp
            have HS := Lib.hid (hs'.trans hst)
            clear hs' hst
            go_wp2_with (at_builtin; first
              | (refine wpList_append_rec Try.rowR encR_ok rfl (.tmp 60) (.tmp 62) rfl rfl HB (by have := OL.out; omega) (r1, r2) rfl (by simp) ?_; intro v3 w3 H3 I3; obtain ⟨s0, s1⟩ := box_cells H3.right)
              | (refine wpList_append_rec Try.rowR encR_ok rfl (.tmp 64) (.tmp 66) rfl rfl H3 (by have := OL.out; simp; omega) (y1, y2) rfl rfl ?_; intro v4 w4 H4 I4))
            go_roundw
            case rel => exact ⟨k + 1, o ++ [(r1, r2)] ++ [(y1, y2)], true, r1, r2, by omega, by go_num, rfl, HS, H4.mid, (IB.trans I3).trans I4⟩
            case measure => simp [intOf]; omega
        · have hst : Rs.pstep ((r1, r2), o, d) (y1, y2) = ((min r1 y1, max r2 y2), o, d) := by
            unfold Rs.pstep
            simp only [if_neg g1, if_neg g2]
          have HB2 := HB.of_eq (show _ = pts bp (.cells #[.int .i64 r1, .int .i64 r2] 28 (0, 0)) * (RowR u7 o * (pts wr.heap.size (.cells #[.int .i64 y1, .int .i64 y2] 28 (0, 0)) * F)) from by ac_rfl)
          obtain ⟨f0, f1⟩ := box_free HB2
          obtain ⟨m1, k1⟩ : ∃ m, m = min r1 y1 := ⟨_, rfl⟩
          obtain ⟨m2, k2⟩ : ∃ m, m = max r2 y2 := ⟨_, rfl⟩
          rw [← k1, ← k2] at hst
          have HS := Lib.hid (hs'.trans hst)
          have k1' : (y1 < r1 ∧ m1 = y1) ∨ (r1 ≤ y1 ∧ m1 = r1) := by omega
          have k2' : (r2 < y2 ∧ m2 = y2) ∨ (y2 ≤ r2 ∧ m2 = r2) := by omega
          have HB3 := (box_set (x' := .int .i64 m1) (y' := .int .i64 m2) HB2).of_eq (show _ = pts wr.heap.size (.cells #[.int .i64 y1, .int .i64 y2] 28 (0, 0)) * (RowR u7 o * (pts bp (.cells #[.int .i64 m1, .int .i64 m2] 28 (0, 0)) * F)) from by ac_rfl)
          have IB3 := (IB.setCell ⟨bp, 0, none⟩ (.int .i64 m1)).setCell ⟨bp, 1, none⟩ (.int .i64 m2)
          clear HB2 HB hs' hst k1 k2
          rcases k1' with ⟨z1, rfl⟩ | ⟨z1, rfl⟩ <;> rcases k2' with ⟨z2, rfl⟩ | ⟨z2, rfl⟩
          all_goals
            go_wp2_with fail
            go_roundw
            case rel => exact ⟨k + 1, o, d, _, _, by omega, by go_num, rfl, HS, HB3.right, IB3⟩
            case measure => simp [intOf]; omega
    · obtain rfl : k = l.length := by omega
      have hge : ¬ (l.length : Int) < (l.length : Int) := by omega
      have he : o' = Rs.pend ((r1, r2), o, d) := by rw [hput.out, ← hs.out, List.take_length]
      clear HV
      cases d with
      | true =>
        have he2 : Hid (o' = o) := Lib.hid (he.trans (by unfold Rs.pend; rfl))
        clear he
        go_wp2_with fail
        refine HH.out _ _ ?_ Ik
        rw [he2.out]
        exact Hk.mid
      | false =>
        have he2 : Hid (o' = o ++ [(r1, r2)]) := Lib.hid (he.trans (by unfold Rs.pend; rfl))
        clear he
        go_wp2_with (at_builtin; refine wpList_append_rec Try.rowR encR_ok rfl (.tmp 70) (.tmp 72) rfl rfl Hk (by have := OL.out; omega) (r1, r2) rfl rfl ?_; intro v3 w3 H3 I3)
        refine HH.out _ _ ?_ (Ik.trans I3)
        rw [he2.out]
        exact H3.mid
theorem rputr_row (H : Sat (RowR v l * F) w) (hl : l.length ≤ 100000) (hcl : Rs.Canon l) (x : Rn) {o' : List Rn} (ho' : Hid (o' = Rs.put l x)) (h : ∀ v' w', Sat (RowR v' o' * F) w' → Io w w' → R (.returned v') w') :
    Calls Try.prog 26 #[v, .agg #[.int .i64 x.1, .int .i64 x.2]] w R := by
  have hv := Reads.of_row H (by omega)
  by_cases hx : (Rs.clip x).1 ≤ (Rs.clip x).2
  · exact rputr_yes hv hl hcl x hx ho' H fun v' w' H' I' => h v' w' H'.mid I'
  · refine rputr_no hv x hx H fun w' H' I' => h v w' ?_ I'
    rw [ho'.out, Rs.put_empty _ _ hx]
    exact H'
end
end Go.Proofs.Ytaekcmpeglagnaa
