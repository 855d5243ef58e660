/-
  The document's lists of runs: Minus, by its walk. It proves no statement by itself.
-/
import Derived.Test.YtaekcmpeglagnaaRd
namespace Go.Proofs.Ytaekcmpeglagnaa
open Go.RowKit Go.Lib
set_option linter.unusedSimpArgs false
set_option linter.unusedVariables false

section
variable {F : Asn} {w : World} {R : Ending → World → Prop} {l m : List Rn} {v u : Value}
set_option maxRecDepth 100000 in
set_option maxHeartbeats 8000000 in
theorem rminusr_any (hv : ReadsR F v l) (hl : l.length ≤ 5000) (hu : ReadsR F u m) (hm0 : m.length ≤ 5000) (H : Sat F w) (h : ∀ v' w', Sat (RowR v' (Rs.minus l m) * F) w' → Io w w' → R (.returned v') w') :
    Calls Try.prog 24 #[v, u] w R := by
  obtain ⟨a, c, rfl, hm⟩ := readsR_len hu
  have HU := Lib.hid (fun k hk => readsR_get hu k hk)
  have HH := Lib.hid h
  have hnl := Rs.norm_len l
  have NL := Lib.hid hnl
  clear h hu hnl
  go_enter Try.func24, Try.ntmps24
  go_wp2_with (go_at_call 10; with_reducible refine rnorm_any hv (by omega) H ?_; intro v1 w1 H1 I1)
  clear hv
  go_loopw [5, 6] (fun y x wr => ∃ (k : Nat) (o : List Rn), k ≤ m.length ∧ x = .int .i64 (k : Int) ∧ Hid ((m.take k).foldl Rs.cut (Rs.norm l) = o) ∧ Sat (RowR y o * F) wr ∧ Io w wr) (fun _ x _ => m.length - (intOf x).toNat)
  case atStart => exact ⟨0, _, by omega, rfl, Lib.hid rfl, H1, I1⟩
  case round =>
    obtain ⟨k, o, hk, rfl, hs, Hk, Ik⟩ := hrel
    clear H1 I1
    by_cases hlt : k < m.length
    · have hlti : (k : Int) < (m.length : Int) := by omega
      obtain ⟨b, off, x1, x2, rfl, hx, hc⟩ := HU.out k hlt
      obtain ⟨c0, c1⟩ := hc wr Hk.right
      have ol : o.length ≤ 10000 := by
        have := Rs.cfold_len (m.take k) (Rs.norm l) (Rs.canon_norm l)
        have h2 := NL.out
        rw [hs.out, List.length_take] at this
        omega
      have hcan : Hid (Rs.Canon o) := Lib.hid (by rw [← hs.out]; exact Rs.canon_cfold _ _)
      have hs' : (m.take (k + 1)).foldl Rs.cut (Rs.norm l) = Rs.cut o (x1, x2) := by rw [Rs.fold_take _ _ _ _ hlt, hs.out, hx]
      have OL := Lib.hid ol
      obtain ⟨cx, hcx⟩ : ∃ c, Hid (c = Rs.clip (x1, x2)) := ⟨_, Lib.hid rfl⟩
      have C1 := Hk
      by_cases hok : cx.1 ≤ cx.2
      · have hd : Hid (true = decide (cx.1 ≤ cx.2)) := Lib.hid (by simpa using hok)
        have hcut : Hid ((m.take (k + 1)).foldl Rs.cut (Rs.norm l) = o.foldl (Rs.cut1 cx) []) := Lib.hid (by rw [hs', Rs.cut, ← hcx.out, if_pos hok])
        have hOk : Rs.Ok cx := by rw [hcx.out]; exact Rs.clip_ok (by rw [← hcx.out]; exact hok)
        obtain ⟨r1, r2⟩ := cx
        have HOK := Lib.hid hOk
        obtain ⟨g0, g1, g2⟩ := hOk
        simp only [Rs.most] at g0 g1 g2
        clear hc hx hs ol hs' hok
        go_wp2_with (go_at_call 35; with_reducible refine rclip_any (x1, x2) hcx hd Hk ?_; intro w2 H2 I2)
        have B2 := (H2.new (.cells #[.int .i64 r1, .int .i64 r2] 28)).of_eq (show _ = RowR u5 o * (pts w2.heap.size (.cells #[.int .i64 r1, .int .i64 r2] 28 (0, 0)) * F) from by ac_rfl)
        have J2 := (Ik.trans I2).alloc (.cells #[.int .i64 r1, .int .i64 r2] 28)
        generalize w2.alloc (.cells #[.int .i64 r1, .int .i64 r2] 28) = w3 at *
        generalize w2.heap.size = bx at *
        have ro := Reads.of_row B2 (by have := OL.out; omega)
        obtain ⟨oa, oc, rfl, om⟩ := readsR_len ro
        have HO := Lib.hid (fun k hk => readsR_get ro k hk)
        clear ro H2 I2 C1 Hk Ik c0 c1
        go_loopw [9, 10] (fun y x wr => ∃ (j : Nat) (nx : List Rn), j ≤ o.length ∧ x = .int .i64 (j : Int) ∧ Hid ((o.take j).foldl (Rs.cut1 (r1, r2)) [] = nx) ∧ Sat (RowR y nx * (RowR (.slice oa o.length oc) o * (pts bx (.cells #[.int .i64 r1, .int .i64 r2] 28 (0, 0)) * F))) wr ∧ Io w wr) (fun _ x _ => o.length - (intOf x).toNat)
        case atStart => exact ⟨0, [], by omega, rfl, Lib.hid rfl, row_nilR B2, J2⟩
        case round =>
          obtain ⟨j, nx, hj, rfl, hsj, Hj, Ij⟩ := hrel
          clear B2 J2
          by_cases hlj : j < o.length
          · have hlji : (j : Int) < (o.length : Int) := by omega
            have hj0 : (0 : Int) ≤ (j : Int) := by omega
            obtain ⟨b', off', y1, y2, rfl, hy, hcy⟩ := HO.out j hlj
            obtain ⟨e0, e1⟩ := hcy wr Hj.right
            obtain ⟨q0, q1⟩ := box_cells Hj.right.right
            obtain ⟨z0, z1, z2⟩ := hcan.out.1 o[j] (List.getElem_mem hlj)
            rw [hy] at z0 z1 z2
            simp only [Rs.most] at z0 z1 z2
            have hcn : Hid (Rs.Canon nx) := Lib.hid (by rw [← hsj.out]; exact Rs.cut1_canon _ (Rs.canon_take hcan.out j))
            have nxl : Hid (nx.length ≤ 20000) := Lib.hid (by
              have := Rs.cut1_le (r1, r2) HOK.out (o.take j) (Rs.canon_take hcan.out j)
              rw [hsj.out, List.length_take] at this
              have := OL.out
              omega)
            obtain ⟨m1, k1⟩ : ∃ m, m = min y2 (r1 - 1) := ⟨_, rfl⟩
            obtain ⟨m2, k2⟩ : ∃ m, m = max y1 (r2 + 1) := ⟨_, rfl⟩
            obtain ⟨n1, hn1⟩ : ∃ n, Hid (n = Rs.put nx (y1, m1)) := ⟨_, Lib.hid rfl⟩
            obtain ⟨n2, hn2⟩ : ∃ n, Hid (n = Rs.put n1 (m2, y2)) := ⟨_, Lib.hid rfl⟩
            have hc1 : Hid (Rs.Canon n1) := Lib.hid (by rw [hn1.out]; exact (Rs.put_key hcn.out _).1)
            have n1l : Hid (n1.length ≤ 20001) := Lib.hid (by
              have := Rs.put_len nx (y1, m1)
              rw [← hn1.out] at this
              have := nxl.out
              omega)
            have HS : Hid ((o.take (j + 1)).foldl (Rs.cut1 (r1, r2)) [] = n2) := Lib.hid (by rw [Rs.fold_take _ _ _ _ hlj, hsj.out, hy, hn2.out, hn1.out, k1, k2]; rfl)
            have HCY := Lib.hid hcy
            have hw1 : IntKind.i64.wrap (r1 - 1) = r1 - 1 := by rw [IntKind.wrap_i64]; omega
            have hw2 : IntKind.i64.wrap (r2 + 1) = r2 + 1 := by rw [IntKind.wrap_i64]; omega
            have hf1 : (if IntKind.i64.wrap (r1 - 1) < y2 then IntKind.i64.wrap (r1 - 1) else y2) = m1 := by rw [hw1, k1]; split <;> omega
            have hf2 : (if IntKind.i64.wrap (r2 + 1) < y1 then y1 else IntKind.i64.wrap (r2 + 1)) = m2 := by rw [hw2, k2]; split <;> omega
            have hf3 : (if y1 < IntKind.i64.wrap (r2 + 1) then IntKind.i64.wrap (r2 + 1) else y1) = m2 := by rw [hw2, k2]; split <;> omega
            clear hcy hy hsj k1 k2 hw1 hw2
            have F1 := Lib.hid hf1
            have F2 := Lib.hid hf2
            have F3 := Lib.hid hf3
            clear hf1 hf2 hf3
            go_wp2_with fail
            go_region_held3 (fun W => (W.cell? ⟨bx, 0, none⟩ = some (.int .i64 r1) ∧ W.cell? ⟨bx, 1, none⟩ = some (.int .i64 r2)) ∧ W.cell? ⟨b', off' + j * 2, none⟩ = some (.int .i64 y1) ∧ W.cell? ⟨b', off' + j * 2 + 1, none⟩ = some (.int .i64 y2)) (first | exact ⟨⟨q0, q1⟩, e0, e1⟩ | exact ⟨p0, p1⟩) ((go_at_call 26; rw [F1.out]; with_reducible refine rputr_row Hj.drew (by have := nxl.out; omega) hcn.out (y1, m1) hn1 ?_; intro v4 w4 H4 I4; have p0 := box_cells H4.right.right; have p1 := HCY.out w4 H4.right))
            clear q0 q1 e0 e1
            obtain ⟨q0, q1⟩ := p0
            obtain ⟨e0, e1⟩ := p1
            go_wp2_with fail
            go_region_held3 (fun W => (W.cell? ⟨bx, 0, none⟩ = some (.int .i64 r1) ∧ W.cell? ⟨bx, 1, none⟩ = some (.int .i64 r2)) ∧ W.cell? ⟨b', off' + j * 2, none⟩ = some (.int .i64 y1) ∧ W.cell? ⟨b', off' + j * 2 + 1, none⟩ = some (.int .i64 y2)) (first | exact ⟨⟨q0, q1⟩, e0, e1⟩ | exact ⟨p2, p3⟩) ((go_at_call 26; first | rw [F2.out] | rw [F3.out]; with_reducible refine rputr_row H4.drew (by have := n1l.out; omega) hc1.out (m2, y2) hn2 ?_; intro v5 w5 H5 I5; have p2 := box_cells H5.right.right; have p3 := HCY.out w5 H5.right))
            go_wp2_with fail
            go_roundw
            case rel => exact ⟨j + 1, n2, by omega, by go_num, HS, H5, (Ij.drew.trans I4).drew.trans I5⟩
            case measure => simp [intOf]; omega
          · obtain rfl : j = o.length := by omega
            have hge : ¬ (o.length : Int) < (o.length : Int) := by omega
            have he : Hid ((m.take (k + 1)).foldl Rs.cut (Rs.norm l) = nx) := Lib.hid (by rw [hcut.out, ← hsj.out, List.take_length])
            clear HO
            go_wp2_with fail
            go_roundw
            case rel => exact ⟨k + 1, nx, by omega, by go_num, he, Hj.mid.mid, Ij⟩
            case measure => simp [intOf]; omega
      · have hd : Hid (false = decide (cx.1 ≤ cx.2)) := Lib.hid (by simpa using hok)
        have hcut : Hid ((m.take (k + 1)).foldl Rs.cut (Rs.norm l) = o) := Lib.hid (by rw [hs', Rs.cut, ← hcx.out, if_neg hok])
        obtain ⟨r1, r2⟩ := cx
        clear hc hx hs ol hs' hok
        go_wp2_with (go_at_call 35; with_reducible refine rclip_any (x1, x2) hcx hd Hk ?_; intro w2 H2 I2)
        go_roundw
        case rel => exact ⟨k + 1, o, by omega, by go_num, hcut, H2.alloc _, (Ik.trans I2).alloc _⟩
        case measure => simp [intOf]; omega
    · obtain rfl : k = m.length := by omega
      have hge : ¬ (m.length : Int) < (m.length : Int) := by omega
      have he : Hid (Rs.minus l m = o) := Lib.hid (by unfold Rs.minus; rw [← hs.out, List.take_length])
      clear HU
      go_wp2_with fail
      refine HH.out _ _ ?_ Ik
      rw [he.out]
      exact Hk
end
end Go.Proofs.Ytaekcmpeglagnaa
