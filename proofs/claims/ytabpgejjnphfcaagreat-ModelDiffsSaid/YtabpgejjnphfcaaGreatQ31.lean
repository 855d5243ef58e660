/-
  Edges: Apply, by its walk. It proves no statement by itself.
-/
import Derived.Test.YtabpgejjnphfcaaGreatQ20
import Derived.Test.YtabpgejjnphfcaaGreatQ28
import Derived.Test.YtabpgejjnphfcaaGreatQ29
import Derived.Test.YtabpgejjnphfcaaGreatQ30
namespace Go.Proofs.YtabpgejjnphfcaaGreat
open Go.RowKit
set_option linter.unusedSimpArgs false
set_option linter.unusedVariables false

section
variable {F : Asn} {w : World} {R : Ending → World → Prop} {l : List Pr} {v u : Value}
set_option maxRecDepth 100000 in
set_option maxHeartbeats 4000000 in
theorem apply_any {c : List Ch} (hv : ReadsP F v l) (hl : l.length ≤ 10000) (hu : ReadsC F u c) (hm0 : c.length ≤ 10000) (H : Sat F w) (h : ∀ v' w', Sat (RowP v' (Eg.apply l c) * F) w' → Io w w' → R (.returned v') w') :
    Calls Tryz.prog 72 #[v, u] w R := by
  have hSl := Eg.sort_len l
  have hSs := Eg.srt_sort l
  obtain ⟨S, hS⟩ : ∃ S, Hid (S = Eg.sort l) := ⟨_, Lib.hid rfl⟩
  have HH := Lib.hid h
  rw [← hS.out] at hSl hSs
  have HSS := Lib.hid hSs
  clear h hSs
  obtain ⟨ca, cc, rfl, hcm⟩ := readsC_len hu
  have HC := Lib.hid (fun k hk => readsC_get hu k hk)
  clear hu
  go_enter Tryz.func72, Tryz.ntmps72
  go_wp2_with (go_at_call 96; with_reducible refine sort_any hv (by omega) H ?_; intro vs w1 H1 I1)
  rw [← hS.out] at H1
  clear hv
  go_loopw [5, 14] (fun y x wr => ∃ (k : Nat) (o : List Pr), k ≤ c.length ∧ x = .int .i64 (k : Int) ∧ Hid ((c.take k).foldl Eg.one S = o) ∧ Hid (Eg.Srt o) ∧ Sat (RowP y o * F) wr ∧ Io w wr) (fun _ x _ => c.length - (intOf x).toNat)
  case atStart => exact ⟨0, S, by omega, rfl, Lib.hid rfl, HSS, H1, I1⟩
  case round =>
    obtain ⟨k, o, hk, rfl, hs, ho, Hk, Ik⟩ := hrel
    clear H1 I1
    by_cases hlt : k < c.length
    · have hlti : (k : Int) < (c.length : Int) := by omega
      obtain ⟨b, off, x1, x2, x3, rfl, hx, hc⟩ := HC.out k hlt
      obtain ⟨c0, c1, c2⟩ := hc wr Hk.right
      have ol : o.length ≤ 30000 := by
        have := Eg.fold_one_len (c.take k) S
        rw [hs.out, List.length_take] at this
        omega
      have hw := Eg.one_take c S k hlt
      rw [hs.out, hx] at hw
      have HS := Lib.hid hw
      have OL := Lib.hid ol
      obtain ⟨cn, hcn⟩ : ∃ cn, Hid (cn = Eg.cnt (x1, x2) o) := ⟨_, Lib.hid rfl⟩
      obtain ⟨d, hd⟩ : ∃ d, Hid (d = decide ((x1, x2) ∈ o)) := ⟨_, Lib.hid rfl⟩
      have hcl : Hid (cn ≤ o.length) := Lib.hid (by rw [hcn.out]; exact Eg.cnt_le _ _)
      have HB := (Hk.new (.cells #[.int .i64 x1, .int .i64 x2, .bool x3] 51)).of_eq (show _ = RowP u5 o * (pts wr.heap.size (.cells #[.int .i64 x1, .int .i64 x2, .bool x3] 51 (0, 0)) * F) from by ac_rfl)
      have IB := Ik.alloc (.cells #[.int .i64 x1, .int .i64 x2, .bool x3] 51)
      have hcl' : (cn : Int) ≤ (o.length : Int) := by have := hcl.out; omega
      have ol' : (o.length : Int) ≤ 30000 := by have := OL.out; omega
      clear hc hx hs ol hw
      cases x3 with
      | true =>
        cases d with
        | false =>
          have hpa : Hid (Eg.put o (x1, x2) = o.take cn ++ (x1, x2) :: o.drop cn) := Lib.hid (by rw [hcn.out]; exact Eg.put_at ho.out (of_decide_eq_false hd.out.symm))
          have hfin : Hid ((c.take (k + 1)).foldl Eg.one S = o.take cn ++ (x1, x2) :: o.drop cn) := Lib.hid (by rw [HS.out, ← hpa.out]; rfl)
          have hsrt : Hid (Eg.Srt (o.take cn ++ (x1, x2) :: o.drop cn)) := Lib.hid (by rw [← hpa.out]; exact Eg.srt_put ho.out _)
          go_wp2_with fail
          generalize wr.alloc (.cells #[.int .i64 x1, .int .i64 x2, .bool true] 51) = wb at *
          generalize wr.heap.size = bx at *
          refine bsearch_any (p := (x1, x2)) ho.out HB (by have := OL.out; omega) hcn hd ?_
          intro w2 H2 I2
          have q0 := Sat.read H2.right.left.at 0
          have q1 := Sat.read H2.right.left.at 1
          have q2 := Sat.read H2.right.left.at 2
          simp only [List.getElem?_toArray, List.getElem?_cons_zero, List.getElem?_cons_succ] at q0 q1 q2
          have H3 := (H2.new (.cells #[.int .i64 x1, .int .i64 x2] 49)).of_eq (show _ = RowP u5 o * (pts w2.heap.size (.cells #[.int .i64 x1, .int .i64 x2] 49 (0, 0)) * (pts bx (.cells #[.int .i64 x1, .int .i64 x2, .bool true] 51 (0, 0)) * F)) from by ac_rfl)
          go_wp2_with (go_at_call 100; refine insert_any cn hcl.out (by have := OL.out; omega) H3 ?_; intro v4 w4 H4 I4)
          go_roundw
          case rel => exact ⟨k + 1, _, by omega, by go_num, hfin, hsrt, H4.mid.mid, ((IB.trans I2).alloc _).trans I4⟩
          case measure => simp [intOf]; omega
        | true =>
          have hfin : Hid ((c.take (k + 1)).foldl Eg.one S = o) := Lib.hid (by rw [HS.out]; exact Eg.put_same (of_decide_eq_true hd.out.symm))
          go_wp2_with fail
          generalize wr.alloc (.cells #[.int .i64 x1, .int .i64 x2, .bool true] 51) = wb at *
          generalize wr.heap.size = bx at *
          refine bsearch_any (p := (x1, x2)) ho.out HB (by have := OL.out; omega) hcn hd ?_
          intro w2 H2 I2
          have q0 := Sat.read H2.right.left.at 0
          have q1 := Sat.read H2.right.left.at 1
          have q2 := Sat.read H2.right.left.at 2
          simp only [List.getElem?_toArray, List.getElem?_cons_zero, List.getElem?_cons_succ] at q0 q1 q2
          go_wp2_with fail
          go_roundw
          case rel => exact ⟨k + 1, o, by omega, by go_num, hfin, ho, H2.mid, IB.trans I2⟩
          case measure => simp [intOf]; omega
      | false =>
        cases d with
        | true =>
          have hin : Hid (cn < o.length) := Lib.hid (by rw [hcn.out]; exact ((Eg.there_iff ho.out).1 (of_decide_eq_true hd.out.symm)).1)
          have hpa : Hid (Eg.without o (x1, x2) = o.take cn ++ o.drop (cn + 1)) := Lib.hid (by rw [hcn.out]; exact Eg.without_at _ _ ho.out (of_decide_eq_true hd.out.symm))
          have hfin : Hid ((c.take (k + 1)).foldl Eg.one S = o.take cn ++ o.drop (cn + 1)) := Lib.hid (by rw [HS.out, ← hpa.out]; rfl)
          have hsrt : Hid (Eg.Srt (o.take cn ++ o.drop (cn + 1))) := Lib.hid (by rw [← hpa.out]; exact Eg.srt_without ho.out _)
          go_wp2_with fail
          generalize wr.alloc (.cells #[.int .i64 x1, .int .i64 x2, .bool false] 51) = wb at *
          generalize wr.heap.size = bx at *
          refine bsearch_any (p := (x1, x2)) ho.out HB (by have := OL.out; omega) hcn hd ?_
          intro w2 H2 I2
          have q0 := Sat.read H2.right.left.at 0
          have q1 := Sat.read H2.right.left.at 1
          have q2 := Sat.read H2.right.left.at 2
          simp only [List.getElem?_toArray, List.getElem?_cons_zero, List.getElem?_cons_succ] at q0 q1 q2
          go_wp2_with (go_at_call 101; refine delete_any cn hin.out (by have := OL.out; omega) H2 ?_; intro v4 w4 H4 I4)
          go_roundw
          case rel => exact ⟨k + 1, _, by omega, by go_num, hfin, hsrt, H4.mid, (IB.trans I2).trans I4⟩
          case measure => simp [intOf]; omega
        | false =>
          have hfin : Hid ((c.take (k + 1)).foldl Eg.one S = o) := Lib.hid (by rw [HS.out]; exact Eg.without_same (of_decide_eq_false hd.out.symm))
          go_wp2_with fail
          generalize wr.alloc (.cells #[.int .i64 x1, .int .i64 x2, .bool false] 51) = wb at *
          generalize wr.heap.size = bx at *
          refine bsearch_any (p := (x1, x2)) ho.out HB (by have := OL.out; omega) hcn hd ?_
          intro w2 H2 I2
          have q0 := Sat.read H2.right.left.at 0
          have q1 := Sat.read H2.right.left.at 1
          have q2 := Sat.read H2.right.left.at 2
          simp only [List.getElem?_toArray, List.getElem?_cons_zero, List.getElem?_cons_succ] at q0 q1 q2
          go_wp2_with fail
          go_roundw
          case rel => exact ⟨k + 1, o, by omega, by go_num, hfin, ho, H2.mid, IB.trans I2⟩
          case measure => simp [intOf]; omega
    · obtain rfl : k = c.length := by omega
      have hge : ¬ (c.length : Int) < (c.length : Int) := by omega
      have he : Hid (Eg.apply l c = o) := Lib.hid (by unfold Eg.apply; rw [← hS.out, ← hs.out, List.take_length])
      clear HC
      go_wp2_with fail
      refine HH.out _ _ ?_ Ik
      rw [he.out]
      exact Hk
end
end Go.Proofs.YtabpgejjnphfcaaGreat
