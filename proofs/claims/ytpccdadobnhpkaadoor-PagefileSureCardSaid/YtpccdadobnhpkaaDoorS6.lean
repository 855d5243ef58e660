/-
  The statement PagefileSure, walked: it answers true. It proves the walk alone; the row is closed elsewhere.
-/
import Derived.Test.YtpccdadobnhpkaaDoorK6
namespace Go.Proofs.YtpccdadobnhpkaaDoor
open Go.RowKit
set_option linter.unusedSimpArgs false
set_option linter.unusedVariables false

theorem ones_set (i : Nat) : (List.replicate 12 (1 : UInt8)).set i 1 = List.replicate 12 1 := by
  apply List.ext_getElem
  · simp
  · intro j h1 h2
    by_cases e : i = j
    · subst e; rw [List.getElem_set_self, List.getElem_replicate]
    · rw [List.getElem_set_ne e]
theorem ones_get (i : Nat) (h : i < 12) : (List.replicate 12 (1 : UInt8)).getD i 0 = 1 := by
  rw [List.getD_eq_getElem?_getD, List.getElem?_replicate, if_pos h]
  rfl
theorem pages_ones {bs : List ByteArray} : Pages (Dk.new 12) bs (List.replicate 12 1) (List.replicate 12 false) := by
  intro i h2 h12
  refine ⟨fun h => ?_, fun _ => Dk.new_now i h12⟩
  rw [List.getD_eq_getElem?_getD, List.getElem?_replicate, if_pos h12] at h
  cases h
namespace Dk
theorem crashes_nil (t c : Int) : ∀ (l : List (Int × ByteArray)) (k : Nat) (sure : List ByteArray), crashes [] t c k l sure = sure
  | [], _, _ => rfl
  | q :: l, k, sure => by
    unfold crashes
    exact crashes_nil t c l (k + 1) sure
theorem write_sure' (d : Dk) (i : Int) (s : ByteArray) : (d.write i s).sure = d.sure := by
  unfold write
  split
  · rfl
  · split <;> rfl
theorem pfW_sure (d : Dk) (i : Int) (k : UInt8) (b : ByteArray) : (d.pfW i k b).sure = d.sure := by
  unfold pfW
  split
  · rfl
  · split
    · rfl
    · exact write_sure' d _ _
/-- What was synced is there behind a crash that keeps nothing. -/
theorem Up.crash {d : Dk} {m : Nat} (h : d.Up m) (t c : Int) (s : Dk) (hs : d.sure = s.sure) (hp : s.pend = []) : (d.crash [] t c).Up m ∧ ∀ j, j < 12 → (d.crash [] t c).now j = s.now j := by
  have e : d.crash [] t c = { d with sure := d.sure, pend := [], down := false, left := -1 } := by unfold Dk.crash; rw [crashes_nil]
  refine ⟨⟨crash_ok' h.ok [] t c, ?_, ?_, ?_, ?_, ?_, ?_⟩, ?_⟩
  · rw [e]; exact h.len
  · rw [e]
  · rw [e]
  · rw [e]; exact Nat.zero_le _
  · rw [e]; exact h.writes
  · rw [e]; exact h.reads
  · intro j hj
    rw [e]
    unfold Dk.now
    rw [hp, hs]
end Dk

section
variable {F : Asn} {w : World} {R : Ending → World → Prop}

set_option maxRecDepth 100000 in
set_option maxHeartbeats 8000000 in
theorem sure_walk (hv : Hv F) {v v' : Value} {l l' : List Act6} (hl : ReadsA F v l) (hl' : ReadsA F v' l') (H : Sat F w) (h : ∀ w', Sat F w' → Io w w' → R (.returned (.bool true)) w') :
    Calls Tryd.prog 5 #[v, v'] w R := by
  have HH := Lib.hid h
  clear h
  obtain ⟨a, c, rfl, hmax⟩ := readsA_len hl
  obtain ⟨a', c', rfl, hmax'⟩ := readsA_len hl'
  have hm1 : (l.length : Int) ≤ 9223372036854775807 := by omega
  have hm2 : (l'.length : Int) ≤ 9223372036854775807 := by omega
  clear hmax hmax'
  by_cases g1 : 300 < (l.length : Int)
  · clear hl hl'
    go_enter Tryd.func5, Tryd.ntmps5
    go_wp2_with fail
    refine works6 hv H ?_
    intro w1 H1 I1
    go_wp2_with fail
    all_goals exact HH.out w1 H1 I1
  by_cases g2 : 300 < (l'.length : Int)
  · clear hl hl'
    go_enter Tryd.func5, Tryd.ntmps5
    go_wp2_with fail
    refine works6 hv H ?_
    intro w1 H1 I1
    go_wp2_with fail
    all_goals exact HH.out w1 H1 I1
  have hlen : (l.length : Int) ≤ 300 := by omega
  have hlen' : (l'.length : Int) ≤ 300 := by omega
  clear g1 g2 hm1 hm2
  have AL := Lib.hid (fun k hk => readsA_at hl k hk)
  have NT := Lib.hid hl.ints
  have AL' := Lib.hid (fun k hk => readsA_at hl' k hk)
  have NT' := Lib.hid hl'.ints
  clear hl hl'
  go_enter Tryd.func5, Tryd.ntmps5
  go_wp2_with fail
  refine works6 hv H ?_
  intro w1 H1 I1
  go_wp2_with fail
  refine new_any 12 (by omega) (by omega) H1 ?_
  rw [show (min (max 12 0) 16384 : Int).toNat = 12 from rfl]
  intro p w2 H2 I2
  have J2 := I1.trans I2
  clear H H1 I1 I2
  go_wp2_with fail
  refine pf_new H2 ?_
  intro q w3 H3 I3
  have J3 := J2.trans I3
  clear H2 J2 I3
  have e1 : (Instr.makeSlice 28 (.int .i64 12) (.int .i64 12)).run Tryd.prog w3 = .ok (.slice (some ⟨w3.heap.size, 0, none⟩) 12 12) (w3.alloc (.cells (List.replicate 12 (Value.string ⟨#[]⟩)).toArray 9)) := by kernel_rfl
  obtain ⟨b1, m1, f1, K1, L1⟩ : ∃ b1 m1, (Instr.makeSlice 28 (.int .i64 12) (.int .i64 12)).run Tryd.prog w3 = .ok (.slice (some ⟨b1, 0, none⟩) 12 12) m1 ∧ Sat (Row 9 1 (.slice (some ⟨b1, 0, none⟩) 12 12) 12 (sv6 (List.replicate 12 ByteArray.empty)) * (IsPf q p (Dk.new 12) * F)) m1 ∧ Io w m1 :=
    ⟨_, _, e1, made_n H3 12 (by decide) (.string ⟨#[]⟩) 9, J3.alloc _⟩
  have e3 : (Instr.makeSlice 30 (.int .i64 12) (.int .i64 12)).run Tryd.prog m1 = .ok (.slice (some ⟨m1.heap.size, 0, none⟩) 12 12) (m1.alloc (.cells (List.replicate 12 (Value.bool false)).toArray 4)) := by kernel_rfl
  obtain ⟨b3, m3, f3, K3, L3⟩ : ∃ b3 m3, (Instr.makeSlice 30 (.int .i64 12) (.int .i64 12)).run Tryd.prog m1 = .ok (.slice (some ⟨b3, 0, none⟩) 12 12) m3 ∧ Sat (Row 4 1 (.slice (some ⟨b3, 0, none⟩) 12 12) 12 (tv6 (List.replicate 12 false)) * (Row 9 1 (.slice (some ⟨b1, 0, none⟩) 12 12) 12 (sv6 (List.replicate 12 ByteArray.empty)) * (IsPf q p (Dk.new 12) * F))) m3 ∧ Io w m3 :=
    ⟨_, _, e3, made_n K1 12 (by decide) (.bool false) 4, L1.alloc _⟩
  clear e1 e3 K1 L1 H3 J3
  have UP := Lib.hid Dk.Up.new
  obtain ⟨B0, hB0⟩ : ∃ x, Hid (x = List.replicate 12 ByteArray.empty) := ⟨_, Lib.hid rfl⟩
  have PG := Lib.hid (@pages_ones B0)
  obtain ⟨D0, hD0⟩ : ∃ x, x = Dk.new 12 := ⟨_, rfl⟩
  obtain ⟨O1, hO1⟩ : ∃ x, Hid (x = List.replicate 12 (1 : UInt8)) := ⟨_, Lib.hid rfl⟩
  obtain ⟨T0, hT0⟩ : ∃ x, Hid (x = List.replicate 12 false) := ⟨_, Lib.hid rfl⟩
  rw [← hD0, ← hO1.out, ← hT0.out] at PG
  rw [← hD0, ← hB0.out, ← hT0.out] at K3
  rw [← hD0] at UP
  have LO : Hid (O1.length = 12) := Lib.hid (by rw [hO1.out]; simp)
  have LB0 : Hid (B0.length = 12) := Lib.hid (by rw [hB0.out]; simp)
  have LT0 : Hid (T0.length = 12) := Lib.hid (by rw [hT0.out]; simp)
  clear hD0 hB0 hT0
  have K5 : Sat (IsPf q p D0 * (Row 9 1 (.slice (some ⟨b1, 0, none⟩) 12 12) 12 (sv6 B0) * (Row 4 1 (.slice (some ⟨b3, 0, none⟩) 12 12) 12 (tv6 T0) * F))) m3 := K3.of_eq (by ac_rfl)
  clear K3
  go_wp2_with fail
  clear f1 f3
  go_loopw [10] (fun x wr => ∃ (k : Nat) (d : Dk) (bs : List ByteArray) (ts : List Bool), k ≤ l.length ∧ x = .int .i64 (k : Int) ∧ d.Up k ∧ Pages d bs O1 ts ∧ bs.length = 12 ∧ ts.length = 12 ∧ Sat (IsPf q p d * (Row 9 1 (.slice (some ⟨b1, 0, none⟩) 12 12) 12 (sv6 bs) * (Row 4 1 (.slice (some ⟨b3, 0, none⟩) 12 12) 12 (tv6 ts) * F))) wr ∧ Io w wr) (fun x _ => l.length - (intOf x).toNat)
  case atStart => exact ⟨0, D0, B0, T0, by omega, rfl, UP.out, PG.out, LB0.out, LT0.out, K5, L3⟩
  case round =>
    obtain ⟨k, d, bs, ts, hk1, rfl, up, pg, l1, l3, Hk, Ik⟩ := hrel
    clear K5 L3 PG UP LB0 LT0
    have UP := Lib.hid up
    have PG := Lib.hid pg
    have LB := Lib.hid l1
    have LT := Lib.hid l3
    clear up pg l1 l3
    by_cases hlt : k < l.length
    · have hlti : (k : Int) < (l.length : Int) := by omega
      obtain ⟨b, off, rfl, hc⟩ := AL.out k hlt
      have hnt := NT.out _ (List.getElem_mem hlt)
      have HC := Lib.hid hc
      clear hc
      generalize l[k].K = xk at *
      generalize l[k].I = xi at *
      generalize l[k].kd = xd at *
      generalize l[k].S = xs at *
      obtain ⟨⟨_, _⟩, ⟨ni0, ni1⟩, xs9⟩ := hnt
      have xs9' : (xs.size : Int) ≤ 9223372036854775807 := by omega
      have XS9 := Lib.hid xs9
      clear xs9
      obtain ⟨_, c1, _, c3⟩ := HC.out wr Hk.right.right.right
      by_cases big : 300 < (xs.size : Int)
      · have fin := HH.out _ Hk.right.right.right Ik
        clear HH Hk Ik AL' NT'
        go_wp2_with fail
        exact fin
      have xsm : (xs.size : Int) ≤ 300 := by omega
      clear big
      have Hd : Sat (IsPf q p d * (Row 9 1 (.slice (some ⟨b1, 0, none⟩) 12 12) 12 (sv6 bs) * (Row 4 1 (.slice (some ⟨b3, 0, none⟩) 12 12) 12 (tv6 ts) * F))) wr.drew := Hk.drew
      obtain ⟨s1, s2, s3⟩ := UP.out.putPage xi 1 xs
      obtain ⟨v1, v2, v3⟩ := page_step UP.out PG.out (show Slots d [d.now 0, d.now 1] from by intro j hj; have : j = 0 ∨ j = 1 := by omega
                                                                                              rcases this with rfl | rfl <;> rfl) LB.out LO.out LT.out xi 1 xs
      have S1 := Lib.hid s1
      have s2' := Lib.hid s2
      have V2 := Lib.hid v2
      have V3 := Lib.hid v3
      clear s1 s2 s3 v1 v2 v3 Hk
      by_cases inr : 2 ≤ xi ∧ xi < 12 ∧ xs.size ≤ 240
      · have S2 : Hid (d.pfWE xi 1 xs = 0) := Lib.hid (by rw [s2'.out, if_pos ⟨inr.1, inr.2.1⟩, if_pos inr.2.2])
        have V2' : Hid (Pages (d.pfW xi 1 xs) (bs.set xi.toNat xs) O1 (ts.set xi.toNat true)) := Lib.hid (by have := V2.out inr; rw [hO1.out, ones_set] at this; rw [hO1.out]; exact this)
        have i0 : 2 ≤ xi := inr.1
        have i00 : (0 : Int) ≤ xi := by omega
        have i1 : xi < 12 := inr.2.1
        have n0 : Hid (xi.toNat < 12) := Lib.hid (by omega)
        clear inr V2 V3 s2'
        go_wp2_with fail
        obtain ⟨_, q1, _, q3⟩ := HC.out _ Hd.right.right.right
        go_region_held3 (fun W => W.cell? ⟨b, off + k * 4 + 1, none⟩ = some (.int .i64 xi) ∧ W.cell? ⟨b, off + k * 4 + 3, none⟩ = some (.string xs)) (first | exact ⟨q1, q3⟩ | exact ⟨(HC.out _ H6.right.right.right).2.1, (HC.out _ H6.right.right.right).2.2.2⟩)
          ((go_at_call 12; refine pf_write hv.with.with Hd UP.out.ok (by have := UP.out.writes; omega) (by have := UP.out.pend; omega) xi 1 xs XS9.out ?_; rw [S2.out]; intro w6 H6 I6))
        have J6 := Ik.drew.trans I6
        clear q1 q3 Hd Ik I6 c1 c3
        generalize hdz : d.pfW xi 1 xs = dz at *
        clear hdz
        have H7 : Sat (Row 9 1 (.slice (some ⟨b1, 0, none⟩) 12 12) 12 (sv6 bs) * (IsPf q p dz * (Row 4 1 (.slice (some ⟨b3, 0, none⟩) 12 12) 12 (tv6 ts) * F))) w6.drew := (H6.of_eq (by ac_rfl)).drew
        have g1s := row_cell H7 xi.toNat _ (sv6_get bs xi.toNat (by rw [LB.out]; exact n0.out))
        obtain ⟨f1, l1⟩ := row_free H7 xi.toNat
        have H8' := row_set H7 xi.toNat n0.out (.string xs)
        rw [sv6_set] at H8'
        have H7n : Sat (Row 9 1 (.slice (some ⟨b1, 0, none⟩) 12 12) 12 (sv6 bs) * (IsPf q p dz * (Row 4 1 (.slice (some ⟨b3, 0, none⟩) 12 12) 12 (tv6 ts) * F))) w6 := H6.of_eq (by ac_rfl)
        have H8n := row_set H7n xi.toNat n0.out (.string xs)
        rw [sv6_set] at H8n
        obtain ⟨_, q1, _, q3⟩ := HC.out _ H7.right.right.right
        have ne : ∀ j, (⟨b, j, none⟩ : Addr) ≠ ⟨b1, xi.toNat, none⟩ → True := fun _ _ => trivial
        obtain ⟨_, z1, _, z3⟩ := HC.out _ H8'.right.right.right
        generalize bs.getD xi.toNat ByteArray.empty = o1 at *
        clear H6
        go_wp2_with fail
        go_region_held3 (fun W => W.cell? ⟨b, off + k * 4 + 1, none⟩ = some (.int .i64 xi) ∧ W.cell? ⟨b, off + k * 4 + 3, none⟩ = some (.string xs)) (first | exact ⟨q1, q3⟩ | exact ⟨z1, z3⟩) (fail)
        have H9 : Sat (Row 4 1 (.slice (some ⟨b3, 0, none⟩) 12 12) 12 (tv6 ts) * (IsPf q p dz * (Row 9 1 (.slice (some ⟨b1, 0, none⟩) 12 12) 12 (sv6 (bs.set xi.toNat xs)) * F))) _ := (H8n.of_eq (by ac_rfl)).drew
        have J9 := (J6.setCell ⟨b1, xi.toNat, none⟩ (.string xs)).drew
        have g3s := row_cell H9 xi.toNat _ (tv6_get ts xi.toNat (by rw [LT.out]; exact n0.out))
        obtain ⟨f3, l3⟩ := row_free H9 xi.toNat
        have HA' := row_set H9 xi.toNat n0.out (.bool true)
        rw [tv6_set] at HA'
        have HA : Sat (IsPf q p dz * (Row 9 1 (.slice (some ⟨b1, 0, none⟩) 12 12) 12 (sv6 (bs.set xi.toNat xs)) * (Row 4 1 (.slice (some ⟨b3, 0, none⟩) 12 12) 12 (tv6 (ts.set xi.toNat true)) * F))) _ := HA'.of_eq (by ac_rfl)
        have JA := J9.setCell ⟨b3, xi.toNat, none⟩ (.bool true)
        obtain ⟨_, y1, _, y3⟩ := HC.out _ H9.right.right.right
        have nl1 : Hid ((bs.set xi.toNat xs).length = 12) := Lib.hid (by rw [List.length_set]; exact LB.out)
        have nl3 : Hid ((ts.set xi.toNat true).length = 12) := Lib.hid (by rw [List.length_set]; exact LT.out)
        generalize ts.getD xi.toNat false = o3 at *
        clear g1s f1 l1 q1 q3 z1 z3 H7 H7n H8' H8n H9 HA' J6 J9
        go_wp2_with fail
        go_roundw
        case rel => exact ⟨k + 1, dz, _, _, by omega, by go_num, S1.out, V2'.out, nl1.out, nl3.out, HA, JA⟩
        case measure => simp [intOf]; omega
      · have hev : ∃ ev, d.pfWE xi 1 xs = ev ∧ (ev == 0) = false := ⟨_, rfl, by rw [s2'.out]; split; rw [if_neg (by omega)]; rfl; rfl⟩
        obtain ⟨ev, hev, ev0⟩ := hev
        have S2 := Lib.hid hev
        have V3' := Lib.hid (V3.out inr)
        clear inr V2 V3 s2' hev
        go_wp2_with fail
        obtain ⟨_, q1, _, q3⟩ := HC.out _ Hd.right.right.right
        go_region_held3 (fun W => W.cell? ⟨b, off + k * 4 + 1, none⟩ = some (.int .i64 xi) ∧ W.cell? ⟨b, off + k * 4 + 3, none⟩ = some (.string xs)) (first | exact ⟨q1, q3⟩ | exact ⟨(HC.out _ H6.right.right.right).2.1, (HC.out _ H6.right.right.right).2.2.2⟩)
          ((go_at_call 12; refine pf_write hv.with.with Hd UP.out.ok (by have := UP.out.writes; omega) (by have := UP.out.pend; omega) xi 1 xs XS9.out ?_; rw [S2.out]; intro w6 H6 I6))
        have J6 := Ik.drew.trans I6
        clear q1 q3 Hd Ik I6 c1 c3
        generalize hdz : d.pfW xi 1 xs = dz at *
        clear hdz
        go_wp2_with fail
        go_roundw
        case rel => exact ⟨k + 1, dz, bs, ts, by omega, by go_num, S1.out, V3'.out, LB.out, LT.out, H6, J6⟩
        case measure => simp [intOf]; omega
    · obtain rfl : k = l.length := by omega
      have hge1 : ¬ (l.length : Int) < (l.length : Int) := by omega
      clear AL NT
      obtain ⟨lq, cq⟩ := pf_cells Hk
      go_wp2_with fail
      refine sync_any (pf_disk Hk) UP.out.ok (by have := UP.out.pend; omega) ?_
      rw [UP.out.sync.2.1]
      intro w6 H6' I6
      have H6 := pf_back H6'
      have J6 := Ik.trans I6
      obtain ⟨s0, hs0⟩ : ∃ s0, s0 = d.sync := ⟨_, rfl⟩
      rw [← hs0] at H6
      have US : Hid (s0.Up l.length) := Lib.hid (by rw [hs0]; exact UP.out.sync.1)
      have PS : Hid (Pages s0 bs O1 ts) := Lib.hid (by rw [hs0]; exact PG.out.same UP.out.sync.2.2)
      have PE : Hid (s0.pend = []) := Lib.hid (by rw [hs0]; simp [Dk.sync, UP.out.down, Dk.settle])
      clear H6' Hk Ik I6 lq cq UP PG hs0
      go_wp2_with fail
      go_loopw [11] (fun x wr => ∃ (j : Nat) (d2 : Dk), j ≤ l'.length ∧ x = .int .i64 (j : Int) ∧ d2.Up (l.length + j) ∧ d2.sure = s0.sure ∧ Sat (IsPf q p d2 * (Row 9 1 (.slice (some ⟨b1, 0, none⟩) 12 12) 12 (sv6 bs) * (Row 4 1 (.slice (some ⟨b3, 0, none⟩) 12 12) 12 (tv6 ts) * F))) wr ∧ Io w wr) (fun x _ => l'.length - (intOf x).toNat)
      case atStart => exact ⟨0, s0, by omega, rfl, US.out, rfl, H6, J6⟩
      case round =>
        obtain ⟨j, d2, hj, rfl, up, su, Hk, Ik⟩ := hrel
        clear H6 J6 US
        have UP := Lib.hid up
        have SU := Lib.hid su
        clear up su
        by_cases hlt : j < l'.length
        · have hlti : (j : Int) < (l'.length : Int) := by omega
          obtain ⟨b', off', rfl, hc⟩ := AL'.out j hlt
          have hnt := NT'.out _ (List.getElem_mem hlt)
          have HC := Lib.hid hc
          clear hc
          generalize l'[j].K = xk at *
          generalize l'[j].I = xi at *
          generalize l'[j].kd = xd at *
          generalize l'[j].S = xs at *
          obtain ⟨⟨_, _⟩, ⟨ni0, ni1⟩, xs9⟩ := hnt
          have xs9' : (xs.size : Int) ≤ 9223372036854775807 := by omega
          have XS9 := Lib.hid xs9
          clear xs9
          obtain ⟨_, c1, _, c3⟩ := HC.out wr Hk.right.right.right
          by_cases big : 300 < (xs.size : Int)
          · have fin := HH.out _ Hk.right.right.right Ik
            clear HH Hk Ik
            go_wp2_with fail
            exact fin
          have xsm : (xs.size : Int) ≤ 300 := by omega
          clear big
          have Hd : Sat (IsPf q p d2 * (Row 9 1 (.slice (some ⟨b1, 0, none⟩) 12 12) 12 (sv6 bs) * (Row 4 1 (.slice (some ⟨b3, 0, none⟩) 12 12) 12 (tv6 ts) * F))) wr.drew := Hk.drew
          obtain ⟨s1, s2, s3⟩ := UP.out.putPage xi 2 xs
          have S1 := Lib.hid s1
          have sz := Lib.hid (Dk.pfW_sure d2 xi 2 xs)
          clear s1 s2 s3 Hk
          go_wp2_with fail
          obtain ⟨_, q1, _, q3⟩ := HC.out _ Hd.right.right.right
          generalize hev : d2.pfWE xi 2 xs = ev at *
          have S2 := Lib.hid hev
          clear hev
          go_region_held3 (fun W => W.cell? ⟨b', off' + j * 4 + 1, none⟩ = some (.int .i64 xi) ∧ W.cell? ⟨b', off' + j * 4 + 3, none⟩ = some (.string xs)) (first | exact ⟨q1, q3⟩ | exact ⟨(HC.out _ H6.right.right.right).2.1, (HC.out _ H6.right.right.right).2.2.2⟩)
            ((go_at_call 12; refine pf_write hv.with.with Hd UP.out.ok (by have := UP.out.writes; omega) (by have := UP.out.pend; omega) xi 2 xs XS9.out ?_; rw [S2.out]; intro w6 H6 I6))
          have J6 := Ik.drew.trans I6
          have su' : Hid ((d2.pfW xi 2 xs).sure = s0.sure) := Lib.hid (sz.out.trans SU.out)
          clear q1 q3 Hd Ik I6 c1 c3
          generalize d2.pfW xi 2 xs = dz at *
          go_wp2_with fail
          go_roundw
          case rel => exact ⟨j + 1, dz, by omega, by go_num, S1.out, su'.out, H6, J6⟩
          case measure => simp [intOf]; omega
        · obtain rfl : j = l'.length := by omega
          have hge2 : ¬ (l'.length : Int) < (l'.length : Int) := by omega
          clear AL' NT'
          have HD := pf_disk Hk
          obtain ⟨u1, u2⟩ := UP.out.crash 0 0 s0 SU.out PE.out
          have U1 := Lib.hid u1
          have U2 := Lib.hid u2
          clear u1 u2
          go_wp2_with fail
          refine crash_any HD (ReadsInts.nil _) UP.out.ok (by have := UP.out.pend; omega) 0 0 ?_
          intro w7 H7' I7
          have H7 := pf_back H7'
          have J7 := Ik.trans I7
          generalize d2.crash [] 0 0 = d3 at *
          have PS3 : Hid (Pages d3 bs O1 ts) := Lib.hid (PS.out.same U2.out)
          clear H7' HD Hk Ik I7 UP SU U2 PS PE
          go_wp2_with fail
          go_loopw [12] (fun x wr => ∃ (i : Nat) (dd : Dk), 2 ≤ i ∧ i ≤ 12 ∧ x = .int .i64 (i : Int) ∧ dd.Up (l.length + l'.length + i) ∧ (∀ j, dd.now j = d3.now j) ∧ Sat (IsPf q p dd * (Row 9 1 (.slice (some ⟨b1, 0, none⟩) 12 12) 12 (sv6 bs) * (Row 4 1 (.slice (some ⟨b3, 0, none⟩) 12 12) 12 (tv6 ts) * F))) wr ∧ Io w wr) (fun x _ => 12 - (intOf x).toNat)
          case atStart => exact ⟨2, d3, by omega, by omega, rfl, U1.out.mono (by omega), fun _ => rfl, H7, J7⟩
          case round =>
            obtain ⟨i, dd, i2, i12, rfl, up, same, Hr, Ir⟩ := hrel
            clear H7 J7
            have UD := Lib.hid up
            have SM := Lib.hid same
            clear up same
            by_cases lt12 : (i : Int) < 12
            · have i2' : (2 : Int) ≤ (i : Int) := by omega
              obtain ⟨r1, r2, r3⟩ := UD.out.getPage i i2 (by omega) 1
              have PGi := Lib.hid (PS3.out i i2 (by omega))
              have R2 := Lib.hid r2
              have R3 := Lib.hid r3
              have R1 := Lib.hid r1
              obtain ⟨u1, u2⟩ := UD.out.read (i : Int)
              have U1 := Lib.hid u1
              have U2 := Lib.hid u2
              have o1 := Lib.hid (show O1.getD i 0 = 1 from by rw [hO1.out]; exact ones_get i (by omega))
              clear r1 r2 r3 u1 u2
              cases hb : ts.getD i false with
              | true =>
                obtain ⟨g1, g2⟩ := PGi.out.1 hb
                rw [o1.out] at g2
                obtain ⟨e1, e2⟩ := R2.out _ _ ((SM.out i).trans g2) g1 rfl
                have E1 := Lib.hid e1
                have E2 := Lib.hid e2
                have HB := Lib.hid hb
                clear e1 e2 g1 g2 R2 R3 hb
                go_wp2_with fail
                refine pf_read hv.with.with Hr UD.out.ok (by have := UD.out.reads; omega) (i : Int) 1 ?_
                rw [R1.out, E1.out, E2.out]
                intro w8 H9 I8
                have HX := H9.of_eq (show _ = Row 9 1 (.slice (some ⟨b1, 0, none⟩) 12 12) 12 (sv6 bs) * (Row 4 1 (.slice (some ⟨b3, 0, none⟩) 12 12) 12 (tv6 ts) * (IsPf q p (dd.read (i : Int)) * F)) from by ac_rfl)
                have ct := row_cell HX.right i _ (tv6_get ts i (by rw [LT.out]; omega))
                have cb := row_cell HX i _ (sv6_get bs i (by rw [LB.out]; omega))
                rw [HB.out] at ct
                have ss9 : ((bs.getD i ByteArray.empty).toList == (bs.getD i ByteArray.empty).toList) = true := str_eq _
                clear HX
                have J9 := Ir.trans I8
                have UX : Hid ((dd.read (i : Int)).Up (l.length + l'.length + (i + 1)) ∧ ∀ j, (dd.read (i : Int)).now j = d3.now j) := Lib.hid ⟨U1.out.mono (by omega), fun j => (U2.out j).trans (SM.out j)⟩
                generalize dd.read (i : Int) = de at *
                generalize bs.getD i ByteArray.empty = bi at *
                clear Hr Ir
                go_wp2_with fail
                go_roundw
                case rel => exact ⟨i + 1, de, by omega, by omega, by go_num, UX.out.1, UX.out.2, H9, J9⟩
                case measure => simp [intOf]; omega
              | false =>
                have g1 := PGi.out.2 hb
                obtain ⟨e1, e2⟩ := R3.out ((SM.out i).trans g1)
                have E1 := Lib.hid e1
                have E2 := Lib.hid e2
                have HB := Lib.hid hb
                clear e1 e2 g1 R2 R3 hb
                go_wp2_with fail
                refine pf_read hv.with.with Hr UD.out.ok (by have := UD.out.reads; omega) (i : Int) 1 ?_
                rw [R1.out, E1.out, E2.out]
                intro w8 H9 I8
                have HX := H9.of_eq (show _ = Row 9 1 (.slice (some ⟨b1, 0, none⟩) 12 12) 12 (sv6 bs) * (Row 4 1 (.slice (some ⟨b3, 0, none⟩) 12 12) 12 (tv6 ts) * (IsPf q p (dd.read (i : Int)) * F)) from by ac_rfl)
                have ct := row_cell HX.right i _ (tv6_get ts i (by rw [LT.out]; omega))
                have cb := row_cell HX i _ (sv6_get bs i (by rw [LB.out]; omega))
                rw [HB.out] at ct
                clear HX
                have J9 := Ir.trans I8
                have UX : Hid ((dd.read (i : Int)).Up (l.length + l'.length + (i + 1)) ∧ ∀ j, (dd.read (i : Int)).now j = d3.now j) := Lib.hid ⟨U1.out.mono (by omega), fun j => (U2.out j).trans (SM.out j)⟩
                generalize dd.read (i : Int) = de at *
                generalize bs.getD i ByteArray.empty = bi at *
                clear Hr Ir
                go_wp2_with fail
                go_roundw
                case rel => exact ⟨i + 1, de, by omega, by omega, by go_num, UX.out.1, UX.out.2, H9, J9⟩
                case measure => simp [intOf]; omega
            · have fin := HH.out _ Hr.right.right.right Ir
              clear HH Hr
              go_wp2_with fail
              exact fin
end
end Go.Proofs.YtpccdadobnhpkaaDoor
