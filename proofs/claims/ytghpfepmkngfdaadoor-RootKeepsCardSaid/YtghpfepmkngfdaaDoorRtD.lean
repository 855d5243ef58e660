/-
  Roots and their bytes: what Decode and Pick do, by their walks. It proves no statement by itself.
-/
import Derived.Test.YtghpfepmkngfdaaDoorRtW
namespace Go.Proofs.YtghpfepmkngfdaaDoor
open Go.RowKit
set_option linter.unusedSimpArgs false
set_option linter.unusedVariables false

theorem bR_size (r : Rd) (n : Int) : (r.bR n).rest.size ≤ r.rest.size := by
  unfold Rd.bR
  split
  · simp only [ByteArray.size_extract]; omega
  · exact Nat.le_refl _

/-- The numbers as a reader reads them. -/
def rdSeq (s : ByteArray) : Rt :=
  let r0 : Rd := ⟨s, 0⟩
  let r1 := r0.bR ((4 : Nat) : Int)
  let r2 := r1.bR ((4 : Nat) : Int)
  let r3 := r2.bR ((4 : Nat) : Int)
  let r4 := r3.bR ((4 : Nat) : Int)
  ⟨(r0.num 4 : Nat), (r1.num 4 : Nat), (r2.num 4 : Nat), (r3.num 4 : Nat), (r4.num 4 : Nat)⟩

theorem bR_at (s : ByteArray) (a n : Nat) (h : a + n ≤ s.size) : (Rd.bR ⟨s.extract a s.size, 0⟩ n) = ⟨s.extract (a + n) s.size, 0⟩ ∧ (Rd.bS ⟨s.extract a s.size, 0⟩ n) = s.extract a (a + n) := by
  have hs : (s.extract a s.size).size = s.size - a := by rw [ByteArray.size_extract]; omega
  have tl : s.data.toList.take s.size = s.data.toList := List.take_of_length_le (Nat.le_refl _)
  have e : Rd.bE ⟨s.extract a s.size, 0⟩ n = 0 := by
    unfold Rd.bE
    have h1 : ¬ ((n : Int) < 0) := by omega
    have h2 : ¬ ((((s.extract a s.size).size : Nat) : Int) < n) := by rw [hs]; omega
    simp [h1, h2]
    omega
  constructor
  · unfold Rd.bR
    rw [if_pos e, Int.toNat_natCast]
    congr 1
    apply ByteArray.ext
    apply Array.ext'
    simp only [Rt.ext_list]
    rw [tl, List.take_of_length_le (by rw [List.length_drop, hs, size_list]; exact Nat.le_refl _), List.drop_drop]
  · unfold Rd.bS
    rw [if_pos e, Int.toNat_natCast]
    apply ByteArray.ext
    apply Array.ext'
    simp only [Rt.ext_list, List.drop_zero]
    rw [tl, List.drop_take]
    congr 1
    omega

theorem rdSeq_eq (s : ByteArray) (h : s.size = 256) : rdSeq s = Rt.rd s := by
  have e0 : (⟨s, 0⟩ : Rd) = ⟨s.extract 0 s.size, 0⟩ := by
    congr 1
    apply ByteArray.ext
    apply Array.ext'
    simp only [Rt.ext_list, List.drop_zero]
    exact (List.take_of_length_le (Nat.le_refl _)).symm
  have k0 := bR_at s 0 4 (by omega)
  have k1 := bR_at s 4 4 (by omega)
  have k2 := bR_at s 8 4 (by omega)
  have k3 := bR_at s 12 4 (by omega)
  have k4 := bR_at s 16 4 (by omega)
  simp only [Nat.zero_add, Nat.reduceAdd] at k0 k1 k2 k3 k4
  unfold rdSeq Rt.rd
  simp only [e0, Rd.num]
  rw [k0.1, k0.2, k1.1, k1.2, k2.1, k2.2, k3.1, k3.2, k4.2]

theorem dec_seq (s : ByteArray) : Rt.dec s = if (rdSeq s).good = true ∧ tx (rdSeq s).bytes = s then some (rdSeq s) else none := by
  unfold Rt.dec
  by_cases h : s.size = 256
  · rw [rdSeq_eq s h]
    simp [h]
  · rw [if_neg (fun x => h x.1), if_neg]
    rintro ⟨_, x⟩
    rw [← x, tx_size, Rt.bytes_length] at h
    exact h rfl

theorem str_ne {t s : ByteArray} (h : ¬ t = s) : (t.toList == s.toList) = false := by
  rw [ByteArray.toList_eq, ByteArray.toList_eq, beq_eq_false_iff_ne]
  intro e
  exact h (by rw [← tx_of t, ← tx_of s, e])
theorem str_eq (s : ByteArray) : (s.toList == s.toList) = true := by simp

/-- What Decode answers. -/
def decV (s : ByteArray) : Value := .tuple #[((Rt.dec s).getD Rt.zero).val, .bool (Rt.dec s).isSome]

theorem u64_le (s : Rd) (k : Nat) (hk : k ≤ 4) : s.num k < 4294967296 := by
  unfold Rd.num
  refine un_le _ k ?_ hk
  rw [bS_length s k (by omega)]
  split <;> simp

section
variable {F : Asn} {w : World} {R : Ending → World → Prop}

set_option maxRecDepth 100000 in
set_option maxHeartbeats 4000000 in
theorem dec_any (hv : Hv F) (H : Sat F w) (s : ByteArray) (hs : s.size ≤ 1000000) (h : ∀ w', Sat F w' → Io w w' → R (.returned (decV s)) w') :
    Calls Tryd.prog 12 #[.string s] w R := by
  have HH : Hid (∀ w', Sat F w' → Io w w' → R (.returned (decV s)) w') := Lib.hid h
  clear h
  have HA := H.new (.cells #[.int .i64 0, .int .i64 0, .int .i64 0, .int .i64 0, .int .i64 0] 23)
  have IA := (Io.refl w).alloc (.cells #[.int .i64 0, .int .i64 0, .int .i64 0, .int .i64 0, .int .i64 0] 23)
  go_enter Tryd.func12, Tryd.ntmps12
  go_wp2_with fail
  refine read_new HA s ?_
  intro p w1 H1 I1
  have J1 := IA.trans I1
  clear IA I1 HA H
  generalize w.heap.size = A at *
  have HB : Sat (pts w1.heap.size (.cells #[.int .i64 0, .int .i64 0, .int .i64 0, .int .i64 0, .int .i64 0] 50 (0, 0)) * (IsRd p ⟨s, 0⟩ * (pts A (.cells #[.int .i64 0, .int .i64 0, .int .i64 0, .int .i64 0, .int .i64 0] 23 (0, 0)) * F))) (w1.alloc (.cells #[.int .i64 0, .int .i64 0, .int .i64 0, .int .i64 0, .int .i64 0] 50)) := H1.new _
  have JB := J1.alloc (.cells #[.int .i64 0, .int .i64 0, .int .i64 0, .int .i64 0, .int .i64 0] 50)
  clear H1 J1
  go_wp2_with fail
  generalize w1.alloc (.cells #[.int .i64 0, .int .i64 0, .int .i64 0, .int .i64 0, .int .i64 0] 50) = v0 at *
  generalize w1.heap.size = B at *
  have hr0 : (⟨s, 0⟩ : Rd).rest.size ≤ 1000000 := hs
  obtain ⟨q0, Q0⟩ : ∃ r : Rd, Hid (r = ⟨s, 0⟩) := ⟨_, Lib.hid rfl⟩
  rw [← Q0.out] at HB hr0
  refine wp_loop_rounds 6 ?_
  rw [rounds_succ]
  go_wp2_with fail
  have K0 : Sat (IsRd p q0 * (pts B (.cells #[.int .i64 0, .int .i64 0, .int .i64 0, .int .i64 0, .int .i64 0] 50 (0, 0)) * (pts A (.cells #[.int .i64 0, .int .i64 0, .int .i64 0, .int .i64 0, .int .i64 0] 23 (0, 0)) * F))) v0 := HB.of_eq (by ac_rfl)
  refine int_any K0 hr0 4 (by omega) ?_
  intro u0 H0 I0
  obtain ⟨n0, N0⟩ : ∃ n : Nat, Hid (n = q0.num 4) := ⟨_, Lib.hid rfl⟩
  obtain ⟨q1, Q1⟩ : ∃ r : Rd, Hid (r = q0.bR ((4 : Nat) : Int)) := ⟨_, Lib.hid rfl⟩
  have hr1 : q1.rest.size ≤ 1000000 := by rw [Q1.out]; exact Nat.le_trans (bR_size _ _) hr0
  rw [← Q1.out] at H0
  rw [← N0.out]
  have L0 : Sat (pts B (.cells #[.int .i64 0, .int .i64 0, .int .i64 0, .int .i64 0, .int .i64 0] 50 (0, 0)) * (IsRd p q1 * (pts A (.cells #[.int .i64 0, .int .i64 0, .int .i64 0, .int .i64 0, .int .i64 0] 23 (0, 0)) * F))) u0 := H0.of_eq (by ac_rfl)
  have lb0 := L0.left.lt
  have fb0 : u0.frozen? ⟨B, 0, none⟩ = false := Sat.free L0.left.at 0
  have cb0 := Sat.read L0.left.at 0
  have M0 : Sat (pts B (.cells #[.int .i64 (n0 : Nat), .int .i64 0, .int .i64 0, .int .i64 0, .int .i64 0] 50 (0, 0)) * (IsRd p q1 * (pts A (.cells #[.int .i64 0, .int .i64 0, .int .i64 0, .int .i64 0, .int .i64 0] 23 (0, 0)) * F))) (u0.setCell ⟨B, 0, none⟩ (.int .i64 (n0 : Nat))) := Sat.cell L0 0 (.int .i64 (n0 : Nat))
  have P0 := (JB.trans I0).setCell ⟨B, 0, none⟩ (.int .i64 (n0 : Nat))
  clear K0 H0 L0 I0 HB JB hr0
  go_wp2_with fail
  clear lb0 fb0 cb0
  generalize u0.setCell ⟨B, 0, none⟩ (.int .i64 (n0 : Nat)) = v1 at *
  rw [rounds_succ]
  go_wp2_with fail
  have K1 : Sat (IsRd p q1 * (pts B (.cells #[.int .i64 (n0 : Nat), .int .i64 0, .int .i64 0, .int .i64 0, .int .i64 0] 50 (0, 0)) * (pts A (.cells #[.int .i64 0, .int .i64 0, .int .i64 0, .int .i64 0, .int .i64 0] 23 (0, 0)) * F))) v1 := M0.of_eq (by ac_rfl)
  refine int_any K1 hr1 4 (by omega) ?_
  intro u1 H1 I1
  obtain ⟨n1, N1⟩ : ∃ n : Nat, Hid (n = q1.num 4) := ⟨_, Lib.hid rfl⟩
  obtain ⟨q2, Q2⟩ : ∃ r : Rd, Hid (r = q1.bR ((4 : Nat) : Int)) := ⟨_, Lib.hid rfl⟩
  have hr2 : q2.rest.size ≤ 1000000 := by rw [Q2.out]; exact Nat.le_trans (bR_size _ _) hr1
  rw [← Q2.out] at H1
  rw [← N1.out]
  have L1 : Sat (pts B (.cells #[.int .i64 (n0 : Nat), .int .i64 0, .int .i64 0, .int .i64 0, .int .i64 0] 50 (0, 0)) * (IsRd p q2 * (pts A (.cells #[.int .i64 0, .int .i64 0, .int .i64 0, .int .i64 0, .int .i64 0] 23 (0, 0)) * F))) u1 := H1.of_eq (by ac_rfl)
  have lb1 := L1.left.lt
  have fb1 : u1.frozen? ⟨B, 1, none⟩ = false := Sat.free L1.left.at 1
  have cb1 := Sat.read L1.left.at 1
  have M1 : Sat (pts B (.cells #[.int .i64 (n0 : Nat), .int .i64 (n1 : Nat), .int .i64 0, .int .i64 0, .int .i64 0] 50 (0, 0)) * (IsRd p q2 * (pts A (.cells #[.int .i64 0, .int .i64 0, .int .i64 0, .int .i64 0, .int .i64 0] 23 (0, 0)) * F))) (u1.setCell ⟨B, 1, none⟩ (.int .i64 (n1 : Nat))) := Sat.cell L1 1 (.int .i64 (n1 : Nat))
  have P1 := (P0.trans I1).setCell ⟨B, 1, none⟩ (.int .i64 (n1 : Nat))
  clear K1 H1 L1 I1 M0 P0 hr1
  go_wp2_with fail
  clear lb1 fb1 cb1
  generalize u1.setCell ⟨B, 1, none⟩ (.int .i64 (n1 : Nat)) = v2 at *
  rw [rounds_succ]
  go_wp2_with fail
  have K2 : Sat (IsRd p q2 * (pts B (.cells #[.int .i64 (n0 : Nat), .int .i64 (n1 : Nat), .int .i64 0, .int .i64 0, .int .i64 0] 50 (0, 0)) * (pts A (.cells #[.int .i64 0, .int .i64 0, .int .i64 0, .int .i64 0, .int .i64 0] 23 (0, 0)) * F))) v2 := M1.of_eq (by ac_rfl)
  refine int_any K2 hr2 4 (by omega) ?_
  intro u2 H2 I2
  obtain ⟨n2, N2⟩ : ∃ n : Nat, Hid (n = q2.num 4) := ⟨_, Lib.hid rfl⟩
  obtain ⟨q3, Q3⟩ : ∃ r : Rd, Hid (r = q2.bR ((4 : Nat) : Int)) := ⟨_, Lib.hid rfl⟩
  have hr3 : q3.rest.size ≤ 1000000 := by rw [Q3.out]; exact Nat.le_trans (bR_size _ _) hr2
  rw [← Q3.out] at H2
  rw [← N2.out]
  have L2 : Sat (pts B (.cells #[.int .i64 (n0 : Nat), .int .i64 (n1 : Nat), .int .i64 0, .int .i64 0, .int .i64 0] 50 (0, 0)) * (IsRd p q3 * (pts A (.cells #[.int .i64 0, .int .i64 0, .int .i64 0, .int .i64 0, .int .i64 0] 23 (0, 0)) * F))) u2 := H2.of_eq (by ac_rfl)
  have lb2 := L2.left.lt
  have fb2 : u2.frozen? ⟨B, 2, none⟩ = false := Sat.free L2.left.at 2
  have cb2 := Sat.read L2.left.at 2
  have M2 : Sat (pts B (.cells #[.int .i64 (n0 : Nat), .int .i64 (n1 : Nat), .int .i64 (n2 : Nat), .int .i64 0, .int .i64 0] 50 (0, 0)) * (IsRd p q3 * (pts A (.cells #[.int .i64 0, .int .i64 0, .int .i64 0, .int .i64 0, .int .i64 0] 23 (0, 0)) * F))) (u2.setCell ⟨B, 2, none⟩ (.int .i64 (n2 : Nat))) := Sat.cell L2 2 (.int .i64 (n2 : Nat))
  have P2 := (P1.trans I2).setCell ⟨B, 2, none⟩ (.int .i64 (n2 : Nat))
  clear K2 H2 L2 I2 M1 P1 hr2
  go_wp2_with fail
  clear lb2 fb2 cb2
  generalize u2.setCell ⟨B, 2, none⟩ (.int .i64 (n2 : Nat)) = v3 at *
  rw [rounds_succ]
  go_wp2_with fail
  have K3 : Sat (IsRd p q3 * (pts B (.cells #[.int .i64 (n0 : Nat), .int .i64 (n1 : Nat), .int .i64 (n2 : Nat), .int .i64 0, .int .i64 0] 50 (0, 0)) * (pts A (.cells #[.int .i64 0, .int .i64 0, .int .i64 0, .int .i64 0, .int .i64 0] 23 (0, 0)) * F))) v3 := M2.of_eq (by ac_rfl)
  refine int_any K3 hr3 4 (by omega) ?_
  intro u3 H3 I3
  obtain ⟨n3, N3⟩ : ∃ n : Nat, Hid (n = q3.num 4) := ⟨_, Lib.hid rfl⟩
  obtain ⟨q4, Q4⟩ : ∃ r : Rd, Hid (r = q3.bR ((4 : Nat) : Int)) := ⟨_, Lib.hid rfl⟩
  have hr4 : q4.rest.size ≤ 1000000 := by rw [Q4.out]; exact Nat.le_trans (bR_size _ _) hr3
  rw [← Q4.out] at H3
  rw [← N3.out]
  have L3 : Sat (pts B (.cells #[.int .i64 (n0 : Nat), .int .i64 (n1 : Nat), .int .i64 (n2 : Nat), .int .i64 0, .int .i64 0] 50 (0, 0)) * (IsRd p q4 * (pts A (.cells #[.int .i64 0, .int .i64 0, .int .i64 0, .int .i64 0, .int .i64 0] 23 (0, 0)) * F))) u3 := H3.of_eq (by ac_rfl)
  have lb3 := L3.left.lt
  have fb3 : u3.frozen? ⟨B, 3, none⟩ = false := Sat.free L3.left.at 3
  have cb3 := Sat.read L3.left.at 3
  have M3 : Sat (pts B (.cells #[.int .i64 (n0 : Nat), .int .i64 (n1 : Nat), .int .i64 (n2 : Nat), .int .i64 (n3 : Nat), .int .i64 0] 50 (0, 0)) * (IsRd p q4 * (pts A (.cells #[.int .i64 0, .int .i64 0, .int .i64 0, .int .i64 0, .int .i64 0] 23 (0, 0)) * F))) (u3.setCell ⟨B, 3, none⟩ (.int .i64 (n3 : Nat))) := Sat.cell L3 3 (.int .i64 (n3 : Nat))
  have P3 := (P2.trans I3).setCell ⟨B, 3, none⟩ (.int .i64 (n3 : Nat))
  clear K3 H3 L3 I3 M2 P2 hr3
  go_wp2_with fail
  clear lb3 fb3 cb3
  generalize u3.setCell ⟨B, 3, none⟩ (.int .i64 (n3 : Nat)) = v4 at *
  rw [rounds_succ]
  go_wp2_with fail
  have K4 : Sat (IsRd p q4 * (pts B (.cells #[.int .i64 (n0 : Nat), .int .i64 (n1 : Nat), .int .i64 (n2 : Nat), .int .i64 (n3 : Nat), .int .i64 0] 50 (0, 0)) * (pts A (.cells #[.int .i64 0, .int .i64 0, .int .i64 0, .int .i64 0, .int .i64 0] 23 (0, 0)) * F))) v4 := M3.of_eq (by ac_rfl)
  refine int_any K4 hr4 4 (by omega) ?_
  intro u4 H4 I4
  obtain ⟨n4, N4⟩ : ∃ n : Nat, Hid (n = q4.num 4) := ⟨_, Lib.hid rfl⟩
  obtain ⟨q5, Q5⟩ : ∃ r : Rd, Hid (r = q4.bR ((4 : Nat) : Int)) := ⟨_, Lib.hid rfl⟩
  have hr5 : q5.rest.size ≤ 1000000 := by rw [Q5.out]; exact Nat.le_trans (bR_size _ _) hr4
  rw [← Q5.out] at H4
  rw [← N4.out]
  have L4 : Sat (pts B (.cells #[.int .i64 (n0 : Nat), .int .i64 (n1 : Nat), .int .i64 (n2 : Nat), .int .i64 (n3 : Nat), .int .i64 0] 50 (0, 0)) * (IsRd p q5 * (pts A (.cells #[.int .i64 0, .int .i64 0, .int .i64 0, .int .i64 0, .int .i64 0] 23 (0, 0)) * F))) u4 := H4.of_eq (by ac_rfl)
  have lb4 := L4.left.lt
  have fb4 : u4.frozen? ⟨B, 4, none⟩ = false := Sat.free L4.left.at 4
  have cb4 := Sat.read L4.left.at 4
  have M4 : Sat (pts B (.cells #[.int .i64 (n0 : Nat), .int .i64 (n1 : Nat), .int .i64 (n2 : Nat), .int .i64 (n3 : Nat), .int .i64 (n4 : Nat)] 50 (0, 0)) * (IsRd p q5 * (pts A (.cells #[.int .i64 0, .int .i64 0, .int .i64 0, .int .i64 0, .int .i64 0] 23 (0, 0)) * F))) (u4.setCell ⟨B, 4, none⟩ (.int .i64 (n4 : Nat))) := Sat.cell L4 4 (.int .i64 (n4 : Nat))
  have P4 := (P3.trans I4).setCell ⟨B, 4, none⟩ (.int .i64 (n4 : Nat))
  clear K4 H4 L4 I4 M3 P3 hr4
  go_wp2_with fail
  clear lb4 fb4 cb4
  generalize u4.setCell ⟨B, 4, none⟩ (.int .i64 (n4 : Nat)) = v5 at *
  rw [rounds_succ]
  have c0 := Sat.read M4.left.at 0
  have c1 := Sat.read M4.left.at 1
  have c2 := Sat.read M4.left.at 2
  have c3 := Sat.read M4.left.at 3
  have c4 := Sat.read M4.left.at 4
  have lb := M4.left.lt
  simp only [List.getElem?_toArray, List.getElem?_cons_zero, List.getElem?_cons_succ] at c0 c1 c2 c3 c4
  go_wp2_with fail
  have er : rdSeq s = ⟨(n0 : Nat), (n1 : Nat), (n2 : Nat), (n3 : Nat), (n4 : Nat)⟩ := by
    rw [N0.out, N1.out, N2.out, N3.out, N4.out, Q4.out, Q3.out, Q2.out, Q1.out, Q0.out]
    rfl
  have ed := dec_seq s
  rw [er] at ed
  have M5 := M4.new (.cells #[.int .i64 (n0 : Nat), .int .i64 (n1 : Nat), .int .i64 (n2 : Nat), .int .i64 (n3 : Nat), .int .i64 (n4 : Nat)] 23)
  refine enc_any hv.with.with.with.with M5 ⟨(n0 : Nat), (n1 : Nat), (n2 : Nat), (n3 : Nat), (n4 : Nat)⟩ ?_
  intro u6 H6 I6
  have P6 := (P4.alloc _).trans I6
  have HA : Sat (pts A (.cells #[.int .i64 0, .int .i64 0, .int .i64 0, .int .i64 0, .int .i64 0] 23 (0, 0)) * (pts v5.heap.size (.cells #[.int .i64 (n0 : Nat), .int .i64 (n1 : Nat), .int .i64 (n2 : Nat), .int .i64 (n3 : Nat), .int .i64 (n4 : Nat)] 23 (0, 0)) * (pts B (.cells #[.int .i64 (n0 : Nat), .int .i64 (n1 : Nat), .int .i64 (n2 : Nat), .int .i64 (n3 : Nat), .int .i64 (n4 : Nat)] 50 (0, 0)) * (IsRd p q5 * F)))) u6 := H6.of_eq (by ac_rfl)
  clear M4 M5 H6 I6 P4 c0 c1 c2 c3 c4 lb er
  generalize v5.heap.size = C at *
  have la := HA.left.lt
  have fa := fun j => Sat.free HA.left.at j
  have fa0 := fa 0
  have fa1 := fa 1
  have fa2 := fa 2
  have fa3 := fa 3
  have fa4 := fa 4
  have a0 := Sat.read HA.left.at 0
  have a1 := Sat.read HA.left.at 1
  have a2 := Sat.read HA.left.at 2
  have a3 := Sat.read HA.left.at 3
  have a4 := Sat.read HA.left.at 4
  have lc := HA.right.left.lt
  have b0 := Sat.read HA.right.left.at 0
  have b1 := Sat.read HA.right.left.at 1
  have b2 := Sat.read HA.right.left.at 2
  have b3 := Sat.read HA.right.left.at 3
  have b4 := Sat.read HA.right.left.at 4
  have ac := (HA.of_eq (star_assoc _ _ _).symm).left.ne
  simp only [List.getElem?_toArray, List.getElem?_cons_zero, List.getElem?_cons_succ] at a0 a1 a2 a3 a4 b0 b1 b2 b3 b4
  cases hg : Rt.good ⟨(n0 : Nat), (n1 : Nat), (n2 : Nat), (n3 : Nat), (n4 : Nat)⟩ with
  | false =>
    rw [hg] at ed
    have es : Rt.dec s = none := by rw [ed]; simp
    rw [Rt.encS, Rt.encE, hg]
    simp only [Bool.false_eq_true, if_false]
    have HF : Sat (pts A (.cells #[(.int .i64 0), (.int .i64 0), (.int .i64 0), (.int .i64 0), (.int .i64 0)] 23 (0, 0)) * (pts C (.cells #[.int .i64 (n0 : Nat), .int .i64 (n1 : Nat), .int .i64 (n2 : Nat), .int .i64 (n3 : Nat), .int .i64 (n4 : Nat)] 23 (0, 0)) * (pts B (.cells #[.int .i64 (n0 : Nat), .int .i64 (n1 : Nat), .int .i64 (n2 : Nat), .int .i64 (n3 : Nat), .int .i64 (n4 : Nat)] 50 (0, 0)) * (IsRd p q5 * F)))) (((((u6.setCell ⟨A, 0, none⟩ (.int .i64 0)).setCell ⟨A, 1, none⟩ (.int .i64 0)).setCell ⟨A, 2, none⟩ (.int .i64 0)).setCell ⟨A, 3, none⟩ (.int .i64 0)).setCell ⟨A, 4, none⟩ (.int .i64 0)) := (Sat.cell (Sat.cell (Sat.cell (Sat.cell (Sat.cell HA 0 (.int .i64 0)) 1 (.int .i64 0)) 2 (.int .i64 0)) 3 (.int .i64 0)) 4 (.int .i64 0))
    have fin := HH.out _ HF.right.right.right.right (((((P6.setCell ⟨A, 0, none⟩ (.int .i64 0)).setCell ⟨A, 1, none⟩ (.int .i64 0)).setCell ⟨A, 2, none⟩ (.int .i64 0)).setCell ⟨A, 3, none⟩ (.int .i64 0)).setCell ⟨A, 4, none⟩ (.int .i64 0))
    unfold decV at fin
    rw [es] at fin
    clear HH ed
    have d0 := Sat.read HF.left.at 0
    have d1 := Sat.read HF.left.at 1
    have d2 := Sat.read HF.left.at 2
    have d3 := Sat.read HF.left.at 3
    have d4 := Sat.read HF.left.at 4
    have dl := HF.left.lt
    simp only [List.getElem?_toArray, List.getElem?_cons_zero, List.getElem?_cons_succ] at d0 d1 d2 d3 d4
    go_wp2_with fail
    generalize (((((u6.setCell ⟨A, 0, none⟩ (.int .i64 0)).setCell ⟨A, 1, none⟩ (.int .i64 0)).setCell ⟨A, 2, none⟩ (.int .i64 0)).setCell ⟨A, 3, none⟩ (.int .i64 0)).setCell ⟨A, 4, none⟩ (.int .i64 0)) = W at *
    exact bodyPost_ret (v := .tuple #[.agg #[(.int .i64 0), (.int .i64 0), (.int .i64 0), (.int .i64 0), (.int .i64 0)], .bool false]) (by simp [results, Tryd.results12, go_sem, d0, d1, d2, d3, d4]) rfl fin
  | true =>
    rw [Rt.encS, Rt.encE, hg]
    rw [hg] at ed
    simp only [if_true]
    by_cases ht : tx (Rt.bytes ⟨(n0 : Nat), (n1 : Nat), (n2 : Nat), (n3 : Nat), (n4 : Nat)⟩) = s
    · have es : Rt.dec s = some ⟨(n0 : Nat), (n1 : Nat), (n2 : Nat), (n3 : Nat), (n4 : Nat)⟩ := by rw [ed]; simp [ht]
      rw [ht]
      have hse := str_eq s
      have HF : Sat (pts A (.cells #[(.int .i64 (n0 : Nat)), (.int .i64 (n1 : Nat)), (.int .i64 (n2 : Nat)), (.int .i64 (n3 : Nat)), (.int .i64 (n4 : Nat))] 23 (0, 0)) * (pts C (.cells #[.int .i64 (n0 : Nat), .int .i64 (n1 : Nat), .int .i64 (n2 : Nat), .int .i64 (n3 : Nat), .int .i64 (n4 : Nat)] 23 (0, 0)) * (pts B (.cells #[.int .i64 (n0 : Nat), .int .i64 (n1 : Nat), .int .i64 (n2 : Nat), .int .i64 (n3 : Nat), .int .i64 (n4 : Nat)] 50 (0, 0)) * (IsRd p q5 * F)))) (((((u6.setCell ⟨A, 0, none⟩ (.int .i64 (n0 : Nat))).setCell ⟨A, 1, none⟩ (.int .i64 (n1 : Nat))).setCell ⟨A, 2, none⟩ (.int .i64 (n2 : Nat))).setCell ⟨A, 3, none⟩ (.int .i64 (n3 : Nat))).setCell ⟨A, 4, none⟩ (.int .i64 (n4 : Nat))) := (Sat.cell (Sat.cell (Sat.cell (Sat.cell (Sat.cell HA 0 (.int .i64 (n0 : Nat))) 1 (.int .i64 (n1 : Nat))) 2 (.int .i64 (n2 : Nat))) 3 (.int .i64 (n3 : Nat))) 4 (.int .i64 (n4 : Nat)))
      have fin := HH.out _ HF.right.right.right.right (((((P6.setCell ⟨A, 0, none⟩ (.int .i64 (n0 : Nat))).setCell ⟨A, 1, none⟩ (.int .i64 (n1 : Nat))).setCell ⟨A, 2, none⟩ (.int .i64 (n2 : Nat))).setCell ⟨A, 3, none⟩ (.int .i64 (n3 : Nat))).setCell ⟨A, 4, none⟩ (.int .i64 (n4 : Nat)))
      unfold decV at fin
      rw [es] at fin
      clear HH ed
      have d0 := Sat.read HF.left.at 0
      have d1 := Sat.read HF.left.at 1
      have d2 := Sat.read HF.left.at 2
      have d3 := Sat.read HF.left.at 3
      have d4 := Sat.read HF.left.at 4
      have dl := HF.left.lt
      simp only [List.getElem?_toArray, List.getElem?_cons_zero, List.getElem?_cons_succ] at d0 d1 d2 d3 d4
      go_wp2_with fail
      generalize (((((u6.setCell ⟨A, 0, none⟩ (.int .i64 (n0 : Nat))).setCell ⟨A, 1, none⟩ (.int .i64 (n1 : Nat))).setCell ⟨A, 2, none⟩ (.int .i64 (n2 : Nat))).setCell ⟨A, 3, none⟩ (.int .i64 (n3 : Nat))).setCell ⟨A, 4, none⟩ (.int .i64 (n4 : Nat))) = W at *
      exact bodyPost_ret (v := .tuple #[.agg #[(.int .i64 (n0 : Nat)), (.int .i64 (n1 : Nat)), (.int .i64 (n2 : Nat)), (.int .i64 (n3 : Nat)), (.int .i64 (n4 : Nat))], .bool true]) (by simp [results, Tryd.results12, go_sem, d0, d1, d2, d3, d4]) rfl fin
    · have es : Rt.dec s = none := by rw [ed]; simp [ht]
      generalize tx (Rt.bytes ⟨(n0 : Nat), (n1 : Nat), (n2 : Nat), (n3 : Nat), (n4 : Nat)⟩) = t at *
      have hse := str_ne ht
      have HF : Sat (pts A (.cells #[(.int .i64 0), (.int .i64 0), (.int .i64 0), (.int .i64 0), (.int .i64 0)] 23 (0, 0)) * (pts C (.cells #[.int .i64 (n0 : Nat), .int .i64 (n1 : Nat), .int .i64 (n2 : Nat), .int .i64 (n3 : Nat), .int .i64 (n4 : Nat)] 23 (0, 0)) * (pts B (.cells #[.int .i64 (n0 : Nat), .int .i64 (n1 : Nat), .int .i64 (n2 : Nat), .int .i64 (n3 : Nat), .int .i64 (n4 : Nat)] 50 (0, 0)) * (IsRd p q5 * F)))) (((((u6.setCell ⟨A, 0, none⟩ (.int .i64 0)).setCell ⟨A, 1, none⟩ (.int .i64 0)).setCell ⟨A, 2, none⟩ (.int .i64 0)).setCell ⟨A, 3, none⟩ (.int .i64 0)).setCell ⟨A, 4, none⟩ (.int .i64 0)) := (Sat.cell (Sat.cell (Sat.cell (Sat.cell (Sat.cell HA 0 (.int .i64 0)) 1 (.int .i64 0)) 2 (.int .i64 0)) 3 (.int .i64 0)) 4 (.int .i64 0))
      have fin := HH.out _ HF.right.right.right.right (((((P6.setCell ⟨A, 0, none⟩ (.int .i64 0)).setCell ⟨A, 1, none⟩ (.int .i64 0)).setCell ⟨A, 2, none⟩ (.int .i64 0)).setCell ⟨A, 3, none⟩ (.int .i64 0)).setCell ⟨A, 4, none⟩ (.int .i64 0))
      unfold decV at fin
      rw [es] at fin
      clear HH ed
      have d0 := Sat.read HF.left.at 0
      have d1 := Sat.read HF.left.at 1
      have d2 := Sat.read HF.left.at 2
      have d3 := Sat.read HF.left.at 3
      have d4 := Sat.read HF.left.at 4
      have dl := HF.left.lt
      simp only [List.getElem?_toArray, List.getElem?_cons_zero, List.getElem?_cons_succ] at d0 d1 d2 d3 d4
      go_wp2_with fail
      generalize (((((u6.setCell ⟨A, 0, none⟩ (.int .i64 0)).setCell ⟨A, 1, none⟩ (.int .i64 0)).setCell ⟨A, 2, none⟩ (.int .i64 0)).setCell ⟨A, 3, none⟩ (.int .i64 0)).setCell ⟨A, 4, none⟩ (.int .i64 0)) = W at *
      exact bodyPost_ret (v := .tuple #[.agg #[(.int .i64 0), (.int .i64 0), (.int .i64 0), (.int .i64 0), (.int .i64 0)], .bool false]) (by simp [results, Tryd.results12, go_sem, d0, d1, d2, d3, d4]) rfl fin
end
end Go.Proofs.YtghpfepmkngfdaaDoor
