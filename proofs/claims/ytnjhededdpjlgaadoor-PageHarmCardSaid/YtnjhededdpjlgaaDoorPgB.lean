/-
  What is sealed is opened as it was: the law's walk. It proves no statement by itself.
-/
import Derived.Test.YtnjhededdpjlgaaDoorPgT
namespace Go.Proofs.YtnjhededdpjlgaaDoor
open Go.RowKit
set_option linter.unusedSimpArgs false
set_option linter.unusedVariables false

theorem seal_parts {id : Int} {b : ByteArray} (h : sealE id b = 0) : b.size ≤ 240 ∧ fits 4 id = true := by
  unfold sealE at h
  by_cases hb : 240 < b.size
  · rw [if_pos hb] at h; cases h
  · rw [if_neg hb] at h
    cases hi : fits 4 id with
    | false => rw [hi] at h; cases h
    | true => exact ⟨by omega, rfl⟩
theorem seal_of {id : Int} {b : ByteArray} (hb : b.size ≤ 240) (hi : fits 4 id = true) : sealE id b = 0 := by
  unfold sealE
  rw [if_neg (by omega), hi]
  rfl
theorem seal_back {id : Int} {k : UInt8} {b : ByteArray} (h : sealE id b = 0) :
    (sealS id k b).size = 256 ∧ chkB (sealS id k b) = true ∧ openV id (sealS id k b) = .tuple #[.int .u8 (k.toNat : Nat), .string b, .int .i64 0] := by
  obtain ⟨p1, p2⟩ := seal_parts h
  unfold sealS
  rw [if_pos h]
  refine ⟨by rw [tx_size, pgBytes_length p1], chk_bytes p1, ?_⟩
  unfold openV
  rw [pgOpen_iff.2 ⟨p1, p2, rfl⟩]
theorem open_back {id : Int} {s : ByteArray} {k : UInt8} {b : ByteArray} (h : pgOpen id s = some (k, b)) : sealE id b = 0 ∧ sealS id k b = s ∧ b.size ≤ 240 := by
  obtain ⟨p1, p2, p3⟩ := pgOpen_iff.1 h
  have e := seal_of p1 p2
  refine ⟨e, ?_, p1⟩
  unfold sealS
  rw [if_pos e, p3]

section
variable {F : Asn} {w : World} {R : Ending → World → Prop}
set_option maxRecDepth 100000 in
set_option maxHeartbeats 4000000 in
theorem back_walk (hv : Hv F) (id : Int) (k : UInt8) (b : ByteArray) (s : ByteArray) (hb : b.size ≤ 9223372036854775807) (hs : s.size ≤ 9223372036854775807) (H : Sat F w)
    (h : ∀ w', Sat F w' → Io w w' → R (.returned (.bool true)) w') :
    Calls Tryd.prog 5 #[.int .i64 id, .int .u8 (k.toNat : Int), .string b, .string s] w R := by
  have zb : (b.size : Int) ≤ 9223372036854775807 := by omega
  have zs : (s.size : Int) ≤ 9223372036854775807 := by omega
  have hb1 := Lib.hid hb
  have HH := Lib.hid h
  clear hb h
  by_cases g1 : 2048 < (b.size : Int)
  · go_enter Tryd.func5, Tryd.ntmps5
    go_wp2_with fail
    refine works_any hv H ?_
    intro w1 H1 I1
    go_wp2_with fail
    all_goals exact HH.out w1 H1 I1
  by_cases g2 : 2048 < (s.size : Int)
  · go_enter Tryd.func5, Tryd.ntmps5
    go_wp2_with fail
    refine works_any hv H ?_
    intro w1 H1 I1
    go_wp2_with fail
    all_goals exact HH.out w1 H1 I1
  have g1' : (b.size : Int) ≤ 2048 := by omega
  have g2' : (s.size : Int) ≤ 2048 := by omega
  have zs' : Hid (s.size ≤ 1000000) := Lib.hid (by omega)
  clear g1 g2 hs
  go_enter Tryd.func5, Tryd.ntmps5
  go_wp2_with fail
  refine works_any hv H ?_
  intro w1 H1 I1
  go_wp2_with fail
  refine seal_any hv H1 id k b hb1.out ?_
  intro w2 H2 I2
  have J2 := I1.trans I2
  have sb := Lib.hid (@seal_back id k b)
  generalize sealE id b = e1 at *
  generalize sealS id k b = s1 at *
  by_cases c1 : e1 = 0
  · rw [c1]
    obtain ⟨q1, q2, q3⟩ := sb.out c1
    have q1' : (s1.size : Int) = 256 := by omega
    have q1'' : Hid (s1.size ≤ 1000000) := Lib.hid (by omega)
    have kk : ((k.toNat : Int) != (k.toNat : Int)) = false := by rw [bne_eq_false_iff_eq]
    have bb : (b.toList == b.toList) = true := str_eq b
    clear q1 sb
    go_wp2_with fail
    refine open_any hv H2 id s1 q1''.out ?_
    intro w3 H3 I3
    have J3 := J2.trans I3
    rw [q3]
    go_wp2_with fail
    refine chk_any hv H3 s1 q1''.out ?_
    intro w4 H4 I4
    have J4 := J3.trans I4
    rw [q2]
    clear H1 H2 H3 I1 I2 I3 I4 J2 J3 q3
    go_wp2_with fail
    refine open_any hv H4 id s zs'.out ?_
    intro w5 H5 I5
    have J5 := J4.trans I5
    clear I5
    cases ho : pgOpen id s with
    | none =>
      have eo : openV id s = .tuple #[.int .u8 0, .string ByteArray.empty, .int .i64 3] := by unfold openV; rw [ho]
      have fin := HH.out w5 H5 J5
      rw [eo]
      clear HH H H5 J5 eo
      go_wp2_with fail
      exact fin
    | some x =>
      obtain ⟨ko, bo⟩ := x
      have eo : openV id s = .tuple #[.int .u8 (ko.toNat : Nat), .string bo, .int .i64 0] := by unfold openV; rw [ho]
      obtain ⟨o1, o2, o3⟩ := open_back ho
      have o3' : bo.size ≤ 9223372036854775807 := by omega
      rw [eo]
      clear eo
      go_wp2_with fail
      refine seal_any hv H5 id ko bo o3' ?_
      intro w6 H6 I6
      have fin := HH.out w6 H6 (J5.trans I6)
      rw [o1, o2]
      have ss : (s.toList == s.toList) = true := str_eq s
      clear HH H H5 H6 I6 J5 o1 o2 o3 o3'
      go_wp2_with fail
      exact fin
  · have d1 : (e1 == 0) = false := by rw [beq_eq_false_iff_ne]; exact c1
    clear sb
    go_wp2_with fail
    refine open_any hv H2 id s zs'.out ?_
    intro w5 H5 I5
    have J5 := J2.trans I5
    clear I5
    cases ho : pgOpen id s with
    | none =>
      have eo : openV id s = .tuple #[.int .u8 0, .string ByteArray.empty, .int .i64 3] := by unfold openV; rw [ho]
      have fin := HH.out w5 H5 J5
      rw [eo]
      clear HH H H5 J5 eo
      go_wp2_with fail
      exact fin
    | some x =>
      obtain ⟨ko, bo⟩ := x
      have eo : openV id s = .tuple #[.int .u8 (ko.toNat : Nat), .string bo, .int .i64 0] := by unfold openV; rw [ho]
      obtain ⟨o1, o2, o3⟩ := open_back ho
      have o3' : bo.size ≤ 9223372036854775807 := by omega
      rw [eo]
      clear eo
      go_wp2_with fail
      refine seal_any hv H5 id ko bo o3' ?_
      intro w6 H6 I6
      have fin := HH.out w6 H6 (J5.trans I6)
      rw [o1, o2]
      have ss : (s.toList == s.toList) = true := str_eq s
      clear HH H H5 H6 I6 J5 o1 o2 o3 o3'
      go_wp2_with fail
      exact fin
end
end Go.Proofs.YtnjhededdpjlgaaDoor
