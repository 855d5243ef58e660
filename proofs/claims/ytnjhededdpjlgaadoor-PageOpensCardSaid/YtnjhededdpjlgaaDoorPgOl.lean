/-
  Any bytes are a page, or none, as the document says: the law's walk. It proves no statement by itself.
-/
import Derived.Test.YtnjhededdpjlgaaDoorPgOp
namespace Go.Proofs.YtnjhededdpjlgaaDoor
open Go.RowKit
set_option linter.unusedSimpArgs false
set_option linter.unusedVariables false

section
variable {F : Asn} {w : World} {R : Ending → World → Prop}
set_option maxRecDepth 100000 in
set_option maxHeartbeats 2000000 in
theorem opens_walk (hv : Hv F) (id : Int) (s : ByteArray) (hid : id ≤ 9223372036854775807) (hs : s.size ≤ 9223372036854775807) (H : Sat F w)
    (h : ∀ w', Sat F w' → Io w w' → R (.returned (.bool true)) w') :
    Calls Tryd.prog 4 #[.int .i64 id, .string s] w R := by
  have zs : (s.size : Int) ≤ 9223372036854775807 := by omega
  have hi1 := Lib.hid hid
  have HH := Lib.hid h
  clear h hid
  by_cases g1 : 2048 < (s.size : Int)
  · clear hs
    go_enter Tryd.func4, Tryd.ntmps4
    go_wp2_with fail
    refine works_any hv H ?_
    intro w1 H1 I1
    go_wp2_with fail
    all_goals exact HH.out w1 H1 I1
  have g1' : (s.size : Int) ≤ 2048 := by omega
  have hs2 : Hid (s.size ≤ 1000000) := Lib.hid (by omega)
  clear g1 hs
  go_enter Tryd.func4, Tryd.ntmps4
  go_wp2_with fail
  refine works_any hv H ?_
  intro w1 H1 I1
  go_wp2_with fail
  refine open_any hv H1 id s hs2.out ?_
  intro w2 H2 I2
  cases ho : pgOpen id s with
  | none =>
    have eo : openV id s = .tuple #[.int .u8 0, .string ByteArray.empty, .int .i64 3] := by unfold openV; rw [ho]
    have er : ropenV id s = .tuple #[.int .u8 0, .string ByteArray.empty, .bool false] := by unfold ropenV; rw [ho]
    have ER := Lib.hid er
    rw [eo]
    clear eo er ho
    go_wp2_with fail
    refine ropen_any H2 id hi1.out s hs2.out ?_
    intro w3 H3 I3
    rw [ER.out]
    clear ER
    go_wp2_with fail
    refine chk_any hv H3 s hs2.out ?_
    intro w4 H4 I4
    generalize hcb : chkB s = cb
    have HCB := Lib.hid hcb
    clear hcb
    go_wp2_with fail
    refine rchk_any H4 s hs2.out ?_
    intro w5 H5 I5
    rw [HCB.out]
    have fin := HH.out w5 H5 ((((I1.trans I2).trans I3).trans I4).trans I5)
    clear HH HCB
    cases cb
    · go_wp2_with fail
      exact fin
    · go_wp2_with fail
      exact fin
  | some x =>
    obtain ⟨k, b⟩ := x
    have eo : openV id s = .tuple #[.int .u8 (k.toNat : Nat), .string b, .int .i64 0] := by unfold openV; rw [ho]
    have er : ropenV id s = .tuple #[.int .u8 (k.toNat : Nat), .string b, .bool true] := by unfold ropenV; rw [ho]
    have ER := Lib.hid er
    have kk : ((k.toNat : Int) == (k.toNat : Int)) = true := by rw [beq_iff_eq]
    have bb : (b.toList == b.toList) = true := str_eq b
    rw [eo]
    clear eo er ho
    go_wp2_with fail
    refine ropen_any H2 id hi1.out s hs2.out ?_
    intro w3 H3 I3
    rw [ER.out]
    clear ER
    go_wp2_with fail
    refine chk_any hv H3 s hs2.out ?_
    intro w4 H4 I4
    generalize hcb : chkB s = cb
    have HCB := Lib.hid hcb
    clear hcb
    go_wp2_with fail
    refine rchk_any H4 s hs2.out ?_
    intro w5 H5 I5
    rw [HCB.out]
    have fin := HH.out w5 H5 ((((I1.trans I2).trans I3).trans I4).trans I5)
    clear HH HCB
    cases cb
    · go_wp2_with fail
      exact fin
    · go_wp2_with fail
      exact fin
end
end Go.Proofs.YtnjhededdpjlgaaDoor
