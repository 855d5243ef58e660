/-
  A page's bytes are what the document says: the law's walk. It proves no statement by itself.
-/
import Derived.Test.YtnjhededdpjlgaaDoorPgS
namespace Go.Proofs.YtnjhededdpjlgaaDoor
open Go.RowKit
set_option linter.unusedSimpArgs false
set_option linter.unusedVariables false

section
variable {F : Asn} {w : World} {R : Ending → World → Prop}
/-- What the document's Seal answers. -/
def rsealV (id : Int) (k : UInt8) (b : ByteArray) : Value := if sealE id b = 0 then .tuple #[.string (sealS id k b), .bool true] else .tuple #[.string ByteArray.empty, .bool false]
theorem rseal_any (H : Sat F w) (id : Int) (hid : id ≤ 9223372036854775807) (k : UInt8) (b : ByteArray) (hb : b.size ≤ 1000000)
    (h : ∀ w', Sat F w' → Io w w' → R (.returned (rsealV id k b)) w') :
    Calls Tryd.prog 10 #[.int .i64 id, .int .u8 (k.toNat : Int), .string b] w R := by
  unfold rsealV at h
  by_cases hi : sealE id b = 0
  · rw [if_pos hi] at h
    obtain ⟨p1, p2⟩ := seal_parts hi
    unfold sealS at h
    rw [if_pos hi] at h
    exact rseal_ok H id hid k b p1 p2 h
  · rw [if_neg hi] at h
    exact rseal_no H id hid k b hb hi h

set_option maxRecDepth 100000 in
set_option maxHeartbeats 2000000 in
theorem seals_walk (hv : Hv F) (id : Int) (k : UInt8) (b : ByteArray) (hid : id ≤ 9223372036854775807) (hb : b.size ≤ 9223372036854775807) (H : Sat F w)
    (h : ∀ w', Sat F w' → Io w w' → R (.returned (.bool true)) w') :
    Calls Tryd.prog 3 #[.int .i64 id, .int .u8 (k.toNat : Int), .string b] w R := by
  have zb : (b.size : Int) ≤ 9223372036854775807 := by omega
  have hb1 := Lib.hid hb
  have hi1 := Lib.hid hid
  have HH := Lib.hid h
  clear hb h hid
  by_cases g1 : 2048 < (b.size : Int)
  · go_enter Tryd.func3, Tryd.ntmps3
    go_wp2_with fail
    refine works_any hv H ?_
    intro w1 H1 I1
    go_wp2_with fail
    all_goals exact HH.out w1 H1 I1
  have g1' : (b.size : Int) ≤ 2048 := by omega
  have hb2 : Hid (b.size ≤ 1000000) := Lib.hid (by omega)
  clear g1
  go_enter Tryd.func3, Tryd.ntmps3
  go_wp2_with fail
  refine works_any hv H ?_
  intro w1 H1 I1
  go_wp2_with fail
  refine seal_any hv H1 id k b hb1.out ?_
  intro w2 H2 I2
  obtain ⟨e1, E1⟩ : ∃ e, Hid (e = sealE id b) := ⟨_, Lib.hid rfl⟩
  obtain ⟨s1, S1⟩ : ∃ s, Hid (s = sealS id k b) := ⟨_, Lib.hid rfl⟩
  rw [← E1.out, ← S1.out]
  go_wp2_with fail
  refine rseal_any H2 id hi1.out k b hb2.out ?_
  intro w3 H3 I3
  have fin := HH.out w3 H3 ((I1.trans I2).trans I3)
  by_cases hl : 240 < b.size
  · have x : sealE id b = 50 := by unfold sealE; rw [if_pos hl]
    have y : s1 = ByteArray.empty := by rw [S1.out]; unfold sealS; rw [x]; rfl
    have x1 : e1 = 50 := by rw [E1.out, x]
    have v : rsealV id k b = .tuple #[.string ByteArray.empty, .bool false] := by unfold rsealV; rw [x]; rfl
    have hl' : 240 < (b.size : Int) := by omega
    rw [v, x1, y]
    clear hl HH v
    go_wp2_with fail
    exact fin
  · have hl' : (b.size : Int) ≤ 240 := by omega
    cases hf : fits 4 id with
    | true =>
      have x : sealE id b = 0 := seal_of (by omega) hf
      have x1 : e1 = 0 := by rw [E1.out, x]
      have v : rsealV id k b = .tuple #[.string s1, .bool true] := by unfold rsealV; rw [if_pos x, S1.out]
      have ss : (s1.toList == s1.toList) = true := str_eq s1
      rw [v, x1]
      clear hl HH v
      go_wp2_with fail
      exact fin
    | false =>
      have x : sealE id b = 1 := by unfold sealE; rw [if_neg hl, hf]; rfl
      have y : s1 = ByteArray.empty := by rw [S1.out]; unfold sealS; rw [x]; rfl
      have x1 : e1 = 1 := by rw [E1.out, x]
      have v : rsealV id k b = .tuple #[.string ByteArray.empty, .bool false] := by unfold rsealV; rw [x]; rfl
      rw [v, x1, y]
      clear hl HH v
      go_wp2_with fail
      exact fin
end
end Go.Proofs.YtnjhededdpjlgaaDoor
