/-
  Unlike pages have unlike bytes: the law's walk. It proves no statement by itself.
-/
import Derived.Test.YtnjhededdpjlgaaDoorPgX
namespace Go.Proofs.YtnjhededdpjlgaaDoor
open Go.RowKit
set_option linter.unusedSimpArgs false
set_option linter.unusedVariables false

theorem seal_same {id : Int} {k : UInt8} {b : ByteArray} {id' : Int} {k' : UInt8} {b' : ByteArray} (h : sealE id b = 0) (h' : sealE id' b' = 0) :
    sealS id k b = sealS id' k' b' ↔ id = id' ∧ k = k' ∧ b = b' := by
  have parts : ∀ {id : Int} {b : ByteArray}, sealE id b = 0 → b.size ≤ 240 ∧ fits 4 id = true := by
    intro id b h
    unfold sealE at h
    by_cases hb : 240 < b.size
    · rw [if_pos hb] at h; cases h
    · rw [if_neg hb] at h
      cases hi : fits 4 id with
      | false => rw [hi] at h; cases h
      | true => exact ⟨by omega, rfl⟩
  unfold sealS
  rw [if_pos h, if_pos h']
  constructor
  · intro e
    obtain ⟨p1, p2⟩ := parts h
    obtain ⟨q1, q2⟩ := parts h'
    have l := tx_inj e
    have a : be 4 id.toNat = be 4 id'.toNat := by rw [← pg_4 (kind := k) p1, ← pg_4 (kind := k') q1, l]
    have hid : id = id' := by
      have := congrArg un a
      rw [un_be, un_be] at this
      simp [fits] at p2 q2
      have e4 : (256 : Nat) ^ 4 = 4294967296 := rfl
      rw [e4] at this
      omega
    subst hid
    have a1 : pgOpen id (tx (pgBytes id k b)) = some (k, b) := pgOpen_iff.2 ⟨p1, p2, rfl⟩
    have a2 : pgOpen id (tx (pgBytes id k' b')) = some (k', b') := pgOpen_iff.2 ⟨q1, q2, rfl⟩
    rw [e, a2] at a1
    simp only [Option.some.injEq, Prod.mk.injEq] at a1
    exact ⟨rfl, a1.1.symm, a1.2.symm⟩
  · rintro ⟨rfl, rfl, rfl⟩
    rfl

section
variable {F : Asn} {w : World} {R : Ending → World → Prop}
set_option maxRecDepth 100000 in
set_option maxHeartbeats 2000000 in
theorem apart_walk (hv : Hv F) (id : Int) (k : UInt8) (b : ByteArray) (id' : Int) (k' : UInt8) (b' : ByteArray) (hb : b.size ≤ 9223372036854775807) (hb' : b'.size ≤ 9223372036854775807) (H : Sat F w)
    (h : ∀ w', Sat F w' → Io w w' → R (.returned (.bool true)) w') :
    Calls Tryd.prog 7 #[.int .i64 id, .int .u8 (k.toNat : Int), .string b, .int .i64 id', .int .u8 (k'.toNat : Int), .string b'] w R := by
  have zb : (b.size : Int) ≤ 9223372036854775807 := by omega
  have zb' : (b'.size : Int) ≤ 9223372036854775807 := by omega
  have hb1 := Lib.hid hb
  have hb1' := Lib.hid hb'
  have HH := Lib.hid h
  clear hb hb' h
  by_cases g1 : 2048 < (b.size : Int)
  · go_enter Tryd.func7, Tryd.ntmps7
    go_wp2_with fail
    refine works_any hv H ?_
    intro w1 H1 I1
    go_wp2_with fail
    all_goals exact HH.out w1 H1 I1
  by_cases g2 : 2048 < (b'.size : Int)
  · go_enter Tryd.func7, Tryd.ntmps7
    go_wp2_with fail
    refine works_any hv H ?_
    intro w1 H1 I1
    go_wp2_with fail
    all_goals exact HH.out w1 H1 I1
  have g1' : (b.size : Int) ≤ 2048 := by omega
  have g2' : (b'.size : Int) ≤ 2048 := by omega
  clear g1 g2
  go_enter Tryd.func7, Tryd.ntmps7
  go_wp2_with fail
  refine works_any hv H ?_
  intro w1 H1 I1
  go_wp2_with fail
  refine seal_any hv H1 id k b hb1.out ?_
  intro w2 H2 I2
  have J2 := I1.trans I2
  have same := @seal_same id k b id' k' b'
  generalize sealE id b = e1 at *
  generalize sealS id k b = s1 at *
  go_wp2_with fail
  refine seal_any hv H2 id' k' b' hb1'.out ?_
  intro w3 H3 I3
  have fin := HH.out w3 H3 (J2.trans I3)
  clear H1 H2 H3 I1 I2 I3 J2 HH H
  generalize sealE id' b' = e2 at *
  generalize sealS id' k' b' = s2 at *
  have same' := Lib.hid same
  clear same
  by_cases c1 : e1 = 0
  · by_cases c2 : e2 = 0
    · have sm := Lib.hid (same'.out c1 c2)
      rw [c1, c2]
      by_cases d1 : id = id'
      · have f1 : (id == id') = true := by rw [beq_iff_eq]; exact d1
        by_cases d2 : k = k'
        · have f2 : ((k.toNat : Int) == (k'.toNat : Int)) = true := by rw [d2, beq_iff_eq]
          by_cases d3 : b = b'
          · have f3 : (b.toList == b'.toList) = true := by rw [d3]; exact str_eq _
            have f4 : (s1.toList == s2.toList) = true := by rw [sm.out.2 ⟨d1, d2, d3⟩]; exact str_eq _
            clear d1 d2 d3
            go_wp2_with fail
            exact fin
          · have f3 := str_ne d3
            have f4 : (s1.toList == s2.toList) = false := str_ne (fun e => d3 (sm.out.1 e).2.2)
            clear d1 d2 d3
            go_wp2_with fail
            exact fin
        · have f2 : ((k.toNat : Int) == (k'.toNat : Int)) = false := by
            rw [beq_eq_false_iff_ne]
            intro e
            exact d2 (UInt8.toNat_inj.1 (by omega))
          have f4 : (s1.toList == s2.toList) = false := str_ne (fun e => d2 (sm.out.1 e).2.1)
          clear d1 d2
          go_wp2_with fail
          exact fin
      · have f1 : (id == id') = false := by rw [beq_eq_false_iff_ne]; exact d1
        have f4 : (s1.toList == s2.toList) = false := str_ne (fun e => d1 (sm.out.1 e).1)
        clear d1
        go_wp2_with fail
        exact fin
    · have d2 : (e2 != 0) = true := by rw [bne_iff_ne]; exact c2
      rw [c1]
      go_wp2_with fail
      exact fin
  · have d1 : (e1 != 0) = true := by rw [bne_iff_ne]; exact c1
    go_wp2_with fail
    exact fin
end
end Go.Proofs.YtnjhededdpjlgaaDoor
