/-
  Pages and their bytes: what Seal does, by its walk. It proves no statement by itself.
-/
import Derived.Test.YtpccdadobnhpkaaDoorPg
namespace Go.Proofs.YtpccdadobnhpkaaDoor
open Go.RowKit
set_option linter.unusedSimpArgs false
set_option linter.unusedVariables false

/-- What Seal errs with, and what it makes. -/
def sealE (id : Int) (body : ByteArray) : Int := if 240 < body.size then 50 else if fits 4 id then 0 else 1
def sealS (id : Int) (kind : UInt8) (body : ByteArray) : ByteArray := if sealE id body = 0 then tx (pgBytes id kind body) else ByteArray.empty

section
variable {F : Asn} {w : World} {R : Ending → World → Prop}

theorem seal_long (id : Int) (kind : UInt8) (body : ByteArray) (hb : 240 < body.size) (hm : body.size ≤ 9223372036854775807) (h : R (.returned (.tuple #[.string ⟨#[]⟩, .int .i64 50])) w) :
    Calls Tryd.prog 34 #[.int .i64 id, .int .u8 (kind.toNat : Int), .string body] w R := by
  have h1 : 240 < (body.size : Int) := by omega
  have h2 : (body.size : Int) ≤ 9223372036854775807 := by omega
  clear hb hm
  go_enter Tryd.func34, Tryd.ntmps34
  go_wp2_with fail
  exact h

theorem seal_id (id : Int) (kind : UInt8) (body : ByteArray) (hb : body.size ≤ 240) (hi : fits 4 id = false) (H : Sat F w) (h : ∀ w', Sat F w' → Io w w' → R (.returned (.tuple #[.string ⟨#[]⟩, .int .i64 1])) w') :
    Calls Tryd.prog 34 #[.int .i64 id, .int .u8 (kind.toNat : Int), .string body] w R := by
  have h1 : (body.size : Int) ≤ 240 := by omega
  have HI := Lib.hid hi
  clear hb hi
  go_enter Tryd.func34, Tryd.ntmps34
  go_wp2_with fail
  refine put4_any id H ?_
  rw [putE_no HI.out, show putS 4 id = ByteArray.empty from by unfold putS; rw [HI.out]; rfl]
  intro w1 H1 I1
  go_wp2_with fail
  exact h w1 H1 I1

set_option maxRecDepth 100000 in
set_option maxHeartbeats 2000000 in
theorem seal_ok (hv : Hv F) (id : Int) (kind : UInt8) (body : ByteArray) (hb : body.size ≤ 240) (hi : fits 4 id = true) (H : Sat F w) (h : ∀ w', Sat F w' → Io w w' → R (.returned (.tuple #[.string (tx (pgBytes id kind body)), .int .i64 0])) w') :
    Calls Tryd.prog 34 #[.int .i64 id, .int .u8 (kind.toNat : Int), .string body] w R := by
  have HH := Lib.hid h
  clear h
  have h1 : (body.size : Int) ≤ 240 := by omega
  have HI := Lib.hid hi
  have HB := Lib.hid hb
  have hk0 : (0 : Int) ≤ (kind.toNat : Int) := by omega
  have hk1 : (kind.toNat : Int) ≤ 255 := by have := kind.toNat_lt; omega
  have hsub : (240 : Int) - (body.size : Int) = ((240 - body.size : Nat) : Int) := by omega
  have HSUB := Lib.hid hsub
  clear hb hi hsub
  go_enter Tryd.func34, Tryd.ntmps34
  go_wp2_with fail
  refine put4_any id H ?_
  rw [putE_yes HI.out, putS_yes HI.out]
  intro w1 H1 I1
  obtain ⟨s1, S1⟩ : ∃ s, Hid (s = tx (be 4 id.toNat)) := ⟨_, Lib.hid rfl⟩
  rw [← S1.out]
  go_wp2_with fail
  refine pput1 kind.toNat (by have := kind.toNat_lt; omega) H1 ?_
  intro w2 H2 I2
  obtain ⟨s2, S2⟩ : ∃ s, Hid (s = tx (be 1 kind.toNat)) := ⟨_, Lib.hid rfl⟩
  rw [← S2.out]
  go_wp2_with fail
  refine pput1 0 (by omega) H2 ?_
  intro w3 H3 I3
  obtain ⟨s3, S3⟩ : ∃ s, Hid (s = tx (be 1 0)) := ⟨_, Lib.hid rfl⟩
  rw [← S3.out]
  go_wp2_with fail
  refine pput2 body.size (by have := HB.out; omega) H3 ?_
  intro w4 H4 I4
  obtain ⟨s4, S4⟩ : ∃ s, Hid (s = tx (be 2 body.size)) := ⟨_, Lib.hid rfl⟩
  rw [← S4.out]
  go_wp2_with fail
  rw [HSUB.out]
  refine repeat0 H4 (240 - body.size) (by omega) ?_
  intro w5 H5 I5
  obtain ⟨s5, S5⟩ : ∃ s, Hid (s = tx (noughts (240 - body.size))) := ⟨_, Lib.hid rfl⟩
  rw [← S5.out]
  have J5 := (((I1.trans I2).trans I3).trans I4).trans I5
  clear I1 I2 I3 I4 I5 H1 H2 H3 H4 H
  go_wp2_with fail
  have H6 := H5.new (.cells #[.string s1, .string s2, .string s3, .string s4, .string ⟨#[0, 0, 0, 0]⟩, .string body, .string s5] 9)
  have ecat : cat [s1, s2, s3, s4, ⟨#[0, 0, 0, 0]⟩, body, s5] = pgRest id kind body := by
    rw [S1.out, S2.out, S3.out, S4.out, S5.out]
    simp [cat, tx_list, pgRest]
  have hc7 : ∀ j x, [s1, s2, s3, s4, ⟨#[0, 0, 0, 0]⟩, body, s5][j]? = some x → (w5.alloc (.cells #[.string s1, .string s2, .string s3, .string s4, .string ⟨#[0, 0, 0, 0]⟩, .string body, .string s5] 9)).cell? ⟨w5.heap.size, j, none⟩ = some (.string x) := by
    intro j x hj
    rw [Sat.read H6.left.at j]
    match j, hj with
    | 0, hj => cases hj; rfl
    | 1, hj => cases hj; rfl
    | 2, hj => cases hj; rfl
    | 3, hj => cases hj; rfl
    | 4, hj => cases hj; rfl
    | 5, hj => cases hj; rfl
    | 6, hj => cases hj; rfl
  refine join_any H6 w5.heap.size 7 7 [s1, s2, s3, s4, ⟨#[0, 0, 0, 0]⟩, body, s5] rfl H6.left.lt hc7 (by omega) (by rw [ecat, pgRest_length HB.out]; omega) (by simp) ?_
  rw [ecat]
  intro w7 H7 I7
  have J7 := (J5.alloc (.cells #[.string s1, .string s2, .string s3, .string s4, .string ⟨#[0, 0, 0, 0]⟩, .string body, .string s5] 9)).trans I7
  obtain ⟨sr, SR⟩ : ∃ s, Hid (s = tx (pgRest id kind body)) := ⟨_, Lib.hid rfl⟩
  rw [← SR.out]
  clear hc7 ecat H6 I7 J5 S1 S2 S3 S4 S5
  have hz : sr.size = 252 := by rw [SR.out, tx_size, pgRest_length HB.out]
  have HZ := Lib.hid hz
  clear hz
  go_wp2_with fail
  refine sum_any hv.with.with (H7.new (.cells #[.string sr] 9)) w7.heap.size 1 sr (by have := HZ.out; omega) (fun w' h => Sat.read h.left.at 0) ?_
  intro w8 H8 I8
  have J8 := (J7.alloc (.cells #[.string sr] 9)).trans I8
  have hcl := Lib.hid (crcL_lt sr.data.toList)
  obtain ⟨cc, CC⟩ : ∃ c, Hid (c = crcL sr.data.toList) := ⟨_, Lib.hid rfl⟩
  rw [← CC.out] at hcl ⊢
  clear H7 J7 I8
  go_wp2_with fail
  refine pput4 cc hcl.out H8 ?_
  intro w9 H9 I9
  obtain ⟨sc, SC⟩ : ∃ s, Hid (s = tx (be 4 cc)) := ⟨_, Lib.hid rfl⟩
  rw [← SC.out]
  obtain ⟨t, T⟩ : ∃ s, Hid (s = tx (pgBytes id kind body)) := ⟨_, Lib.hid rfl⟩
  have hadd : ∀ W, (Op.stringOp .add sc sr).run Tryd.prog W = .ok (.string t) W := by
    intro W
    have e1 : crcL sr.data.toList = crcL (pgRest id kind body) := by rw [SR.out, tx_list]
    rw [run_string_add_sum W _ _ (by rw [HZ.out, SC.out, tx_size, be_length]; omega), T.out, SC.out, SR.out, tx_append, CC.out, e1]
    rfl
  have fin := HH.out w9 H9.right.right (J8.trans I9)
  rw [← T.out] at fin
  clear HH H8 H9 J8 I9 T SC SR CC hcl
  go_wp2_with fail
  exact fin
end
end Go.Proofs.YtpccdadobnhpkaaDoor
