/-
  The example of the statements of chapter 7, walked. It proves no statement by itself.
-/
import Derived.Test.YtghpfepmkngfdaaDoorRtG
namespace Go.Proofs.YtghpfepmkngfdaaDoor
open Go.RowKit
set_option linter.unusedSimpArgs false
set_option linter.unusedVariables false

def r39 : Rt := ⟨3, 9, 0, 0, 0⟩
theorem r39_good : r39.good = true := by decide
theorem r39_enc : r39.encS = tx r39.bytes := by unfold Rt.encS; rw [r39_good]; rfl
theorem r39_12 : (tx r39.bytes).extract 0 12 = ⟨#[0, 0, 0, 3, 0, 0, 0, 9, 0, 0, 0, 0]⟩ := by
  rw [tx_extract, List.drop_zero]
  have e : r39.bytes = [0, 0, 0, 3, 0, 0, 0, 9, 0, 0, 0, 0] ++ (r39.bytes.drop 12) := rfl
  rw [e]
  rfl
theorem r39_252 : (tx r39.bytes).extract 252 256 = ⟨#[0, 0, 0, 3]⟩ := by
  rw [tx_extract, List.take_of_length_le (by rw [Rt.bytes_length]; omega)]
  have e : r39.bytes = (r39.body ++ be 4 (crcL r39.body)) ++ be 4 3 := rfl
  rw [e, List.drop_left' (by rw [List.length_append, Rt.body_length, be_length])]
  rfl
theorem r39_1 : Rt.dec ((tx r39.bytes).extract 1 256) = none := by
  unfold Rt.dec
  rw [if_neg]
  rintro ⟨h, _⟩
  rw [ByteArray.size_extract, tx_size, Rt.bytes_length] at h
  omega
theorem dec_empty : Rt.dec ⟨#[]⟩ = none := by
  unfold Rt.dec
  rw [if_neg]
  rintro ⟨h, _⟩
  cases h

section
variable {F : Asn} {w : World} {R : Ending → World → Prop}

theorem enc39 {s : ByteArray} (es : Hid (s = tx r39.bytes)) (hv : Hv F) (H : Sat F w) (h : ∀ w', Sat F w' → Io w w' → R (.returned (.tuple #[.string s, .int .i64 0])) w') :
    Calls Tryd.prog 10 #[.agg #[.int .i64 3, .int .i64 9, .int .i64 0, .int .i64 0, .int .i64 0]] w R := by
  refine enc_any (r := r39) hv H fun w' H' I' => ?_
  rw [r39_enc, Rt.encE, r39_good, ← es.out]
  exact h w' H' I'
theorem enc00 (hv : Hv F) (H : Sat F w) (h : ∀ w', Sat F w' → Io w w' → R (.returned (.tuple #[.string ⟨#[]⟩, .int .i64 1])) w') :
    Calls Tryd.prog 10 #[.agg #[.int .i64 0, .int .i64 0, .int .i64 0, .int .i64 0, .int .i64 0]] w R := by
  refine enc_any (r := Rt.zero) hv H fun w' H' I' => ?_
  have e : Rt.good Rt.zero = false := by decide
  rw [Rt.encS, Rt.encE, e]
  exact h w' H' I'
theorem pick39 {s : ByteArray} (es : Hid (s = tx r39.bytes)) (hv : Hv F) (H : Sat F w) (h : ∀ w', Sat F w' → Io w w' → R (.returned (.tuple #[.agg #[.int .i64 3, .int .i64 9, .int .i64 0, .int .i64 0, .int .i64 0], .int .i64 0])) w') :
    Calls Tryd.prog 14 #[.string ⟨#[]⟩, .string s] w R :=
  pick_ny hv H _ _ (by decide) (by rw [es.out, tx_size, Rt.bytes_length]; omega) dec_empty (by rw [es.out]; exact Rt.dec_bytes r39_good) h
theorem pick_cut {s : ByteArray} (es : Hid (s = tx r39.bytes)) (hv : Hv F) (H : Sat F w) (h : ∀ w', Sat F w' → Io w w' → R (.returned (.tuple #[.agg #[.int .i64 0, .int .i64 0, .int .i64 0, .int .i64 0, .int .i64 0], .int .i64 70])) w') :
    Calls Tryd.prog 14 #[.string ⟨#[]⟩, .string (s.extract 1 s.size)] w R := by
  have e : s.size = 256 := by rw [es.out, tx_size, Rt.bytes_length]
  rw [e]
  exact pick_nn hv H _ _ (by decide) (by rw [ByteArray.size_extract]; omega) dec_empty (by rw [es.out]; exact r39_1) h

set_option maxRecDepth 100000 in
set_option maxHeartbeats 2000000 in
theorem works_any (hv : Hv F) (H : Sat F w) (h : ∀ w', Sat F w' → Io w w' → R (.returned (.bool true)) w') :
    Calls Tryd.prog 9 #[] w R := by
  have HH : Hid (∀ w', Sat F w' → Io w w' → R (.returned (.bool true)) w') := Lib.hid h
  clear h
  obtain ⟨s, S⟩ : ∃ s, Hid (s = tx r39.bytes) := ⟨_, Lib.hid rfl⟩
  have hsz : s.size = 256 := by rw [S.out, tx_size, Rt.bytes_length]
  have e12 : s.extract 0 12 = ⟨#[0, 0, 0, 3, 0, 0, 0, 9, 0, 0, 0, 0]⟩ := by rw [S.out]; exact r39_12
  have e252 : s.extract 252 s.size = ⟨#[0, 0, 0, 3]⟩ := by rw [hsz, S.out]; exact r39_252
  have hne : ((s.size : Int) != 256) = false := by rw [bne_eq_false_iff_eq]; omega
  have hz1 : (252 : Int) ≤ (s.size : Int) := by omega
  have hz2 : (s.size : Int) ≤ 256 := by omega
  have hz3 : 252 ≤ s.size := by omega
  clear hsz
  go_enter Tryd.func9, Tryd.ntmps9
  go_wp2_with fail
  refine enc39 S hv H ?_
  intro w1 H1 I1
  go_wp2_with fail
  refine pick39 S hv H1 ?_
  intro w2 H2 I2
  have H2' := H2.new (.cells #[.int .i64 3, .int .i64 9, .int .i64 0, .int .i64 0, .int .i64 0] 23)
  have J2 := (I1.trans I2).alloc (.cells #[.int .i64 3, .int .i64 9, .int .i64 0, .int .i64 0, .int .i64 0] 23)
  clear H1 H2 I1 I2 H
  go_wp2_with fail
  generalize w2.alloc (.cells #[.int .i64 3, .int .i64 9, .int .i64 0, .int .i64 0, .int .i64 0] 23) = v2 at *
  generalize w2.heap.size = B at *
  refine pick_cut S hv.with H2' ?_
  intro w3 H3 I3
  have H3' := H3.new (.cells #[.int .i64 0, .int .i64 0, .int .i64 0, .int .i64 0, .int .i64 0] 23)
  have J3 := (J2.trans I3).alloc (.cells #[.int .i64 0, .int .i64 0, .int .i64 0, .int .i64 0, .int .i64 0] 23)
  clear H2' H3 J2 I3
  go_wp2_with fail
  generalize w3.alloc (.cells #[.int .i64 0, .int .i64 0, .int .i64 0, .int .i64 0, .int .i64 0] 23) = v3 at *
  generalize w3.heap.size = C at *
  refine enc00 hv.with.with H3' ?_
  intro w4 H4 I4
  have J4 := J3.trans I4
  have lB := H4.right.left.lt
  have b0 := Sat.read H4.right.left.at 0
  have b1 := Sat.read H4.right.left.at 1
  have b2 := Sat.read H4.right.left.at 2
  have b3 := Sat.read H4.right.left.at 3
  have b4 := Sat.read H4.right.left.at 4
  simp only [List.getElem?_toArray, List.getElem?_cons_zero, List.getElem?_cons_succ] at b0 b1 b2 b3 b4
  have fin := HH.out w4 H4.right.right J4
  clear H3' H4 J3 I4 J4 HH
  go_wp2_with fail
  exact fin
end
end Go.Proofs.YtghpfepmkngfdaaDoor
