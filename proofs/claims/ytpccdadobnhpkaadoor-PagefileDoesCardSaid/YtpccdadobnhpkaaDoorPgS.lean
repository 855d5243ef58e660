/-
  The document's pages: Seal, by its walk. It proves no statement by itself.
-/
import Derived.Test.YtpccdadobnhpkaaDoorPgR
namespace Go.Proofs.YtpccdadobnhpkaaDoor
open Go.RowKit
set_option linter.unusedSimpArgs false
set_option linter.unusedVariables false

theorem conv_two {P : Program} (src e dst : TypeId) (hs : P.underlying src = some (.slice e)) (he : P.underlying e = some (.int .u8)) (hd : P.underlying dst = some .string)
    (y z : Int) (w : World) :
    (convert src dst (.slice (some ⟨w.heap.size, 0, none⟩) 2 2)).run P (w.alloc (.cells #[.int .u8 y, .int .u8 z] e)) = .ok (.string (tx [UInt8.ofNat y.toNat, UInt8.ofNat z.toNat])) (w.alloc (.cells #[.int .u8 y, .int .u8 z] e)) := by
  have := run_convert_bytes_arg (P := P) (w.alloc (.cells #[.int .u8 y, .int .u8 z] e)) src e hs he w.heap.size 0 2 2 [y, z] rfl (by
    intro i hi
    have : i = 0 ∨ i = 1 := by omega
    rcases this with rfl | rfl <;> simp) dst hd
  simpa [strOfNums, tx] using this

section
variable {F : Asn} {w : World} {R : Ending → World → Prop}
set_option maxRecDepth 100000 in
set_option maxHeartbeats 2000000 in
theorem rseal_no (H : Sat F w) (id : Int) (hid : id ≤ 9223372036854775807) (k : UInt8) (b : ByteArray) (hb : b.size ≤ 1000000) (hi : ¬ sealE id b = 0)
    (h : ∀ w', Sat F w' → Io w w' → R (.returned (.tuple #[.string ByteArray.empty, .bool false])) w') :
    Calls Tryd.prog 43 #[.int .i64 id, .int .u8 (k.toNat : Int), .string b] w R := by
  have hb' : (b.size : Int) ≤ 1000000 := by omega
  have HH := Lib.hid h
  have HI := Lib.hid hid
  clear h hb hid
  by_cases hf : fits 4 id = true
  · have hl : 240 < (b.size : Int) := by
      by_cases hx : b.size ≤ 240
      · exact absurd (seal_of hx hf) hi
      · omega
    clear hi
    go_enter Tryd.func43, Tryd.ntmps43
    go_wp2_with fail
    refine rput_any 4 (.inr (.inr rfl)) id HI.out H ?_
    intro w1 H1 I1
    have fin := HH.out w1 H1 I1
    rw [hf]
    generalize rputS 4 id = s1 at *
    go_wp2_with fail
    exact fin
  · rw [Bool.not_eq_true] at hf
    clear hi
    go_enter Tryd.func43, Tryd.ntmps43
    go_wp2_with fail
    refine rput_any 4 (.inr (.inr rfl)) id HI.out H ?_
    intro w1 H1 I1
    have fin := HH.out w1 H1 I1
    rw [hf]
    generalize rputS 4 id = s1 at *
    go_wp2_with fail
    exact fin

set_option maxRecDepth 100000 in
set_option maxHeartbeats 2000000 in
theorem rseal_ok (H : Sat F w) (id : Int) (hid : id ≤ 9223372036854775807) (k : UInt8) (b : ByteArray) (hb : b.size ≤ 240) (hi : fits 4 id = true)
    (h : ∀ w', Sat F w' → Io w w' → R (.returned (.tuple #[.string (tx (pgBytes id k b)), .bool true])) w') :
    Calls Tryd.prog 43 #[.int .i64 id, .int .u8 (k.toNat : Int), .string b] w R := by
  have hb' : (b.size : Int) ≤ 240 := by omega
  have hbn := Lib.hid hb
  have HH := Lib.hid h
  have HI := Lib.hid hid
  have HF := Lib.hid hi
  clear h hb hid
  go_enter Tryd.func43, Tryd.ntmps43
  go_wp2_with fail
  refine rput_any 4 (.inr (.inr rfl)) id HI.out H ?_
  intro w1 H1 I1
  rw [HF.out]
  obtain ⟨s1, S1⟩ : ∃ s, Hid (s = rputS 4 id) := ⟨_, Lib.hid rfl⟩
  rw [← S1.out]
  clear hi
  go_wp2_with fail
  refine rput_any 2 (.inr (.inl rfl)) (b.size : Int) (by omega) H1 ?_
  intro w2 H2 I2
  obtain ⟨s2, S2⟩ : ∃ s, Hid (s = rputS 2 (b.size : Int)) := ⟨_, Lib.hid rfl⟩
  rw [← S2.out]
  have n1 : s1.size = 4 := by rw [S1.out]; unfold rputS; rw [if_pos (Rt.of_fits HF.out).1, tx_size, be_length]
  have n2 : s2.size = 2 := by rw [S2.out]; unfold rputS; rw [if_pos (by omega), tx_size, be_length]
  have n3 : (tx [k, 0]).size = 2 := rfl
  have n4 := hbn.out
  have kc := fun y z w => conv_two (P := Tryd.prog) 93 5 9 Tryd.underlying93 Tryd.underlying5 Tryd.underlying9 y z w
  go_wp2_with fail
  obtain ⟨rh, RH⟩ : ∃ l : List UInt8, Hid (l = be 4 id.toNat ++ ([k, 0] ++ (be 2 b.size ++ ([0, 0, 0, 0] ++ b.data.toList)))) := ⟨_, Lib.hid rfl⟩
  have e12 : s1 ++ tx [k, 0] ++ s2 ++ ⟨#[0, 0, 0, 0]⟩ ++ b = tx (rh ++ noughts 0) := by
    rw [RH.out, S1.out, S2.out]
    unfold rputS
    rw [if_pos (Rt.of_fits HF.out).1, if_pos (by omega), Int.toNat_natCast]
    have eb : b = tx b.data.toList := (tx_of b).symm
    have eg : (⟨#[0, 0, 0, 0]⟩ : ByteArray) = tx [0, 0, 0, 0] := rfl
    rw [eg]
    have en : noughts 0 = [] := rfl
    rw [en, List.append_nil]
    generalize b.data.toList = lb at *
    rw [eb]
    rw [tx_append, tx_append, tx_append, tx_append]
    simp only [List.append_assoc]
  have hhl : Hid (rh.length = 12 + b.size) := Lib.hid (by rw [RH.out]; simp [be_length, size_list]; omega)
  rw [e12]
  clear e12 n1 n2 n3 kc
  go_loop [12] (fun s => ∃ j : Nat, j ≤ 240 - b.size ∧ s = .string (tx (rh ++ noughts j))) (fun s => match s with | .string s => 256 - s.size | _ => 0)
  case atStart => exact ⟨0, by omega, rfl⟩
  case round =>
    obtain ⟨j, hj, rfl⟩ := hrel
    have hsz : (tx (rh ++ noughts j)).size = 12 + b.size + j := by rw [tx_size, List.length_append, noughts_length, hhl.out]
    by_cases hj2 : j < 240 - b.size
    · have hsz1 : ((tx (rh ++ noughts j)).size : Int) < 252 := by omega
      have hsz2 : Hid ((tx (rh ++ noughts (j + 1))).size = 12 + b.size + (j + 1)) := Lib.hid (by rw [tx_size, List.length_append, noughts_length, hhl.out])
      have hadd : ∀ W, (Op.stringOp .add (tx (rh ++ noughts j)) ⟨#[0]⟩).run Tryd.prog W = .ok (.string (tx (rh ++ noughts (j + 1)))) W := by
        intro W
        rw [run_string_add_sum W _ _ (by rw [hsz]; show _ + 1 ≤ _; omega), show (⟨#[0]⟩ : ByteArray) = tx [0] from rfl, tx_append, List.append_assoc, noughts_snoc]
      have HS := Lib.hid hsz
      clear hsz
      generalize hu1 : tx (rh ++ noughts (j + 1)) = u1 at *
      have HU1 := Lib.hid hu1
      clear hu1
      generalize tx (rh ++ noughts j) = u0 at *
      go_wp2_with fail
      go_round
      case rel => exact ⟨j + 1, by omega, by rw [HU1.out]⟩
      case measure =>
        have h1 := HS.out
        have h2 := hsz2.out
        simp only [h1, h2]
        omega
    · obtain rfl : j = 240 - b.size := by omega
      have erest : rh ++ noughts (240 - b.size) = pgRest id k b := by
        rw [RH.out]
        unfold pgRest
        rw [be1_kind, be1_0]
        simp only [List.append_assoc, List.cons_append, List.nil_append]
      rw [erest] at hsz ⊢
      have hz : (tx (pgRest id k b)).size = 252 := by omega
      have hzi : ((tx (pgRest id k b)).size : Int) = 252 := by omega
      have hz4 : (tx (pgRest id k b)).size ≤ 1000000 := by omega
      have hbytes : tx (be 4 (crcL (pgRest id k b))) ++ tx (pgRest id k b) = tx (pgBytes id k b) := by rw [tx_append]; rfl
      have hcb : ((crcL (pgRest id k b) : Nat) : Int) ≤ 9223372036854775807 := by have := crcL_lt (pgRest id k b); omega
      have x1 : rputS 4 ((crcL (pgRest id k b) : Nat) : Int) = tx (be 4 (crcL (pgRest id k b))) := by unfold rputS; rw [if_pos (by omega), Int.toNat_natCast]
      have hl : (tx (be 4 (crcL (pgRest id k b)))).size = 4 := by rw [tx_size, be_length]
      have HZ4 := Lib.hid hz4
      have HCB := Lib.hid hcb
      have H3 := H2.new (.cells #[.int .u8 (k.toNat : Int), .int .u8 0] 5)
      have I3 := (I1.trans I2).alloc (.cells #[.int .u8 (k.toNat : Int), .int .u8 0] 5)
      clear hsz hz4 hcb erest
      go_wp2_with fail
      refine rsum_any _ HZ4.out ?_
      rw [tx_list]
      go_wp2_with fail
      refine rput_any 4 (.inr (.inr rfl)) _ HCB.out H3 ?_
      intro w5 H5 I5
      rw [x1]
      have fin := HH.out w5 H5.right (I3.trans I5)
      rw [← hbytes] at fin
      go_wp2_with fail
      exact fin
end
end Go.Proofs.YtpccdadobnhpkaaDoor
