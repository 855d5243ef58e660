/-
  CatalogMany, by its walk. It proves no statement by itself.
-/
import Derived.Test.YtojiffhknddleaaGreatDoorP46
namespace Go.Proofs.YtojiffhknddleaaGreatDoor
open Go.RowKit Go.Lib
set_option linter.unusedSimpArgs false
set_option linter.unusedVariables false
set_option linter.unusedSectionVars false
namespace Ca
open Md (Ver Br Nm)
theorem bins_len (B : List Br) (n : Nm) (id : Int) : (bins B n id).length = B.length + 1 := by
  unfold bins
  have := Md.bput_le B n
  simp only [List.length_append, List.length_take, List.length_cons, List.length_drop]
  omega
theorem bins_mem (B : List Br) (n : Nm) (id : Int) : Md.bplace (bins B n id) n < (bins B n id).length :=
  Md.bplace_lt.2 ⟨⟨n, id⟩, by unfold bins; simp, rfl⟩
/-- What the last two calls answer. -/
theorem many_pair (B : List Br) (n : Nm) : ∃ (f f2 : Int) (B1 B2 : List Br) (d : Bool), Md.mk manyV B n 7 = (f, B1) ∧ Md.mk manyV B1 n 8 = (f2, B2) ∧ d = Md.nameOk n ∧ B1.length ≤ B.length + 1 ∧
    ((f = 193 ∧ f2 = 193 ∧ d = false) ∨ (f = 192 ∧ f2 = 192 ∧ d = true) ∨ (f = 0 ∧ f2 = 192 ∧ d = true ∧ B.length < 64) ∨ (f = 195 ∧ f2 = 190 ∧ d = true)) := by
  by_cases h1 : Md.nameOk n = false
  · exact ⟨193, 193, B, B, false, by unfold Md.mk; rw [if_pos h1], by unfold Md.mk; rw [if_pos h1], h1.symm, by omega, .inl ⟨rfl, rfl, rfl⟩⟩
  · have h1' : true = Md.nameOk n := by cases h : Md.nameOk n <;> simp_all
    by_cases h2 : Md.bplace B n < B.length
    · exact ⟨192, 192, B, B, true, by unfold Md.mk; rw [if_neg h1, if_pos h2], by unfold Md.mk; rw [if_neg h1, if_pos h2], h1', by omega, .inr (.inl ⟨rfl, rfl, rfl⟩)⟩
    · by_cases h4 : 64 ≤ B.length
      · exact ⟨195, 190, B, B, true, by unfold Md.mk; rw [if_neg h1, if_neg h2, if_neg (by simpa using many_seven), if_pos h4], by unfold Md.mk; rw [if_neg h1, if_neg h2, if_pos (by decide)], h1', by omega, .inr (.inr (.inr ⟨rfl, rfl, rfl⟩))⟩
      · exact ⟨0, 192, bins B n 7, bins B n 7, true, mk_bins h1'.symm h2 many_seven h4, by unfold Md.mk; rw [if_neg h1, if_pos (bins_mem B n 7)], h1', by rw [bins_len]; omega, .inr (.inr (.inl ⟨rfl, rfl, rfl, by omega⟩))⟩
theorem many_step {k : Nat} (hk : k < 80) : ∃ e : Int, Md.mk manyV (manyB (min k 64)) (nm k) 7 = (e, manyB (min (k + 1) 64)) ∧ ((k < 64 ∧ e = 0) ∨ (64 ≤ k ∧ e = 195)) := by
  by_cases h : k < 64
  · refine ⟨0, ?_, .inl ⟨h, rfl⟩⟩
    rw [show min k 64 = k by omega, show min (k + 1) 64 = k + 1 by omega]
    exact many_mk h
  · refine ⟨195, ?_, .inr ⟨by omega, rfl⟩⟩
    rw [show min k 64 = 64 by omega, show min (k + 1) 64 = 64 by omega]
    exact many_full (by omega) hk
end Ca
section
variable {F : Asn} {w : World} {R : Ending → World → Prop}
theorem room_many {c : Cq} {k : Nat} (hc : Hid (c.k.n = 1500)) (hk : k ≤ 83) : Hid (30 + (Tb.most (79 + 19 * k) (1 + k) : Int) < c.k.room) := Lib.hid (kroom hc.out (by
  unfold Tb.most
  have h1 : (1 + k) / 11 + 2 ≤ 9 := by omega
  have h2 := Nat.mul_le_mul (show 79 + 19 * k ≤ 1656 by omega) h1
  omega))
theorem km_put {a : Nat} {c : Cq} (hc : Hid (c.k.n = 1500)) (H : Sat (KtAt a c [] [] 60 0 * F) w) (hR : ∀ w', Sat (KtAt a c Ca.manyV (Ca.manyB 0) (79 + 19 * 0) (1 + 0) * F) w' → Io w w' → R (.returned (.int .i64 0)) w') :
    Calls Tryz.prog 10 #[.pointer (some ⟨a, 0, none⟩), .agg #[.int .i64 7, .int .i64 0, .int .i64 0, .int .i64 0]] w R := by
  refine kput_yes ⟨7, 0, 0, 0⟩ (by constructor <;> decide) (by have := hc.out; omega) (by omega) (by omega) (Lib.hid (kroom hc.out (by decide +kernel))) H ?_
  rw [show Ca.vput [] ⟨7, 0, 0, 0⟩ = Ca.manyV by decide +kernel]
  exact hR
theorem km_make {a : Nat} {c : Cq} {B B' : List Md.Br} {k : Nat} (hk : k ≤ 83) (hc : Hid (c.k.n = 1500)) (n : Ky.Nm) (id : Int) {e : Int} (hm : Hid (Md.mk Ca.manyV B n id = (e, B'))) (ZN : Hid (n.size ≤ 1000)) (hl : B.length ≤ 80) (H : Sat (KtAt a c Ca.manyV B (79 + 19 * k) (1 + k) * F) w)
    (hR : ∀ w', Sat (KtAt a c Ca.manyV B' (79 + 19 * (k + 1)) (1 + (k + 1)) * F) w' → Io w w' → R (.returned (.int .i64 e)) w') :
    Calls Tryz.prog 11 #[.pointer (some ⟨a, 0, none⟩), .string n, .int .i64 id] w R :=
  kmake_any n id hm ZN (by have : Ca.manyV.length = 1 := rfl; omega) (by have := hc.out; omega) (by omega) (by omega) (room_many hc hk) H hR
theorem km_branches {a : Nat} {c : Cq} {B : List Md.Br} {k m : Nat} (hk : k ≤ 83) (hB : Hid (B.length = m)) (hl : m ≤ 80) (H : Sat (KtAt a c Ca.manyV B (79 + 19 * k) (1 + k) * F) w)
    (hR : ∀ b cc w', Sat (KtAt a c Ca.manyV B (79 + 19 * k) (1 + k) * F) w' → Io w w' → R (.returned (.tuple #[.slice b m cc, .int .i64 0])) w') :
    Calls Tryz.prog 12 #[.pointer (some ⟨a, 0, none⟩)] w R := by
  refine branches_any (by omega) (by have : Ca.manyV.length = 1 := rfl; have := hB.out; omega) H fun v w' H' I => ?_
  obtain ⟨b, cc, rfl⟩ := rowOf_shl H'
  rw [hB.out]
  exact hR b cc w' H'.right I
theorem km_conv (W : World) {k : Nat} (hk : k < 80) : (convert 32 9 (.slice (some ⟨W.heap.size, 0, none⟩) 2 2)).run Tryz.prog (W.alloc (.cells #[.int .u8 (97 + (k : Int) / 26), .int .u8 (97 + (k : Int) % 26)] 5)) =
    .ok (.string ⟨#[UInt8.ofNat (97 + k / 26), UInt8.ofNat (97 + k % 26)]⟩) (W.alloc (.cells #[.int .u8 (97 + (k : Int) / 26), .int .u8 (97 + (k : Int) % 26)] 5)) := by
  have Z := nd2 ((Sat.all W).new (.cells #[.int .u8 (97 + (k : Int) / 26), .int .u8 (97 + (k : Int) % 26)] 5))
  generalize W.alloc (.cells #[.int .u8 (97 + (k : Int) / 26), .int .u8 (97 + (k : Int) % 26)] 5) = W' at *
  generalize W.heap.size = g at *
  obtain ⟨z0, z1⟩ := Z
  have h := run_convert_bytes_arg (P := Tryz.prog) W' 32 5 Tryz.underlying32 Tryz.underlying5 g 0 2 2 [97 + (k : Int) / 26, 97 + (k : Int) % 26] rfl (by
    intro i hi
    match i with
    | 0 => simpa using z0
    | 1 => simpa using z1
    | i + 2 => omega) 9 Tryz.underlying9
  have e1 : (97 + (k : Int) / 26).toNat = 97 + k / 26 := by omega
  have e2 : (97 + (k : Int) % 26).toNat = 97 + k % 26 := by omega
  rw [h]
  simp [strOfNums, e1, e2]
theorem km_name (k : Nat) : (⟨#[120]⟩ : ByteArray) ++ ⟨#[UInt8.ofNat (97 + k / 26), UInt8.ofNat (97 + k % 26)]⟩ = Ca.nm k := by
  rw [ByteArray.mk_append_mk]
  rfl
set_option maxRecDepth 100000 in
set_option maxHeartbeats 16000000 in
theorem catalogMany_walk (n : Int) (name : ByteArray) (hz : name.size ≤ 9223372036854775807) (H : Sat F w) (h : ∀ w', Sat F w' → Io w w' → R (.returned (.bool true)) w') :
    Calls Tryz.prog 3 #[.int .i64 n, .string name] w R := by
  have HH := Lib.hid h
  clear h
  have zz : (name.size : Int) ≤ 9223372036854775807 := by omega
  go_enter Tryz.func3, Tryz.ntmps3
  by_cases c1 : (60 : Int) < (name.size : Int)
  · go_wp2_with (go_at_call 8; (with_reducible refine works19_any H ?_); intro w1 H1 I1)
    exact HH.out _ H1 I1
  · by_cases c2 : n < 0
    · go_wp2_with (go_at_call 8; (with_reducible refine works19_any H ?_); intro w1 H1 I1)
      exact HH.out _ H1 I1
    · by_cases c3 : 80 < n
      · go_wp2_with (go_at_call 8; (with_reducible refine works19_any H ?_); intro w1 H1 I1)
        exact HH.out _ H1 I1
      · have ZN : Hid (name.size ≤ 1000) := Lib.hid (by omega)
        have ZM : Hid (name.size ≤ 9223372036854775807) := Lib.hid hz
        obtain ⟨N, rfl⟩ := Int.eq_ofNat_of_zero_le (show 0 ≤ n by omega)
        have HN : Hid (N ≤ 80) := Lib.hid (by omega)
        go_wp2_with (first
          | (go_at_call 8; (with_reducible refine works19_any H ?_); intro w1 H1 I1)
          | (go_at_call 9; (refine lcat_any (n := 1500) (by decide) H1 ?_); intro a c w2 hn H2 I2; have HC := Lib.hid hn; clear hn)
          | (go_at_call 10; (with_reducible refine km_put HC H2 ?_); intro w3 H3 I3)
          | fail)
        have J3 := (I1.trans I2).trans I3
        clear H H1 H2 I1 I2 I3
        go_loopw [8] (fun x wr => ∃ k : Nat, k ≤ N ∧ x = .int .i64 (k : Int) ∧ Sat (KtAt a c Ca.manyV (Ca.manyB (min k 64)) (79 + 19 * k) (1 + k) * F) wr ∧ Io w wr) (fun x _ => N - (RowKit.intOf x).toNat)
        case atStart => exact ⟨0, by omega, rfl, H3, J3⟩
        case round =>
          obtain ⟨k, hk, rfl, Hk, Ik⟩ := hrel
          clear H3 J3
          by_cases hlt : k < N
          · have hlti : (k : Int) < (N : Int) := by omega
            have hk0 : (0 : Int) ≤ (k : Int) := by omega
            have hk80 : (k : Int) < 80 := by have := HN.out; omega
            have CV := km_conv wr (k := k) (by omega)
            have hnm := km_name k
            have hsz : (⟨#[UInt8.ofNat (97 + k / 26), UInt8.ofNat (97 + k % 26)]⟩ : ByteArray).size = 2 := rfl
            generalize (⟨#[UInt8.ofNat (97 + k / 26), UInt8.ofNat (97 + k % 26)]⟩ : ByteArray) = s at *
            obtain ⟨e, hme, hcase⟩ := Ca.many_step (k := k) (by omega)
            have HM : Hid (Md.mk Ca.manyV (Ca.manyB (min k 64)) ((⟨#[120]⟩ : ByteArray) ++ s) 7 = (e, Ca.manyB (min (k + 1) 64))) := Lib.hid (by rw [hnm]; exact hme)
            have HS3 : Hid (((⟨#[120]⟩ : ByteArray) ++ s).size ≤ 1000) := Lib.hid (by rw [ByteArray.size_append, hsz]; decide)
            have HK83 : Hid (k ≤ 83) := Lib.hid (by omega)
            have HBL : Hid ((Ca.manyB (min k 64)).length ≤ 80) := Lib.hid (by rw [Ca.manyB_len]; omega)
            have s1 : (s.size : Int) ≤ 1000 := by omega
            have s2 : ¬ 9223372036854775807 < 1 + s.size := by omega
            have s3 : ¬ 9223372036854775807 < (⟨#[120]⟩ : ByteArray).size + s.size := s2
            have H4 := (Hk.new (.cells #[.int .u8 (97 + (k : Int) / 26), .int .u8 (97 + (k : Int) % 26)] 5)).right
            have I4 := Ik.alloc (.cells #[.int .u8 (97 + (k : Int) / 26), .int .u8 (97 + (k : Int) % 26)] 5)
            clear hnm hme Hk
            rcases hcase with ⟨hk64, rfl⟩ | ⟨hk64, rfl⟩
            · have hk64i : (k : Int) < 64 := by omega
              go_wp2_with (go_at_call 11; (with_reducible refine km_make HK83.out HC _ 7 HM HS3 HBL.out H4 ?_); intro w5 H5 I5)
              go_roundw
              case rel => exact ⟨k + 1, by omega, by go_num, H5, I4.trans I5⟩
              case measure => simp [RowKit.intOf]; omega
            · have hk64i : ¬ (k : Int) < 64 := by omega
              have hk64j : (64 : Int) ≤ (k : Int) := by omega
              go_wp2_with (go_at_call 11; (with_reducible refine km_make HK83.out HC _ 7 HM HS3 HBL.out H4 ?_); intro w5 H5 I5)
              go_roundw
              case rel => exact ⟨k + 1, by omega, by go_num, H5, I4.trans I5⟩
              case measure => simp [RowKit.intOf]; omega
          · obtain rfl : k = N := by omega
            have hge : ¬ (k : Int) < (k : Int) := by omega
            obtain ⟨f, f2, B1, B2, d, hm1, hm2, hd, hbl, hcase⟩ := Ca.many_pair (Ca.manyB (min k 64)) name
            rw [Ca.manyB_len] at hbl hcase
            have HM1 := Lib.hid hm1
            have HM2 := Lib.hid hm2
            have HD := Lib.hid hd
            have HBL : Hid ((Ca.manyB (min k 64)).length ≤ 80) := Lib.hid (by rw [Ca.manyB_len]; omega)
            have HB1 : Hid (B1.length ≤ 80) := Lib.hid (by omega)
            have HK83 : Hid (k ≤ 83) := Lib.hid (by have := HN.out; omega)
            have HK84 : Hid (k + 1 ≤ 83) := Lib.hid (by have := HN.out; omega)
            clear hm1 hm2 hd hbl
            by_cases hk64 : k < 64
            · have hk64i : (k : Int) < 64 := by omega
              have hmin : min k 64 = k := by omega
              have hmini : min (k : Int) 64 = (k : Int) := by omega
              have HBK : Hid ((Ca.manyB (min k 64)).length = k) := Lib.hid (by rw [Ca.manyB_len]; omega)
              have HK80 : Hid (k ≤ 80) := Lib.hid (by omega)
              rcases hcase with ⟨rfl, rfl, rfl⟩ | ⟨rfl, rfl, rfl⟩ | ⟨rfl, rfl, rfl, _⟩ | ⟨rfl, rfl, rfl⟩
              all_goals
                go_wp2_with (first
                  | (go_at_call 12; (with_reducible refine km_branches HK83.out HBK HK80.out Hk ?_); intro b9 c9 w5 H5 I5)
                  | (go_at_call 11; (with_reducible refine km_make HK83.out HC name 7 HM1 ZN HBL.out H5 ?_); intro w6 H6 I6)
                  | (go_at_call 13; (with_reducible refine name_any name ZM.out HD H6 ?_); intro w7 H7 I7)
                  | (go_at_call 11; (with_reducible refine km_make HK84.out HC name 8 HM2 ZN HB1.out H7 ?_); intro w8 H8 I8)
                  | fail)
                exact HH.out _ H8.right ((((Ik.trans I5).trans I6).trans I7).trans I8)
            · have hk64i : ¬ (k : Int) < 64 := by omega
              have hk64j : (64 : Int) ≤ (k : Int) := by omega
              have hmin : min k 64 = 64 := by omega
              have hmini : min (k : Int) 64 = 64 := by omega
              have HBK : Hid ((Ca.manyB (min k 64)).length = 64) := Lib.hid (by rw [Ca.manyB_len]; omega)
              have HK80 : Hid (64 ≤ 80) := Lib.hid (by omega)
              rcases hcase with ⟨rfl, rfl, rfl⟩ | ⟨rfl, rfl, rfl⟩ | ⟨_, _, _, hab⟩ | ⟨rfl, rfl, rfl⟩
              case inr.inr.inl => exfalso; omega
              all_goals
                go_wp2_with (first
                  | (go_at_call 12; (with_reducible refine km_branches HK83.out HBK HK80.out Hk ?_); intro b9 c9 w5 H5 I5)
                  | (go_at_call 11; (with_reducible refine km_make HK83.out HC name 7 HM1 ZN HBL.out H5 ?_); intro w6 H6 I6)
                  | (go_at_call 13; (with_reducible refine name_any name ZM.out HD H6 ?_); intro w7 H7 I7)
                  | (go_at_call 11; (with_reducible refine km_make HK84.out HC name 8 HM2 ZN HB1.out H7 ?_); intro w8 H8 I8)
                  | fail)
                exact HH.out _ H8.right ((((Ik.trans I5).trans I6).trans I7).trans I8)
end
end Go.Proofs.YtojiffhknddleaaGreatDoor
