/-
  CatalogRaw, by its walk. It proves no statement by itself.
-/
import Derived.Test.YtojiffhknddleaaGreatDoorV50
import Derived.Test.YtojiffhknddleaaGreatDoorV33
namespace Go.Proofs.YtojiffhknddleaaGreatDoor
open Go.RowKit Go.Lib
set_option linter.unusedSimpArgs false
set_option linter.unusedVariables false
set_option linter.unusedSectionVars false
theorem room_raw {c : Cq} {k : Nat} (hc : Hid (c.k.n = 1500)) (hk : k ≤ 100) : Hid (30 + (Tb.most (60 + 58 * k) k : Int) < c.k.room) := Lib.hid (kroom hc.out (by
  unfold Tb.most
  have h1 : k / 11 + 2 ≤ 11 := by omega
  have h2 := Nat.mul_le_mul (show 60 + 58 * k ≤ 5860 by omega) h1
  omega))
theorem raw_chk {k v : ByteArray} (h : Ky.chk k v = 0) : k.size ≤ 16 ∧ v.size ≤ 40 := by
  unfold Ky.chk at h
  split at h
  · omega
  · constructor <;> omega
theorem raw_one {k v : ByteArray} (h : Ky.chk k v = 0) : Ky.one (k, v) ≤ 58 := by
  have := raw_chk h
  unfold Ky.one
  simp only
  omega
theorem raw_put (M : List Ky.En) (k v : Ky.Nm) : (Ky.put M k v).length ≤ M.length + 1 := by
  unfold Ky.put
  split
  · simp
  · have := Ky.pos_le k M
    simp only [List.length_append, List.length_take, List.length_drop, List.length_singleton]
    omega
theorem raw_scan {es : List Ky.En} (hr : Ky.Right es) (a b : Ky.Nm) : (Tb.scan a b es).length ≤ es.length ∧ ∀ z ∈ Tb.scan a b es, z.1.size ≤ 1000 ∧ z.2.size ≤ 1000 := by
  constructor
  · rw [Ky.scan_filter hr]
    exact List.length_filter_le _ _
  · intro z hz
    have := raw_chk (hr.1 z ((Ky.mem_scan hr).1 hz).1)
    omega
theorem raw_get {es : List Ky.En} (hr : Ky.Right es) : ∀ k val, Ky.get es k = some val → val.size ≤ 1000 := fun k val h => by
  have := raw_chk (hr.1 _ ((Ky.get_mem hr).1 h))
  simp only at this
  omega
theorem kk_small (id : Int) : (Ca.kk id).size ≤ 1000 := by
  have h : Ca.pV.size = 1 := rfl
  have := put4_size id
  unfold Ca.kk
  rw [ByteArray.size_append]
  omega
theorem raw_vers {v : Value} {e : Int} {d : Bool} {L : List Ky.En} (h : (e = 3 ∧ v = .slice none 0 0) ∨ (e = 0 ∧ (∃ a n c, v = .slice a n c) ∧ ∀ z ∈ L, z.1.size = 5 ∧ z.2.size = 12)) (hb : d = true → ∃ z ∈ L, ¬ (z.1.size = 5 ∧ z.2.size = 12)) :
    (e = 3 ∧ v = .slice none 0 0) ∨ (e = 0 ∧ d = false) := by
  rcases h with h | ⟨h1, _, h3⟩
  · exact .inl h
  · refine .inr ⟨h1, ?_⟩
    cases d with
    | false => rfl
    | true =>
      obtain ⟨z, hz, hn⟩ := hb rfl
      exact absurd (h3 z hz) hn
theorem kt_raw {a : Nat} {c : Cq} {F : Asn} {w : World} {q g : Nat} (H : Sat (KtAt a c [] [] q g * F) w) : Sat (TrAt c [] q g * (pts a (.cells #[.pointer (some ⟨c.tr, 0, none⟩)] 82 (0, 0)) * F)) w := by
  obtain ⟨es, cat, H⟩ := sat_kt.1 H
  have e : es = [] := by rw [cat.eq]; rfl
  subst e
  exact H
section
variable {F : Asn} {w : World} {R : Ending → World → Prop}
set_option maxRecDepth 100000 in
set_option maxHeartbeats 16000000 in
theorem catalogRaw_walk {l : List Ky.En} {v : Value} (hv : Reads encE F v l) (hz : ∀ x ∈ l, x.1.size ≤ 9223372036854775807 ∧ x.2.size ≤ 9223372036854775807) (id : Int) (nm : ByteArray) (hn : nm.size ≤ 9223372036854775807) (H : Sat F w) (h : ∀ w', Sat F w' → Io w w' → R (.returned (.bool true)) w') :
    Calls Tryz.prog 5 #[v, .int .i64 id, .string nm] w R := by
  have HH := Lib.hid h
  have HZ := Lib.hid hz
  have HVR := Lib.hid hv
  obtain ⟨a0, c0, rfl, hm⟩ := reads_len9 hv
  have HV := Lib.hid (fun k hk => readsE_get hv k hk)
  have zz : (nm.size : Int) ≤ 9223372036854775807 := by omega
  clear h hv hz hn
  go_enter Tryz.func5, Tryz.ntmps5
  by_cases hl : (100 : Int) < (l.length : Int)
  · go_wp2_with (go_at_call 8; (with_reducible refine works19_any H ?_); intro w1 H1 I1)
    exact HH.out _ H1 I1
  · by_cases h6 : (60 : Int) < (nm.size : Int)
    · go_wp2_with (go_at_call 8; (with_reducible refine works19_any H ?_); intro w1 H1 I1)
      exact HH.out _ H1 I1
    · have HL : Hid (l.length ≤ 100) := Lib.hid (by omega)
      have ZN : Hid (nm.size ≤ 900) := Lib.hid (by omega)
      go_wp2_with (first
        | (go_at_call 8; (with_reducible refine works19_any H ?_); intro w1 H1 I1)
        | (go_at_call 9; (refine lcat_any (n := 1500) (by decide) H1 ?_); intro a c w3 hn H3 I3; have HC := Lib.hid hn; clear hn)
        | fail)
      have K3 := kt_raw H3
      have J3 := I1.trans I3
      clear H H1 H3 I1 I3
      go_loopw [10] (fun x wr => ∃ (k : Nat) (es : List Ky.En), k ≤ l.length ∧ x = .int .i64 (k : Int) ∧ Hid (es.length ≤ k) ∧ Sat (TrAt c es (60 + 58 * k) k * (pts a (.cells #[.pointer (some ⟨c.tr, 0, none⟩)] 82 (0, 0)) * F)) wr ∧ Io w wr) (fun x _ => l.length - (RowKit.intOf x).toNat)
      case atStart => exact ⟨0, [], by omega, rfl, Lib.hid (by simp), K3, J3⟩
      case round =>
        obtain ⟨k, es, hk, rfl, hes, Hk, Ik⟩ := hrel
        clear K3 J3
        by_cases hlt : k < l.length
        · have hlti : (k : Int) < (l.length : Int) := by omega
          have hk0 : (0 : Int) ≤ (k : Int) := by omega
          obtain ⟨b1, o1, kk, xx, rfl, hx, hc⟩ := HV.out k hlt
          have hzz := HZ.out _ (List.getElem_mem hlt)
          rw [hx] at hzz
          have z1 : (kk.size : Int) ≤ 9223372036854775807 := by have := hzz.1; simp only at this; omega
          have z2 : (xx.size : Int) ≤ 9223372036854775807 := by have := hzz.2; simp only at this; omega
          have HCC := Lib.hid (fun n => hc _ (Hk.right.right.drewN n))
          obtain ⟨g0, g1⟩ := hc _ Hk.right.right
          have HCX := Lib.hid hc
          clear hc hx hzz
          by_cases s1 : (60 : Int) < (kk.size : Int)
          · have FIN := Lib.hid (HH.out _ Hk.right.right Ik)
            go_wp2_with fail
            exact FIN.out
          · by_cases s2 : (60 : Int) < (xx.size : Int)
            · have FIN := Lib.hid (HH.out _ Hk.right.right Ik)
              go_wp2_with fail
              exact FIN.out
            · have S1 : Hid (kk.size ≤ 60) := Lib.hid (by omega)
              have S2 : Hid (xx.size ≤ 60) := Lib.hid (by omega)
              obtain ⟨d, hd⟩ : ∃ d, d = decide (Ky.chk kk xx = 0) := ⟨_, rfl⟩
              have HD := Lib.hid hd
              have HG : Hid (k ≤ 100) := Lib.hid (by have := HL.out; omega)
              clear hd
              go_upto_region 12 with fail
              have Hn := fun n => Hk.drewN n
              have In := fun n => Ik.drewN n
              go_quiet (first | (go_at_call 22; with_reducible refine rmay_raw kk xx S1 S2 HD ?_; exact ⟨rfl, _, rfl⟩))
              go_upto_region 13 with fail
              have K4 := Hn nq
              have J4 := In nq
              generalize wr.drewN nq = w4 at *
              clear Hn In g0 g1
              cases d with
              | false =>
                obtain ⟨g0, g1⟩ := HCX.out _ K4.right.right
                have Hn := fun n => K4.drewN n
                have In := fun n => J4.drewN n
                go_quiet (fail)
                go_wp2_with fail
                go_roundw
                case rel => exact ⟨k + 1, es, by omega, by go_num, Lib.hid (by have := hes.out; omega), TrAt.mono (by omega) (by omega) (Hn _), In _⟩
                case measure => simp [RowKit.intOf]; omega
              | true =>
                have HCK : Hid (Ky.chk kk xx = 0) := Lib.hid (of_decide_eq_true HD.out.symm)
                have HON := Lib.hid (raw_one HCK.out)
                have HRM := room_raw HC HG.out
                have K5 := K4.drew
                have J5 := J4.drew
                have S0 := HCX.out _ K5.right.right
                go_region_held3 (fun W => W.cell? ⟨b1, o1 + k * 2, none⟩ = some (.string kk) ∧ W.cell? ⟨b1, o1 + k * 2 + 1, none⟩ = some (.string xx)) (with_reducible (first | exact S0 | exact S1')) (first
                  | (go_at_call 23; (with_reducible refine kr_put HCK HON (by have := HC.out; omega) (by have := HG.out; omega) (by omega) HRM K5 ?_); intro w6 H6 I6; have S1' := HCX.out _ H6.right.right))
                go_wp2_with fail
                go_roundw
                case rel => exact ⟨k + 1, _, by omega, by go_num, Lib.hid (by have := raw_put es kk xx; have := hes.out; omega), TrAt.mono (by omega) (by omega) H6, J5.trans I6⟩
                case measure => simp [RowKit.intOf]; omega
        · obtain rfl : k = l.length := by omega
          have hge : ¬ (l.length : Int) < (l.length : Int) := by omega
          have HG : Hid (l.length ≤ 240) := Lib.hid (by have := HL.out; omega)
          have HR := Lib.hid (TrAt.right Hk)
          have HE : Hid (es.length ≤ 100) := Lib.hid (by have := hes.out; have := HL.out; omega)
          have HE5 : Hid (es.length ≤ 100000) := Lib.hid (by have := HE.out; omega)
          have L1 : Hid ((Tb.scan Ca.pV Ca.pW es).length ≤ 1000) := Lib.hid (by have := (raw_scan HR.out Ca.pV Ca.pW).1; have := HE.out; omega)
          have L2 : Hid ((Tb.scan Ca.pH Ca.pI es).length ≤ 1000) := Lib.hid (by have := (raw_scan HR.out Ca.pH Ca.pI).1; have := HE.out; omega)
          have Z1 := Lib.hid (raw_scan HR.out Ca.pV Ca.pW).2
          have Z2 := Lib.hid (raw_scan HR.out Ca.pH Ca.pI).2
          have ZG := Lib.hid (raw_get HR.out)
          have HKK : Hid ((Ca.kk id).size ≤ 1000) := Lib.hid (kk_small id)
          clear HV HZ HVR
          go_wp2_with (go_at_call 24; (refine ctscan_any Ca.pV Ca.pW HG.out HE5.out (by decide) Hk ?_); intro v1 w1 H1 I1; obtain ⟨a1, c1, hq⟩ := rowOf_shl H1; subst hq)
          obtain ⟨L, hLL⟩ : ∃ L, L = Tb.scan Ca.pV Ca.pW es := ⟨_, rfl⟩
          rw [← hLL] at H1 L1 Z1
          have n1 : (L.length : Int) ≤ 1000 := by have := L1.out; omega
          have HEE := Lib.hid (fun k hk => ra_get H1 L1.out k hk)
          have J1 := Ik.trans I1
          have HLL := Lib.hid hLL
          rw [← hLL]
          clear Hk Ik I1 hLL
          go_loopw [14, 15] (fun y x wr => ∃ (j : Nat) (d : Bool), j ≤ L.length ∧ x = .int .i64 (j : Int) ∧ y = .bool d ∧ Hid (d = true → ∃ z ∈ L, ¬ (z.1.size = 5 ∧ z.2.size = 12)) ∧ Sat (RowE (.slice a1 L.length c1) L * (TrAt c es (60 + 58 * l.length) l.length * (pts a (.cells #[.pointer (some ⟨c.tr, 0, none⟩)] 82 (0, 0)) * F))) wr ∧ Io w wr) (fun _ x _ => L.length - (RowKit.intOf x).toNat)
          case atStart => exact ⟨0, false, by omega, rfl, rfl, Lib.hid (by simp), H1, J1⟩
          case round =>
            obtain ⟨j, d, hj, rfl, rfl, hbad, Hj, Ij⟩ := hrel
            clear H1 J1
            by_cases hlt : j < L.length
            · have hlti : (j : Int) < (L.length : Int) := by omega
              have hk0 : (0 : Int) ≤ (j : Int) := by omega
              obtain ⟨b2, o2, kk, xx, rfl, hx, hc⟩ := HEE.out j hlt
              obtain ⟨g0, g1⟩ := hc _ Hj
              have hmem := List.getElem_mem hlt
              rw [hx] at hmem
              have z3 := Z1.out _ hmem
              have z1 : (kk.size : Int) ≤ 9223372036854775807 := by have := z3.1; simp only at this; omega
              have z2 : (xx.size : Int) ≤ 9223372036854775807 := by have := z3.2; simp only at this; omega
              have HM := Lib.hid hmem
              clear hc hx hmem z3
              cases d with
              | true =>
                go_wp2_with fail
                go_roundw
                case rel => exact ⟨j + 1, true, by omega, by go_num, rfl, hbad, Hj, Ij⟩
                case measure => simp [RowKit.intOf]; omega
              | false =>
                by_cases s1 : (kk.size : Int) = 5
                · have e1 : ((kk.size : Int) != 5) = false := by simp [s1]
                  by_cases s2 : (xx.size : Int) = 12
                  · have e2 : ((xx.size : Int) != 12) = false := by simp [s2]
                    clear s1 s2
                    go_wp2_with fail
                    go_roundw
                    case rel => exact ⟨j + 1, false, by omega, by go_num, rfl, Lib.hid (by simp), Hj, Ij⟩
                    case measure => simp [RowKit.intOf]; omega
                  · have e2 : ((xx.size : Int) != 12) = true := by simpa using s2
                    have HB : Hid (true = true → ∃ z ∈ L, ¬ (z.1.size = 5 ∧ z.2.size = 12)) := Lib.hid (fun _ => ⟨_, HM.out, fun h => s2 (by have := h.2; simp only at this; omega)⟩)
                    clear s1 s2
                    go_wp2_with fail
                    go_roundw
                    case rel => exact ⟨j + 1, true, by omega, by go_num, rfl, HB, Hj, Ij⟩
                    case measure => simp [RowKit.intOf]; omega
                · have e1 : ((kk.size : Int) != 5) = true := by simpa using s1
                  have HB : Hid (true = true → ∃ z ∈ L, ¬ (z.1.size = 5 ∧ z.2.size = 12)) := Lib.hid (fun _ => ⟨_, HM.out, fun h => s1 (by have := h.1; simp only at this; omega)⟩)
                  clear s1
                  go_wp2_with fail
                  go_roundw
                  case rel => exact ⟨j + 1, true, by omega, by go_num, rfl, HB, Hj, Ij⟩
                  case measure => simp [RowKit.intOf]; omega
            · obtain rfl : j = L.length := by omega
              have hge : ¬ (L.length : Int) < (L.length : Int) := by omega
              have K1 := Hj.right
              rw [HLL.out] at L1 Z1 hbad
              clear HEE Hj
              go_upto_region 25 with (first
                | (go_at_call 25; (with_reducible refine versions_raw HG.out HE5.out L1 Z1 K1 ?_); intro v2 e2 w2 hv H2 I2; have HV2 := Lib.hid (raw_vers hv.out hbad.out); clear hv)
                | (go_at_call 26; (with_reducible refine cversion_raw id HG.out HKK ZG H2 ?_); intro x1 x2 x3 x4 e3 w3 h3 H3 I3; have H3b := (H3.new (.cells #[.int .i64 x1, .int .i64 x2, .int .i64 x3, .int .i64 x4] 30)).right; have I3b := I3.alloc (.cells #[.int .i64 x1, .int .i64 x2, .int .i64 x3, .int .i64 x4] 30))
                | (go_at_call 27; (with_reducible refine chd_raw nm ZN HG.out ZG H3b ?_); intro x5 e4 w4 h4 H4 I4)
                | (go_at_call 12; (with_reducible refine branches_raw HG.out HE5.out L2 Z2 H4 ?_); intro v5 e5 w5 h5 H5 I5)
                | fail)
              have J5 := (((Ij.trans I2).trans I3b).trans I4).trans I5
              have FIN := Lib.hid (HH.out _ H5.right.right J5)
              clear K1 H2 H3 H3b H4 H5 I2 I3 I3b I4 I5 J5
              cases d
              all_goals
                rcases h3.out with rfl | rfl | rfl <;> rcases h4.out with rfl | rfl | rfl <;> rcases h5.out with ⟨rfl, hv5⟩ | ⟨rfl, hv5⟩ <;> rcases HV2.out with ⟨rfl, rfl⟩ | ⟨rfl, hq2⟩ <;> first | (cases hq2; done) | (as_aux_lemma => (go_wp2_with fail; exact FIN.out))
end
end Go.Proofs.YtojiffhknddleaaGreatDoor
