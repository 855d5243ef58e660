/-
  The document's lists: which texts are names, which versions may be put in, Put, by walks. It proves no statement by itself.
-/
import Derived.Test.YtojiffhknddleaaGreatDoorU43
import Derived.Test.YtojiffhknddleaaGreatDoorU39
import Derived.Test.YtojiffhknddleaaGreatDoorU35
namespace Go.Proofs.YtojiffhknddleaaGreatDoor
open Go.RowKit
open Go.Lib
open Md (Nm St)
set_option linter.unusedSimpArgs false
set_option linter.unusedVariables false
set_option linter.unusedSectionVars false
section
variable {F : Asn} {w : World} {R : Ending → World → Prop} {l : Nat} {vv vb : Value} {V : List Md.Ver} {B : List Md.Br}
theorem put_swap {v3 : Value} {V' : List Md.Ver} {P : Asn} (H : Sat (RowV v3 V' * (LAt l vv vb V B * (P * F))) w) : Sat (pts l (.cells #[vv, vb] 43 (0, 0)) * (RowV v3 V' * (RowB vb B * F))) w :=
  (H.of_eq (show _ = (P * RowV vv V) * (pts l (.cells #[vv, vb] 43 (0, 0)) * (RowV v3 V' * (RowB vb B * F))) from by unfold LAt; ac_rfl)).right
theorem lat_of (H : Sat (pts l (.cells #[vv, vb] 43 (0, 0)) * (RowV vv V * (RowB vb B * F))) w) : Sat (LAt l vv vb V B * F) w := H.of_eq (by unfold LAt; ac_rfl)
theorem lat_set0 {v3 : Value} {V' : List Md.Ver} (H : Sat (pts l (.cells #[vv, vb] 43 (0, 0)) * (RowV v3 V' * (RowB vb B * F))) w) : Sat (LAt l v3 vb V' B * F) (w.setCell ⟨l, 0, none⟩ v3) := lat_of (H.cell 0 v3)
theorem lat_set1 {v3 : Value} {B' : List Md.Br} (H : Sat (pts l (.cells #[vv, vb] 43 (0, 0)) * (RowV vv V * (RowB v3 B' * F))) w) : Sat (LAt l vv v3 V B' * F) (w.setCell ⟨l, 1, none⟩ v3) := lat_of (H.cell 1 v3)
theorem put_swapB {v3 : Value} {B' : List Md.Br} (H : Sat (RowB v3 B' * (LAt l vv vb V B * F)) w) : Sat (pts l (.cells #[vv, vb] 43 (0, 0)) * (RowV vv V * (RowB v3 B' * F))) w :=
  (H.of_eq (show _ = RowB vb B * (pts l (.cells #[vv, vb] 43 (0, 0)) * (RowV vv V * (RowB v3 B' * F))) from by unfold LAt; ac_rfl)).right
end
end Go.Proofs.YtojiffhknddleaaGreatDoor

/-
  The document's lists: which texts are names, by its walk. It proves no statement by itself.
-/
namespace Go.Proofs.YtojiffhknddleaaGreatDoor
open Go.RowKit
open Go.Lib
open Md (Nm St)
set_option linter.unusedSimpArgs false
set_option linter.unusedVariables false
set_option linter.unusedSectionVars false
section
variable {F : Asn} {w : World} {R : Ending → World → Prop}
set_option maxRecDepth 100000 in
set_option maxHeartbeats 4000000 in
theorem rname_any (s : ByteArray) (hsz : s.size ≤ 1000000) {d : Bool} (hd : Hid (d = Md.nameOk s)) (H : Sat F w) (h : ∀ w', Sat F w' → Io w w' → R (.returned (.bool d)) w') : Calls Tryz.prog 45 #[.string s] w R := by
  have HH := Lib.hid h
  clear h
  go_enter Tryz.func45, Tryz.ntmps45
  go_wp2_with fail
  go_loopw [3] (fun x wr => ∃ k : Nat, k ≤ s.size ∧ x = .int .i64 (k : Int) ∧ Hid (okTo s k) ∧ Sat F wr ∧ Io w wr) (fun x _ => s.size - (RowKit.intOf x).toNat)
  case atStart => exact ⟨0, by omega, rfl, Lib.hid (fun j _ hj => by omega), H, Io.refl _⟩
  case round =>
    obtain ⟨k, hk, rfl, ho, Hk, Ik⟩ := hrel
    by_cases hlt : k < s.size
    · have hlti : (k : Int) < (s.size : Int) := by omega
      have hk0 : (0 : Int) ≤ (k : Int) := by omega
      have hge : s.size ≤ 9223372036854775807 := by omega
      have HO : Hid (Md.okByte (s[k]'hlt) = true → okTo s (k + 1)) := Lib.hid (fun e j hj hjk => by
        by_cases e2 : j = k
        · subst e2; exact e
        · exact ho.out j hj (by omega))
      have HF : Hid (Md.okByte (s[k]'hlt) = false → d = false) := Lib.hid (fun e => by rw [hd.out]; exact nameOk_not hlt e)
      have HB : Hid (((97 ≤ ((s[k]'hlt).toNat : Int) ∧ ((s[k]'hlt).toNat : Int) ≤ 122) ∨ (48 ≤ ((s[k]'hlt).toNat : Int) ∧ ((s[k]'hlt).toNat : Int) ≤ 57) ∨ ((s[k]'hlt).toNat : Int) = 45) ↔ Md.okByte (s[k]'hlt) = true) := Lib.hid (by
        unfold Md.okByte
        simp only [decide_eq_true_eq]
        omega)
      go_upto_region 5 with fail
      generalize ((s[k]'hlt).toNat : Int) = b at *
      generalize Md.okByte (s[k]'hlt) = ok at *
      cases ok with
      | true =>
        have HN := Lib.hid (HO.out rfl)
        have hb := HB.out.2 rfl
        clear HO HF HB
        rcases hb with ⟨b1, b2⟩ | ⟨b1, b2⟩ | b1
        · have q1 : ¬ b < 97 := by omega
          have q2 : ¬ 122 < b := by omega
          clear b1 b2
          go_wp2_with fail
          go_roundw
          case rel => exact ⟨k + 1, by omega, by go_num, HN, Hk, Ik⟩
          case measure => simp [RowKit.intOf]; omega
        · have q1 : b < 97 := by omega
          have q2 : ¬ b < 48 := by omega
          have q3 : ¬ 57 < b := by omega
          clear b1 b2
          go_wp2_with fail
          go_roundw
          case rel => exact ⟨k + 1, by omega, by go_num, HN, Hk, Ik⟩
          case measure => simp [RowKit.intOf]; omega
        · have q1 : b < 97 := by omega
          have q2 : b < 48 := by omega
          subst b1
          go_wp2_with fail
          go_roundw
          case rel => exact ⟨k + 1, by omega, by go_num, HN, Hk, Ik⟩
          case measure => simp [RowKit.intOf]; omega
      | false =>
        have hn : ¬ ((97 ≤ b ∧ b ≤ 122) ∨ (48 ≤ b ∧ b ≤ 57) ∨ b = 45) := fun e => by have := HB.out.1 e; cases this
        obtain rfl := HF.out rfl
        clear HO HF HB
        have q3 : ¬ b = 45 := by omega
        by_cases q1 : b < 97
        · by_cases q2 : b < 48
          · clear hn
            go_wp2_with fail
            exact HH.out _ Hk Ik
          · have q4 : 57 < b := by omega
            clear hn
            go_wp2_with fail
            exact HH.out _ Hk Ik
        · have q2 : 122 < b := by omega
          have q4 : ¬ b < 48 := by omega
          have q5 : 57 < b := by omega
          clear hn
          go_wp2_with fail
          exact HH.out _ Hk Ik
    · obtain rfl : k = s.size := by omega
      have hge : ¬ (s.size : Int) < (s.size : Int) := by omega
      have he := nameOk_of ho.out
      rw [← hd.out] at he
      clear hd
      by_cases h1 : 1 ≤ (s.size : Int)
      · by_cases h2 : (s.size : Int) ≤ 12
        · obtain rfl : d = true := by rw [he]; exact decide_eq_true (by omega)
          clear he
          go_wp2_with fail
          exact HH.out _ Hk Ik
        · obtain rfl : d = false := by rw [he]; exact decide_eq_false (by omega)
          clear he
          go_wp2_with fail
          exact HH.out _ Hk Ik
      · obtain rfl : d = false := by rw [he]; exact decide_eq_false (by omega)
        clear he
        go_wp2_with fail
        exact HH.out _ Hk Ik
end
end Go.Proofs.YtojiffhknddleaaGreatDoor

/-
  The document's lists: Make, Move, Drop, by walks. It proves no statement by itself.
-/
namespace Go.Proofs.YtojiffhknddleaaGreatDoor
open Go.RowKit
open Go.Lib
open Md (Nm St)
set_option linter.unusedSimpArgs false
set_option linter.unusedVariables false
set_option linter.unusedSectionVars false
theorem dcellsOf_set {α : Type} {enc : α → List Value} {sz : Nat} (he : Enc enc sz) : ∀ (l : List α) (k : Nat) (hk : k < l.length) (i : Nat) (hi : i < sz) (y : α) (u : Value), enc y = (enc l[k]).set i u → (cellsOf enc l).set (k * sz + i) u = cellsOf enc (l.set k y)
  | x :: l, 0, hk, i, hi, y, u, h => by
    unfold cellsOf
    simp only [List.flatMap_cons, List.set_cons_zero, Nat.zero_mul, Nat.zero_add]
    rw [List.set_append_left _ _ (by rw [he.len]; exact hi), h]
    rfl
  | x :: l, k + 1, hk, i, hi, y, u, h => by
    have := dcellsOf_set he l k (by simpa using hk) i hi y u h
    unfold cellsOf at this ⊢
    simp only [List.flatMap_cons, List.set_cons_succ]
    have e : (k + 1) * sz = k * sz + sz := Nat.succ_mul k sz
    rw [List.set_append_right _ _ (by rw [he.len]; omega), he.len, show (k + 1) * sz + i - sz = k * sz + i from by omega, this]
theorem drowOf_shape_ne {α : Type} {enc : α → List Value} {sz : Nat} {e : TypeId} {v : Value} {l : List α} {F : Asn} {w : World} (hl : l ≠ []) (H : Sat (RowOf e sz enc v l * F) w) : ∃ g c, v = .slice (some ⟨g, 0, none⟩) l.length c := by
  obtain ⟨hx, ⟨rfl, h0, _⟩ | ⟨g, cap, cur, rfl, h2, h3, h4, h5, _⟩⟩ := sat_row.1 H
  · exact absurd (List.eq_nil_of_length_eq_zero h0) hl
  · exact ⟨_, _, rfl⟩
theorem drowOf_set {α : Type} {enc : α → List Value} {sz : Nat} (he : Enc enc sz) {e : TypeId} {g n c : Nat} {l : List α} {F : Asn} {w : World} (H : Sat (RowOf e sz enc (.slice (some ⟨g, 0, none⟩) n c) l * F) w) (k : Nat) (hk : k < l.length) (i : Nat) (hi : i < sz) (y : α) (u : Value) (h : enc y = (enc l[k]).set i u) :
    Sat (RowOf e sz enc (.slice (some ⟨g, 0, none⟩) n c) (l.set k y) * F) (w.setCell ⟨g, k * sz + i, none⟩ u) := by
  have hn : n = l.length := row_len' H
  subst hn
  have := row_store H (k * sz + i) u
  rw [dcellsOf_set he l k hk i hi y u h] at this
  unfold RowOf
  rw [List.length_set]
  exact this
where
  row_len' {n : Nat} {c : Nat} {g : Nat} {e : TypeId} {sz : Nat} {l : List α} {F : Asn} {w : World} (H : Sat (RowOf e sz enc (.slice (some ⟨g, 0, none⟩) n c) l * F) w) : n = l.length := by
    obtain ⟨hx, ⟨h0, _⟩ | ⟨g', cap, cur, e1, _⟩⟩ := sat_row.1 H
    · cases h0
    · cases e1; rfl
section
variable {F : Asn} {w : World} {R : Ending → World → Prop} {l : Nat} {vv vb : Value} {V : List Md.Ver} {B : List Md.Br}
set_option maxRecDepth 100000 in
set_option maxHeartbeats 8000000 in
theorem rmake_any (n : Nm) (head : Int) (hsz : n.size ≤ 1000000) (hV : V.length ≤ 100000) (hB : B.length ≤ 100000) {e : Int} {B' : List Md.Br} (hm : Hid (Md.mk V B n head = (e, B'))) (H : Sat (LAt l vv vb V B * F) w)
    (h : ∀ vb' w', Sat (LAt l vv vb' V B' * F) w' → Io w w' → R (.returned (.int .i64 e)) w') :
    Calls Tryz.prog 18 #[lptr l, .string n, .int .i64 head] w R := by
  obtain ⟨_, a, c, rfl⟩ := LAt.shape H
  have HC := Lib.hid (fun G W (hW : Sat (LAt l vv (.slice a B.length c) V B * G) W) => LAt.cells hW)
  have HV := Lib.hid (fun k hk => dreadsB_get (LAt.readB H (by omega)) k hk)
  have HH := Lib.hid h
  clear h
  obtain ⟨d1, hd1⟩ : ∃ d, d = Md.nameOk n := ⟨_, rfl⟩
  have HD1 := Lib.hid hd1
  obtain ⟨b2, hb2⟩ : ∃ d, d = Md.bnum B n := ⟨_, rfl⟩
  have HB2 := Lib.hid hb2
  obtain ⟨v3, hv3⟩ : ∃ d, d = Md.vnum V head := ⟨_, rfl⟩
  have HV3 := Lib.hid hv3
  cases d1 with
  | false =>
    obtain ⟨rfl, rfl⟩ : e = 193 ∧ B' = B := by have := hm.out; unfold Md.mk at this; rw [if_pos hd1.symm] at this; cases this; exact ⟨rfl, rfl⟩
    clear hd1 hb2 hv3 HV
    go_enter Tryz.func18, Tryz.ntmps18
    go_wp2_with (go_at_call 45; with_reducible refine rname_any n hsz HD1 H ?_; intro w1 H1 I1)
    exact HH.out _ _ H1 I1
  | true =>
    have m1 := hm.out
    unfold Md.mk at m1
    rw [if_neg (by rw [← hd1]; simp)] at m1
    by_cases h2 : Md.bplace B n < B.length
    · rw [if_pos h2] at m1
      cases m1
      have hb3 : ¬ b2 < 0 := by rw [hb2]; unfold Md.bnum; rw [if_pos h2]; omega
      have hb4 : 0 ≤ b2 := by omega
      clear hd1 hb2 hv3 HV h2
      go_enter Tryz.func18, Tryz.ntmps18
      go_wp2_with (first
        | (go_at_call 45; with_reducible refine rname_any n hsz HD1 H ?_; intro w1 H1 I1)
        | (go_at_call 46; with_reducible refine rbranch_any n (by omega) H1 HB2 ?_; intro w2 H2 I2))
      exact HH.out _ _ H2 (I1.trans I2)
    · rw [if_neg h2] at m1
      obtain rfl : b2 = -1 := by rw [hb2]; unfold Md.bnum; rw [if_neg h2]
      by_cases h3 : Md.vplace V head < V.length
      · rw [if_neg (by simpa using h3)] at m1
        have hv4 : ¬ v3 < 0 := by rw [hv3]; unfold Md.vnum; rw [if_pos h3]; omega
        by_cases h4 : 64 ≤ B.length
        · rw [if_pos h4] at m1
          cases m1
          have h4i : (64 : Int) ≤ (B.length : Int) := by omega
          clear hd1 hb2 hv3 HV h2 h3
          go_enter Tryz.func18, Tryz.ntmps18
          go_wp2_with (first
            | (go_at_call 45; with_reducible refine rname_any n hsz HD1 H ?_; intro w1 H1 I1)
            | (go_at_call 46; with_reducible refine rbranch_any n (by omega) H1 HB2 ?_; intro w2 H2 I2)
            | (go_at_call 44; with_reducible refine rfind_any head (by omega) H2 HV3 ?_; intro w3 H3 I3; obtain ⟨c0, c1⟩ := HC.out _ _ H3))
          exact HH.out _ _ H3 ((I1.trans I2).trans I3)
        · rw [if_neg h4] at m1
          cases m1
          have h4i : ¬ (64 : Int) ≤ (B.length : Int) := by omega
          obtain ⟨q, hq⟩ : ∃ q, q = Md.bput B n := ⟨_, rfl⟩
          have HQ := Lib.hid hq
          have HNN : Hid (∀ b ∈ B, b.name ≠ n) := Lib.hid (fun b hb e => h2 (Md.bplace_lt.2 ⟨b, hb, e⟩))
          have hql : q ≤ B.length := by rw [hq]; exact Md.bput_le B n
          rw [← hq] at HH
          clear hd1 hb2 hv3 h2 h3 hq
          go_enter Tryz.func18, Tryz.ntmps18
          go_wp2_with (first
            | (go_at_call 45; with_reducible refine rname_any n hsz HD1 H ?_; intro w1 H1 I1)
            | (go_at_call 46; with_reducible refine rbranch_any n (by omega) H1 HB2 ?_; intro w2 H2 I2)
            | (go_at_call 44; with_reducible refine rfind_any head (by omega) H2 HV3 ?_; intro w3 H3 I3; obtain ⟨c0, c1⟩ := HC.out _ _ H3))
          have K3 : Sat (RowB (.slice none 0 0) (Md.binsTo B ⟨n, head⟩ q 0) * (LAt l vv (.slice a B.length c) V B * F)) w3 := rowOf_nil H3
          have J3 := (I1.trans I2).trans I3
          clear H1 H2 H3 I1 I2 I3 c0 c1
          go_loopw [8, 9, 10] (fun y z x wr => ∃ (k : Nat) (d : Bool), k ≤ B.length ∧ x = .int .i64 (k : Int) ∧ z = .bool d ∧ Hid (d = decide (q < k)) ∧ Sat (RowB y (Md.binsTo B ⟨n, head⟩ q k) * (LAt l vv (.slice a B.length c) V B * F)) wr ∧ Io w wr) (fun _ _ x _ => B.length - (RowKit.intOf x).toNat)
          case atStart => exact ⟨0, false, by omega, rfl, rfl, Lib.hid (by simp), K3, J3⟩
          case round =>
            obtain ⟨k, d, hk, rfl, rfl, hs, Hk, Ik⟩ := hrel
            clear K3 J3
            obtain ⟨c0, c1⟩ := HC.out _ _ Hk.right
            have hlen := Md.binsTo_len B ⟨n, head⟩ q k
            by_cases hlt : k < B.length
            · have hlti : (k : Int) < (B.length : Int) := by omega
              have hk0 : (0 : Int) ≤ (k : Int) := by omega
              obtain ⟨b, off, nm, hd, rfl, hx, hc⟩ := HV.out k hlt
              obtain ⟨g0, g1⟩ := hc wr Hk.right
              rcases Nat.lt_trichotomy k q with hkq | hkq | hkq
              · obtain rfl : d = false := by rw [hs.out]; exact decide_eq_false (by omega)
                have e1 : Op.bytesLess nm.toList n.toList = true := by
                  have h5 := Md.bput_lo (B := B) (n := n) (by rw [← HQ.out]; exact hkq) hlt
                  have h6 := HNN.out _ (List.getElem_mem hlt)
                  rw [hx] at h5 h6
                  cases h7 : Md.nlt nm n with
                  | true => exact h7
                  | false => exact absurd (nlt_total h7 h5) h6
                have HS : Hid (Md.binsTo B ⟨n, head⟩ q (k + 1) = Md.binsTo B ⟨n, head⟩ q k ++ [⟨nm, hd⟩]) := Lib.hid (by rw [Md.binsTo_lo hkq hlt, hx])
                have HT : Hid (false = decide (q < k + 1)) := Lib.hid (decide_eq_false (by omega)).symm
                clear hc hx hs
                go_wp2_with (at_builtin; refine wpList_append_rec Tryz.rowB encBr_ok rfl (.tmp 58) (.tmp 66) rfl rfl Hk (by omega) ⟨nm, hd⟩ rfl rfl ?_; intro v3 w3 H3 I3)
                go_roundw
                case rel => exact ⟨k + 1, false, by omega, by go_num, rfl, HT, by rw [HS.out]; exact H3, Ik.trans I3⟩
                case measure => simp [RowKit.intOf]; omega
              · subst hkq
                obtain rfl : d = false := by rw [hs.out]; exact decide_eq_false (by omega)
                have h5 := Md.bput_at (B := B) (n := n) (by rw [← HQ.out]; exact hlt)
                simp only [← HQ.out] at h5
                have h6 := HNN.out _ (List.getElem_mem hlt)
                rw [hx] at h5 h6
                have e1 : Op.bytesLess nm.toList n.toList = false := nlt_asym h5
                have e2 : ¬ nm.toList = n.toList := fun e => h6 (nm_ext e)
                have e3 : (nm.toList == n.toList) = false := by simpa using e2
                have HS : Hid (Md.binsTo B ⟨n, head⟩ k (k + 1) = Md.binsTo B ⟨n, head⟩ k k ++ [⟨n, head⟩] ++ [⟨nm, hd⟩]) := Lib.hid (by rw [Md.binsTo_at hlt, hx])
                have HT : Hid (true = decide (k < k + 1)) := Lib.hid (decide_eq_true (by omega)).symm
                have HCC := Lib.hid hc
                clear hc hx hs h5 h6
                go_wp2_with (at_builtin; first
                  | (refine wpList_append_rec Tryz.rowB encBr_ok rfl (.tmp 52) (.tmp 56) rfl rfl Hk (by omega) (⟨n, head⟩ : Md.Br) rfl rfl ?_; intro v3 w3 H3 I3; obtain ⟨d0, d1⟩ := HC.out _ _ H3.right; obtain ⟨y0, y1⟩ := HCC.out w3 H3.right)
                  | (refine wpList_append_rec Tryz.rowB encBr_ok rfl (.tmp 58) (.tmp 66) rfl rfl H3 (by rw [List.length_append, List.length_singleton]; omega) ⟨nm, hd⟩ rfl rfl ?_; intro v4 w4 H4 I4))
                go_roundw
                case rel => exact ⟨k + 1, true, by omega, by go_num, rfl, HT, by rw [HS.out]; exact H4, (Ik.trans I3).trans I4⟩
                case measure => simp [RowKit.intOf]; omega
              · obtain rfl : d = true := by rw [hs.out]; exact decide_eq_true (by omega)
                have HS : Hid (Md.binsTo B ⟨n, head⟩ q (k + 1) = Md.binsTo B ⟨n, head⟩ q k ++ [⟨nm, hd⟩]) := Lib.hid (by rw [Md.binsTo_hi hkq hlt, hx])
                have HT : Hid (true = decide (q < k + 1)) := Lib.hid (decide_eq_true (by omega)).symm
                clear hc hx hs
                go_wp2_with (at_builtin; refine wpList_append_rec Tryz.rowB encBr_ok rfl (.tmp 58) (.tmp 66) rfl rfl Hk (by omega) ⟨nm, hd⟩ rfl rfl ?_; intro v3 w3 H3 I3)
                go_roundw
                case rel => exact ⟨k + 1, true, by omega, by go_num, rfl, HT, by rw [HS.out]; exact H3, Ik.trans I3⟩
                case measure => simp [RowKit.intOf]; omega
            · obtain rfl : k = B.length := by omega
              have hge : ¬ (B.length : Int) < (B.length : Int) := by omega
              clear HV
              by_cases hqe : q = B.length
              · obtain rfl : d = false := by rw [hs.out]; exact decide_eq_false (by omega)
                have HE := Lib.hid (Md.binsTo_end2 (x := ⟨n, head⟩) hqe)
                rw [← HE.out] at HH
                clear hs hqe
                go_wp2_with (at_builtin; refine wpList_append_rec Tryz.rowB encBr_ok rfl (.tmp 70) (.tmp 74) rfl rfl Hk (by omega) ⟨n, head⟩ rfl rfl ?_; intro v3 w3 H3 I3; obtain ⟨a3, c3, e3⟩ := rowOf_shape H3; generalize (Md.binsTo B ⟨n, head⟩ q B.length ++ [⟨n, head⟩]) = B2 at *; subst e3; obtain ⟨d0, d1⟩ := HC.out _ _ H3.right; have K3 := put_swapB H3; have fr := Sat.free K3.left.at 1; have K4 := lat_set1 K3; have I4 := (Ik.trans I3).setCell ⟨l, 1, none⟩ (.slice a3 B2.length c3))
                exact HH.out _ _ K4 I4
              · obtain rfl : d = true := by rw [hs.out]; exact decide_eq_true (by omega)
                have HE := Lib.hid (Md.binsTo_end (x := ⟨n, head⟩) (show q < B.length by omega))
                rw [← HE.out] at HH
                obtain ⟨a3, c3, e3⟩ := rowOf_shape Hk
                generalize Md.binsTo B ⟨n, head⟩ q B.length = B2 at *
                subst e3
                have K3 := put_swapB Hk
                have fr := Sat.free K3.left.at 1
                have K4 := lat_set1 K3
                have I4 := Ik.setCell ⟨l, 1, none⟩ (.slice a3 B2.length c3)
                clear hs hqe
                go_wp2_with fail
                exact HH.out _ _ K4 I4
      · rw [if_pos h3] at m1
        cases m1
        obtain rfl : v3 = -1 := by rw [hv3]; unfold Md.vnum; rw [if_neg h3]
        clear hd1 hb2 hv3 HV h2 h3
        go_enter Tryz.func18, Tryz.ntmps18
        go_wp2_with (first
          | (go_at_call 45; with_reducible refine rname_any n hsz HD1 H ?_; intro w1 H1 I1)
          | (go_at_call 46; with_reducible refine rbranch_any n (by omega) H1 HB2 ?_; intro w2 H2 I2)
          | (go_at_call 44; with_reducible refine rfind_any head (by omega) H2 HV3 ?_; intro w3 H3 I3))
        exact HH.out _ _ H3 ((I1.trans I2).trans I3)
end
end Go.Proofs.YtojiffhknddleaaGreatDoor

/-
  The document's lists: Move, Drop, by walks. It proves no statement by itself.
-/
namespace Go.Proofs.YtojiffhknddleaaGreatDoor
open Go.RowKit
open Go.Lib
open Md (Nm St)
set_option linter.unusedSimpArgs false
set_option linter.unusedVariables false
set_option linter.unusedSectionVars false
section
variable {F : Asn} {w : World} {R : Ending → World → Prop} {l : Nat} {vv vb : Value} {V : List Md.Ver} {B : List Md.Br}
theorem dput_swap {v3 : Value} {V' : List Md.Ver} (H : Sat (RowV v3 V' * (LAt l vv vb V B * F)) w) : Sat (pts l (.cells #[vv, vb] 43 (0, 0)) * (RowV v3 V' * (RowB vb B * F))) w :=
  (H.of_eq (show _ = RowV vv V * (pts l (.cells #[vv, vb] 43 (0, 0)) * (RowV v3 V' * (RowB vb B * F))) from by unfold LAt; ac_rfl)).right
set_option maxRecDepth 100000 in
set_option maxHeartbeats 8000000 in
theorem rmove_any (n : Nm) (head : Int) (hV : V.length ≤ 100000) (hB : B.length ≤ 100000) (h1 : Md.bplace B n < B.length) (h2 : Md.vplace V head < V.length) (H : Sat (LAt l vv vb V B * F) w)
    (h : ∀ vb' w', Sat (LAt l vv vb' V (B.set (Md.bplace B n) ⟨n, head⟩) * F) w' → Io w w' → R (.returned (.int .i64 0)) w') :
    Calls Tryz.prog 20 #[lptr l, .string n, .int .i64 head] w R := by
  obtain ⟨_, a, c, rfl⟩ := LAt.shape H
  have HC := Lib.hid (fun G W (hW : Sat (LAt l vv (.slice a B.length c) V B * G) W) => LAt.cells hW)
  have HR := Lib.hid (LAt.readB H (by omega))
  have HH := Lib.hid h
  clear h
  have hB2 : Hid ((Md.bplace B n : Int) = Md.bnum B n) := Lib.hid (by unfold Md.bnum; rw [if_pos h1])
  have hV3 : Hid ((Md.vplace V head : Int) = Md.vnum V head) := Lib.hid (by unfold Md.vnum; rw [if_pos h2])
  have hne : B ≠ [] := by rintro rfl; simp at h1
  have hnm := Md.bplace_get h1
  generalize Md.vplace V head = p at *
  generalize Md.bplace B n = q at *
  have hp : ¬ (p : Int) < 0 := by omega
  have hq : ¬ (q : Int) < 0 := by omega
  have hq0 : (0 : Int) ≤ (q : Int) := by omega
  have hql : (q : Int) < (B.length : Int) := by omega
  have hen : encBr ⟨n, head⟩ = (encBr (B[q]'h1)).set 1 (.int .i64 head) := by unfold encBr; rw [hnm]; rfl
  have HEN := Lib.hid hen
  clear hen hnm
  go_enter Tryz.func20, Tryz.ntmps20
  go_wp2_with (first
    | (go_at_call 46; with_reducible refine rbranch_any n (by omega) H hB2 ?_; intro w1 H1 I1)
    | (go_at_call 44; with_reducible refine rfind_any head (by omega) H1 hV3 ?_; intro w2 H2 I2; obtain ⟨c0, c1⟩ := HC.out _ _ H2; have K2 : Sat (RowB (.slice none 0 0) [] * (LAt l vv (.slice a B.length c) V B * F)) w2 := rowOf_nil H2)
    | (at_builtin; refine wpList_append_recs Tryz.rowB encBr_ok rfl (.tmp 18) (.tmp 22) rfl rfl K2 (by simp) (by omega) rfl HR.out ?_; intro v3 w3 H3 I3; rw [List.nil_append] at H3; obtain ⟨g, c3, e3⟩ := drowOf_shape_ne hne H3; subst e3; have fr1 := row_free H3 (q * 2 + 1); have H4 := drowOf_set encBr_ok H3 q h1 1 (by omega) ⟨n, head⟩ (.int .i64 head) HEN.out; have I4 := ((I1.trans I2).trans I3).setCell ⟨g, q * 2 + 1, none⟩ (.int .i64 head); have cs := row_read H3 (q * 2 + 1) (.int .i64 (B[q]'h1).head) (by rw [cellsOf_get encBr_ok B q h1 1 (by omega)]; rfl); obtain ⟨d0, d1⟩ := HC.out _ _ H4.right; have K4 := put_swapB H4; have fr2 := Sat.free K4.left.at 1; have K5 := lat_set1 K4; have I5 := I4.setCell ⟨l, 1, none⟩ (.slice (some ⟨g, 0, none⟩) B.length c3)))
  exact HH.out _ _ K5 I5
set_option maxRecDepth 100000 in
set_option maxHeartbeats 8000000 in
theorem rdrop_any (id : Int) (hV : V.length ≤ 100000) (hB : B.length ≤ 100000) {e : Int} {V' : List Md.Ver} (hm : Hid (Md.drp V B id = (e, V'))) (H : Sat (LAt l vv vb V B * F) w)
    (h : ∀ vv' w', Sat (LAt l vv' vb V' B * F) w' → Io w w' → R (.returned (.int .i64 e)) w') :
    Calls Tryz.prog 17 #[lptr l, .int .i64 id] w R := by
  obtain ⟨⟨a, c, rfl⟩, a', c', rfl⟩ := LAt.shape H
  have HC := Lib.hid (fun G W (hW : Sat (LAt l (.slice a V.length c) (.slice a' B.length c') V B * G) W) => LAt.cells hW)
  have HB := Lib.hid (fun k hk => dreadsB_get (LAt.readB H (by omega)) k hk)
  have HV := Lib.hid (fun k hk => dreadsV_get (LAt.readV H (by omega)) k hk)
  have HH := Lib.hid h
  clear h
  obtain ⟨v3, hv3⟩ : ∃ d, d = Md.vnum V id := ⟨_, rfl⟩
  have HV3 := Lib.hid hv3
  by_cases h3 : Md.vplace V id < V.length
  · have hv4 : ¬ v3 < 0 := by rw [hv3]; unfold Md.vnum; rw [if_pos h3]; omega
    have HM : Hid (if B.any (fun b => decide (b.head = id)) then (e, V') = (194, V) else (e, V') = (0, V.filter fun v => !decide (v.id = id))) := Lib.hid (by
      have := hm.out
      unfold Md.drp at this
      rw [if_neg (by simpa using h3)] at this
      rw [← this]
      split
      · rfl
      · rfl)
    clear hv3 h3 hm
    go_enter Tryz.func17, Tryz.ntmps17
    go_wp2_with (go_at_call 44; with_reducible refine rfind_any id (by omega) H HV3 ?_; intro w1 H1 I1; obtain ⟨c0, c1⟩ := HC.out _ _ H1)
    clear c0 c1
    go_loopw [5] (fun x wr => ∃ (k : Nat), k ≤ B.length ∧ x = .int .i64 (k : Int) ∧ Hid (∀ (j : Nat) (hj : j < B.length), j < k → ¬ B[j].head = id) ∧ Sat (LAt l (.slice a V.length c) (.slice a' B.length c') V B * F) wr ∧ Io w wr) (fun x _ => B.length - (RowKit.intOf x).toNat)
    case atStart => exact ⟨0, by omega, rfl, Lib.hid (fun j hj h0 => absurd h0 (by omega)), H1, I1⟩
    case round =>
      obtain ⟨k, hk, rfl, hs, Hk, Ik⟩ := hrel
      clear H1 I1
      obtain ⟨c0, c1⟩ := HC.out _ _ Hk
      by_cases hlt : k < B.length
      · have hlti : (k : Int) < (B.length : Int) := by omega
        have hk0 : (0 : Int) ≤ (k : Int) := by omega
        obtain ⟨b, off, nm, hd, rfl, hx, hc⟩ := HB.out k hlt
        obtain ⟨g0, g1⟩ := hc wr Hk
        by_cases he : hd = id
        · subst he
          obtain ⟨rfl, rfl⟩ : e = 194 ∧ V' = V := by
            have := HM.out
            rw [if_pos (List.any_eq_true.2 ⟨B[k], List.getElem_mem hlt, by rw [hx]; simp⟩)] at this
            cases this; exact ⟨rfl, rfl⟩
          clear hc hx hs HV
          go_wp2_with fail
          exact HH.out _ _ Hk Ik
        · have hs' : Hid (∀ (j : Nat) (hj : j < B.length), j < k + 1 → ¬ B[j].head = id) := Lib.hid (fun j hj h1 => by
            by_cases e2 : j = k
            · subst e2; rw [hx]; exact he
            · exact hs.out j hj (by omega))
          clear hc hx hs HV
          go_wp2_with fail
          go_roundw
          case rel => exact ⟨k + 1, by omega, by go_num, hs', Hk, Ik⟩
          case measure => simp [RowKit.intOf]; omega
      · obtain rfl : k = B.length := by omega
        have hge : ¬ (B.length : Int) < (B.length : Int) := by omega
        obtain ⟨rfl, rfl⟩ : e = 0 ∧ V' = V.filter fun v => !decide (v.id = id) := by
          have := HM.out
          rw [if_neg (by
            rw [Bool.not_eq_true, List.any_eq_false]
            intro b hb
            obtain ⟨j, hj, e2⟩ := List.mem_iff_getElem.1 hb
            rw [← e2]
            simpa using hs.out j hj hj)] at this
          cases this; exact ⟨rfl, rfl⟩
        clear HB hs HM
        go_wp2_with fail
        clear c0 c1
        have K3 : Sat (RowV (.slice none 0 0) ((V.take 0).filter fun v => !decide (v.id = id)) * (LAt l (.slice a V.length c) (.slice a' B.length c') V B * F)) wr := rowOf_nil Hk
        go_loopw [6, 7] (fun y x wr => ∃ (k : Nat), k ≤ V.length ∧ x = .int .i64 (k : Int) ∧ Sat (RowV y ((V.take k).filter fun v => !decide (v.id = id)) * (LAt l (.slice a V.length c) (.slice a' B.length c') V B * F)) wr ∧ Io w wr) (fun _ x _ => V.length - (RowKit.intOf x).toNat)
        case atStart => exact ⟨0, by omega, rfl, K3, Ik⟩
        case round =>
          obtain ⟨k, hk, rfl, Hk, Ik⟩ := hrel
          clear K3
          obtain ⟨c0, c1⟩ := HC.out _ _ Hk.right
          have hlen : ((V.take k).filter fun v => !decide (v.id = id)).length ≤ V.length := by
            have := List.length_filter_le (fun v : Md.Ver => !decide (v.id = id)) (V.take k)
            rw [List.length_take] at this
            omega
          by_cases hlt : k < V.length
          · have hlti : (k : Int) < (V.length : Int) := by omega
            have hk0 : (0 : Int) ≤ (k : Int) := by omega
            obtain ⟨b, off, x1, x2, x3, x4, rfl, hx, hc⟩ := HV.out k hlt
            obtain ⟨g0, g1, g2, g3⟩ := hc wr Hk.right
            have HS : Hid ((V.take (k + 1)).filter (fun v => !decide (v.id = id)) = (V.take k).filter (fun v => !decide (v.id = id)) ++ if x1 = id then [] else [⟨x1, x2, x3, x4⟩]) := Lib.hid (by
              rw [List.take_succ_eq_append_getElem hlt, List.filter_append, hx]
              by_cases e2 : x1 = id <;> simp [e2])
            by_cases he : x1 = id
            · have hb : (x1 != id) = false := by simp [he]
              rw [if_pos he, List.append_nil] at HS
              clear hc hx
              go_wp2_with fail
              go_roundw
              case rel => exact ⟨k + 1, by omega, by go_num, by rw [HS.out]; exact Hk, Ik⟩
              case measure => simp [RowKit.intOf]; omega
            · have hb : (x1 != id) = true := by simp [he]
              rw [if_neg he] at HS
              clear hc hx
              go_wp2_with (at_builtin; refine wpList_append_rec Tryz.rowV encV4_ok rfl (.tmp 50) (.tmp 58) rfl rfl Hk (by omega) ⟨x1, x2, x3, x4⟩ rfl rfl ?_; intro v3 w3 H3 I3)
              go_roundw
              case rel => exact ⟨k + 1, by omega, by go_num, by rw [HS.out]; exact H3, Ik.trans I3⟩
              case measure => simp [RowKit.intOf]; omega
          · obtain rfl : k = V.length := by omega
            have hge : ¬ (V.length : Int) < (V.length : Int) := by omega
            rw [List.take_length] at Hk
            obtain ⟨a3, c3, e3⟩ := rowOf_shape Hk
            clear HV hlen
            generalize (V.filter fun v => !decide (v.id = id)) = V2 at *
            subst e3
            have K3 := dput_swap Hk
            have fr := Sat.free K3.left.at 0
            have K4 := lat_set0 K3
            have I4 := Ik.setCell ⟨l, 0, none⟩ (.slice a3 V2.length c3)
            go_wp2_with fail
            exact HH.out _ _ K4 I4
  · obtain ⟨rfl, rfl⟩ : e = 190 ∧ V' = V := by have := hm.out; unfold Md.drp at this; rw [if_pos h3] at this; cases this; exact ⟨rfl, rfl⟩
    obtain rfl : v3 = -1 := by rw [hv3]; unfold Md.vnum; rw [if_neg h3]
    clear hv3 HB HV h3
    go_enter Tryz.func17, Tryz.ntmps17
    go_wp2_with (go_at_call 44; with_reducible refine rfind_any id (by omega) H HV3 ?_; intro w1 H1 I1)
    exact HH.out _ _ H1 I1
end
end Go.Proofs.YtojiffhknddleaaGreatDoor
