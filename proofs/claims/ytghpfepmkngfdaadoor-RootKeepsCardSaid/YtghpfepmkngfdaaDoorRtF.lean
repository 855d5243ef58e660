/-
  Roots and their bytes: what the document's Encode does, by its walk. It proves no statement by itself.
-/
import Derived.Test.YtghpfepmkngfdaaDoorRtP
namespace Go.Proofs.YtghpfepmkngfdaaDoor
open Go.RowKit
set_option linter.unusedSimpArgs false
set_option linter.unusedVariables false

/-- The texts of numbers, one behind the other. -/
def rtexts : List Int → List UInt8
  | [] => []
  | n :: l => (rputS 4 n).data.toList ++ rtexts l
theorem rtexts_snoc (n : Int) : ∀ l, rtexts (l ++ [n]) = rtexts l ++ (rputS 4 n).data.toList
  | [] => by simp [rtexts]
  | m :: l => by simp [rtexts, rtexts_snoc n l]
theorem rputS_len (n : Int) : (rputS 4 n).data.toList.length ≤ 4 := by
  unfold rputS
  split
  · rw [tx_list, be_length]; omega
  · simp
theorem rtexts_len : ∀ l, (rtexts l).length ≤ 4 * l.length
  | [] => by simp [rtexts]
  | n :: l => by have h1 := rtexts_len l; have h2 := rputS_len n; simp only [rtexts, List.length_append, List.length_cons]; omega

def Rt.nums (r : Rt) : List Int := [r.e, r.p, r.c, r.f, r.n]
theorem Rt.good_all (r : Rt) : r.good = (!(decide (r.e = 0)) && r.nums.all (fits 4)) := by simp [Rt.good, Rt.nums]
theorem Rt.head_texts {r : Rt} (h : r.good = true) : rtexts r.nums = r.head := by
  obtain ⟨_, h1, h2, h3, h4, h5⟩ := Rt.good_parts h
  have u : ∀ n : Int, fits 4 n = true → (rputS 4 n).data.toList = be 4 n.toNat := by
    intro n hn
    unfold rputS
    rw [if_pos (Rt.of_fits hn).1, tx_list]
  simp only [Rt.nums, rtexts, u _ h1, u _ h2, u _ h3, u _ h4, u _ h5]
  simp [Rt.head]

section
variable {F : Asn} {w : World} {R : Ending → World → Prop}

theorem rput4 (n : Int) (hn1 : n ≤ 9223372036854775807) (H : Sat F w) (h : ∀ w', Sat F w' → Io w w' → R (.returned (.tuple #[.string (rputS 4 n), .bool (fits 4 n)])) w') :
    Calls Tryd.prog 27 #[.int .i64 4, .int .i64 n] w R := rput_any 4 (.inr (.inr rfl)) n hn1 H h

set_option maxRecDepth 100000 in
set_option maxHeartbeats 2000000 in
theorem renc_any (H : Sat F w) (r : Rt) (hb : ∀ n ∈ r.nums, n ≤ 9223372036854775807) (h : ∀ w', Sat F w' → Io w w' → R (.returned (.tuple #[.string r.encS, .bool r.good])) w') :
    Calls Tryd.prog 11 #[r.val] w R := by
  have hbe := Lib.hid (hb r.e (by simp [Rt.nums]))
  have hgood := r.good_all
  have hhead := @Rt.head_texts r
  have HH : Hid (∀ w', Sat F w' → Io w w' → R (.returned (.tuple #[.string r.encS, .bool r.good])) w') := Lib.hid h
  clear h
  have e0 : r.val = .agg #[.int .i64 r.e, .int .i64 r.p, .int .i64 r.c, .int .i64 r.f, .int .i64 r.n] := rfl
  have en : r.nums = [r.e, r.p, r.c, r.f, r.n] := rfl
  have HB := Lib.hid hb
  have HG := Lib.hid hgood
  have HD := Lib.hid hhead
  have EN := Lib.hid en
  rw [e0]
  clear hb hgood hhead en e0
  have ebody : r.body = r.head ++ noughts 228 := rfl
  have ebytes : r.bytes = r.body ++ be 4 (crcL r.body) ++ be 4 r.e.toNat := rfl
  have EBO := Lib.hid ebody
  have EBY := Lib.hid ebytes
  have hhl := Lib.hid r.head_length
  have hes : Hid (∀ b, r.good = b → r.encS = if b then tx r.bytes else ByteArray.empty) := Lib.hid (by intro b hb; unfold Rt.encS; rw [hb])
  clear ebody ebytes
  have hgp := Lib.hid (@Rt.good_parts r)
  generalize r.encS = rs at *
  generalize r.good = rg at *
  generalize r.bytes = rb at *
  generalize r.body = rbo at *
  generalize r.head = rh at *
  generalize r.nums = l at *
  generalize r.e = e at *
  generalize r.p = p at *
  generalize r.c = c at *
  generalize r.f = f at *
  generalize r.n = n at *
  have hl5 : l.length = 5 := by rw [EN.out]; rfl
  have H1 := (H.new (.cells #[.int .i64 e, .int .i64 p, .int .i64 c, .int .i64 f, .int .i64 n] 23)).new (.cells #[.int .i64 e, .int .i64 p, .int .i64 c, .int .i64 f, .int .i64 n] 3)
  have I1 := ((Io.refl w).alloc (.cells #[.int .i64 e, .int .i64 p, .int .i64 c, .int .i64 f, .int .i64 n] 23)).alloc (.cells #[.int .i64 e, .int .i64 p, .int .i64 c, .int .i64 f, .int .i64 n] 3)
  have hz : (w.alloc (.cells #[.int .i64 e, .int .i64 p, .int .i64 c, .int .i64 f, .int .i64 n] 23)).heap.size = w.heap.size + 1 := by simp
  rw [hz] at H1
  clear hz
  go_enter Tryd.func11, Tryd.ntmps11
  go_wp2_with fail
  generalize (w.alloc (.cells #[.int .i64 e, .int .i64 p, .int .i64 c, .int .i64 f, .int .i64 n] 23)).alloc (.cells #[.int .i64 e, .int .i64 p, .int .i64 c, .int .i64 f, .int .i64 n] 3) = w1 at *
  generalize w.heap.size + 1 = B at *
  generalize w.heap.size = A at *
  have HL := Lib.hid hl5
  clear hl5
  go_loopw [4, 5, 7] (fun s g i wr => ∃ j : Nat, j ≤ 5 ∧ s = .string (tx (rtexts (l.take j))) ∧ g = .bool (e != 0 && (l.take j).all (fits 4)) ∧ i = .int .i64 (j : Int) ∧
    Sat (pts B (.cells #[.int .i64 e, .int .i64 p, .int .i64 c, .int .i64 f, .int .i64 n] 3 (0, 0)) * (pts A (.cells #[.int .i64 e, .int .i64 p, .int .i64 c, .int .i64 f, .int .i64 n] 23 (0, 0)) * F)) wr ∧ Io w wr) (fun _ _ i _ => 5 - (intOf i).toNat)
  case atStart => exact ⟨0, by omega, rfl, by simp, rfl, H1, I1⟩
  case round =>
    obtain ⟨j, hj, rfl, rfl, rfl, Hj, Ij⟩ := hrel
    clear H1 I1 H
    by_cases hlt : j < 5
    · have hjl : j < l.length := by have := HL.out; omega
      have cj : wr.cell? ⟨B, j, none⟩ = some (.int .i64 l[j]) := by
        rw [Sat.read Hj.left.at]
        have e1 : (#[Value.int .i64 e, .int .i64 p, .int .i64 c, .int .i64 f, .int .i64 n] : Array Value) = (l.map (Value.int .i64)).toArray := by rw [EN.out]; rfl
        rw [e1]
        simp [hjl]
      have hxb := HB.out l[j] (List.getElem_mem hjl)
      have t1 : l.take (j + 1) = l.take j ++ [l[j]] := List.take_succ_eq_append_getElem hjl
      have t2 : rtexts (l.take (j + 1)) = rtexts (l.take j) ++ (rputS 4 l[j]).data.toList := by rw [t1, rtexts_snoc]
      have t3 : (l.take (j + 1)).all (fits 4) = ((l.take j).all (fits 4) && fits 4 l[j]) := by rw [t1, List.all_append]; simp
      have hlen := rtexts_len (l.take j)
      have hlen2 : (l.take j).length ≤ 5 := by rw [List.length_take]; omega
      have hl4 := rputS_len l[j]
      have hadd : ∀ W, (Op.stringOp .add (tx (rtexts (l.take j))) (rputS 4 l[j])).run Tryd.prog W = .ok (.string (tx (rtexts (l.take (j + 1))))) W := by
        intro W
        rw [run_string_add_sum W _ _ (by rw [tx_size]; have : (rputS 4 l[j]).size ≤ 4 := hl4; omega), t2, ← tx_append, tx_of]
      have lb := Hj.left.lt
      have hj' : (j : Int) < 5 := by omega
      have HXB := Lib.hid hxb
      have T3 := Lib.hid t3
      clear hlen hlen2 hl4 t1 t2 t3 hxb
      generalize ht1 : tx (rtexts (l.take (j + 1))) = s1 at *
      have HT1 := Lib.hid ht1
      clear ht1
      generalize tx (rtexts (l.take j)) = s0 at *
      generalize l[j] = x at *
      generalize (l.take j).all (fits 4) = ga at *
      generalize hg0 : (e != 0 && ga) = g0 at *
      cases g0 with
      | true =>
        have G0 := Lib.hid hg0
        clear hg0
        go_wp2_with (go_at_call 27; refine rput4 _ HXB.out Hj ?_; intro w2 H2 I2)
        go_roundw
        case rel => exact ⟨j + 1, by omega, by rw [HT1.out], by rw [T3.out, ← Bool.and_assoc, G0.out, Bool.true_and], by go_num, H2, Ij.trans I2⟩
        case measure => simp [intOf]; omega
      | false =>
        have G0 := Lib.hid hg0
        clear hg0
        go_wp2_with (go_at_call 27; refine rput4 _ HXB.out Hj ?_; intro w2 H2 I2)
        go_roundw
        case rel => exact ⟨j + 1, by omega, by rw [HT1.out], by rw [T3.out, ← Bool.and_assoc, G0.out, Bool.false_and], by go_num, H2, Ij.trans I2⟩
        case measure => simp [intOf]; omega
    · obtain rfl : j = 5 := by omega
      have tl : l.take 5 = l := List.take_of_length_le (by have := HL.out; omega)
      rw [tl]
      have eg : (e != 0 && l.all (fits 4)) = rg := by
        rw [HG.out]
        by_cases h0 : e = 0 <;> simp [h0]
      rw [eg]
      clear tl eg hlt hj
      have ca := Sat.read Hj.right.left.at 0
      have la := Hj.right.left.lt
      simp only [List.getElem?_toArray, List.getElem?_cons_zero] at ca
      cases hrg : rg with
      | false =>
        have fin := HH.out _ Hj.right.right Ij
        rw [hes.out false hrg, hrg] at fin
        clear HH HG HD hes hgp
        go_wp2_with fail
        exact fin
      | true =>
        have hgp2 := hgp.out hrg
        have F0 := Lib.hid hgp2.2.1
        have ht := HD.out hrg
        have hes2 := Lib.hid (hes.out true hrg)
        rw [ht]
        have HR := Lib.hid hrg
        clear hgp2 hgp HD HG hes ht hrg
        go_wp2_with fail
        go_loop [4] (fun s => ∃ k : Nat, k ≤ 228 ∧ s = .string (tx (rh ++ noughts k))) (fun s => match s with | .string s => 256 - s.size | _ => 0)
        case atStart => exact ⟨0, by omega, by simp [noughts]⟩
        case round =>
          obtain ⟨k, hk, rfl⟩ := hrel
          have hsz : (tx (rh ++ noughts k)).size = 20 + k := by rw [tx_size, List.length_append, noughts_length, hhl.out]
          by_cases hk2 : k < 228
          · have hsz1 : ((tx (rh ++ noughts k)).size : Int) < 248 := by omega
            have hsz2 : Hid ((tx (rh ++ noughts (k + 1))).size = 20 + (k + 1)) := Lib.hid (by rw [tx_size, List.length_append, noughts_length, hhl.out])
            have hadd : ∀ W, (Op.stringOp .add (tx (rh ++ noughts k)) ⟨#[0]⟩).run Tryd.prog W = .ok (.string (tx (rh ++ noughts (k + 1)))) W := by
              intro W
              rw [run_string_add_sum W _ _ (by rw [hsz]; show _ + 1 ≤ _; omega), show (⟨#[0]⟩ : ByteArray) = tx [0] from rfl, tx_append, List.append_assoc, noughts_snoc]
            have HS := Lib.hid hsz
            clear hsz
            generalize hu1 : tx (rh ++ noughts (k + 1)) = u1 at *
            have HU1 := Lib.hid hu1
            clear hu1
            generalize tx (rh ++ noughts k) = u0 at *
            go_wp2_with fail
            go_round
            case rel => exact ⟨k + 1, by omega, by rw [HU1.out]⟩
            case measure =>
              have h1 := HS.out
              have h2 := hsz2.out
              simp only [h1, h2]
              omega
          · obtain rfl : k = 228 := by omega
            rw [← EBO.out] at hsz ⊢
            have hsz1 : ¬ (((tx rbo).size : Int) < 248) := by omega
            have hsz3 : ((tx rbo).size : Int) ≤ 248 := by omega
            have hsz4 : (tx rbo).size ≤ 1000000 := by omega
            have hcf : fits 4 ((crcL rbo : Nat) : Int) = true := by
              have := crcL_lt rbo
              simp [fits]
              omega
            have hsum : Calls Tryd.prog 28 #[.string (tx rbo)] wr fun e w' => e = .returned (.int .i64 (crcL rbo : Nat)) ∧ wr = w' := rsum_any (R := fun e w' => e = .returned (.int .i64 (crcL rbo : Nat)) ∧ wr = w') (tx rbo) hsz4 ⟨rfl, rfl⟩
            have x1 : rputS 4 ((crcL rbo : Nat) : Int) = tx (be 4 (crcL rbo)) := by unfold rputS; rw [if_pos (by omega), Int.toNat_natCast]
            have x2 : rputS 4 e = tx (be 4 e.toNat) := by unfold rputS; rw [if_pos (Rt.of_fits F0.out).1]
            have hcb : ((crcL rbo : Nat) : Int) ≤ 9223372036854775807 := by have := crcL_lt rbo; omega
            obtain ⟨sb, SB⟩ : ∃ s, Hid (s = tx rbo) := ⟨_, Lib.hid rfl⟩
            rw [← SB.out] at hsz hsz1 hsz3 hsz4 hsum ⊢
            obtain ⟨sc, SC⟩ : ∃ s, Hid (s = tx (be 4 (crcL rbo))) := ⟨_, Lib.hid rfl⟩
            obtain ⟨se, SE⟩ : ∃ s, Hid (s = tx (be 4 e.toNat)) := ⟨_, Lib.hid rfl⟩
            have a1 : ∀ W, (Op.stringOp .add sb sc).run Tryd.prog W = .ok (.string (tx (rbo ++ be 4 (crcL rbo)))) W := by
              intro W
              rw [run_string_add_sum W _ _ (by rw [hsz, SC.out, tx_size, be_length]; omega), SB.out, SC.out, tx_append]
            have a2 : ∀ W, (Op.stringOp .add (tx (rbo ++ be 4 (crcL rbo))) se).run Tryd.prog W = .ok (.string (tx rb)) W := by
              intro W
              have hb : rbo.length = 248 := by have := hsz; rw [SB.out, tx_size] at this; omega
              rw [run_string_add_sum W _ _ (by rw [SE.out, tx_size, tx_size, be_length, List.length_append, be_length, hb]; omega), SE.out, tx_append, EBY.out]
            have X1 := Lib.hid x1
            have X2 := Lib.hid x2
            have HSUM := Lib.hid hsum
            have HCB := Lib.hid hcb
            have A1 := Lib.hid a1
            have A2 := Lib.hid a2
            clear x1 x2 hsum hsz a1 a2 hcb hsz4
            generalize tx (rbo ++ be 4 (crcL rbo)) = s2 at *
            generalize crcL rbo = cc at *
            go_wp2_with (go_at_call 28; refine HSUM.out.mono ?_; rintro x w' ⟨rfl, rfl⟩)
            refine rput4 _ HCB.out Hj ?_
            intro w3 H3 I3
            rw [X1.out, ← SC.out, hcf]
            clear HSUM HCB SC SB hcf
            have ca := Sat.read H3.right.left.at 0
            have la := H3.right.left.lt
            simp only [List.getElem?_toArray, List.getElem?_cons_zero] at ca
            go_wp2_with fail
            refine rput4 _ hbe.out H3 ?_
            intro w4 H4 I4
            rw [X2.out, ← SE.out]
            have a1 := A1.out
            have a2 := A2.out
            have fin := HH.out _ H4.right.right ((Ij.trans I3).trans I4)
            rw [hes2.out, HR.out] at fin
            simp only [if_true] at fin
            clear A1 A2 SE X1 X2 HH
            go_wp2_with fail
            exact fin
end
end Go.Proofs.YtghpfepmkngfdaaDoor
