/-
  Roots and their bytes: what Encode does, by its walk. It proves no statement by itself.
-/
import Derived.Test.YtghpfepmkngfdaaDoorRt
namespace Go.Proofs.YtghpfepmkngfdaaDoor
open Go.RowKit
set_option linter.unusedSimpArgs false
set_option linter.unusedVariables false

section
variable {F : Asn} {w : World} {R : Ending → World → Prop}

set_option maxHeartbeats 1000000 in
theorem numbers_any (H : Sat F w) (r : Rt) (h : ∀ w', Sat F w' → Io w w' → R (.returned r.val) w') :
    Calls Tryd.prog 22 #[r.val] w R := by
  obtain ⟨e, p, c, f, n⟩ := r
  unfold Rt.val at h ⊢
  have fin := h _ (((H.alloc (.cells #[.int .i64 e, .int .i64 p, .int .i64 c, .int .i64 f, .int .i64 n] 23)).alloc (.cells #[.int .i64 e, .int .i64 p, .int .i64 c, .int .i64 f, .int .i64 n] 50))) (((Io.refl w).alloc _).alloc _)
  clear h
  go_enter Tryd.func22, Tryd.ntmps22
  go_wp2_with fail
  exact bodyPost_ret (v := .agg #[.int .i64 e, .int .i64 p, .int .i64 c, .int .i64 f, .int .i64 n]) (by simp [results, Tryd.results22, go_sem]) rfl fin

theorem repeat0 (H : Sat F w) (n : Nat) (hn : n ≤ 100000) (h : ∀ w', Sat F w' → Io w w' → R (.returned (.string (tx (noughts n)))) w') :
    Calls Tryd.prog 24 #[.string ⟨#[0]⟩, .int .i64 (n : Int)] w R := by
  have hr := Tryd.strings_Repeat ⟨#[0]⟩ n w (by omega) (by show 1 * n ≤ _; omega)
  have e : Lib.repeatL (⟨#[0]⟩ : ByteArray).data.toList n = noughts n := by
    have : ∀ n, Lib.repeatL [0] n = noughts n := by
      intro n
      induction n with
      | zero => rfl
      | succ n ih => rw [Lib.repeatL, ih]; rfl
    exact this n
  rw [e] at hr
  exact hr.mono fun x w' ⟨he, hb⟩ => by subst he; exact h w' (below_sat H hb) (below_io hb)

theorem putE_yes {k : Nat} {n : Int} (h : fits k n = true) : putE k n = 0 := by unfold putE; rw [if_pos h]
theorem putE_no {k : Nat} {n : Int} (h : fits k n = false) : putE k n = 1 := by unfold putE; rw [h]; rfl
theorem putS_yes {k : Nat} {n : Int} (h : fits k n = true) : putS k n = tx (be k n.toNat) := by unfold putS; rw [if_pos h]

set_option maxRecDepth 100000 in
set_option maxHeartbeats 2000000 in
theorem enc_any (hv : Hv F) (H : Sat F w) (r : Rt) (h : ∀ w', Sat F w' → Io w w' → R (.returned (.tuple #[.string r.encS, .int .i64 r.encE])) w') :
    Calls Tryd.prog 10 #[r.val] w R := by
  obtain ⟨e, p, c, f, n⟩ := r
  have HH : Hid (∀ w', Sat F w' → Io w w' → R (.returned (.tuple #[.string (Rt.encS ⟨e, p, c, f, n⟩), .int .i64 (Rt.encE ⟨e, p, c, f, n⟩)])) w') := Lib.hid h
  clear h
  have H0 := H.alloc (.cells #[.int .i64 e, .int .i64 p, .int .i64 c, .int .i64 f, .int .i64 n] 23)
  have I0 := (Io.refl w).alloc (.cells #[.int .i64 e, .int .i64 p, .int .i64 c, .int .i64 f, .int .i64 n] 23)
  show Calls Tryd.prog 10 #[.agg #[.int .i64 e, .int .i64 p, .int .i64 c, .int .i64 f, .int .i64 n]] w R
  by_cases h0 : e = 0
  · have eg : Rt.good ⟨e, p, c, f, n⟩ = false := by simp [Rt.good, h0]
    have fin := HH.out _ H0 I0
    rw [Rt.encS, Rt.encE, eg] at fin
    subst h0
    clear eg HH
    go_enter Tryd.func10, Tryd.ntmps10
    go_wp2_with fail
    exact fin
  · have hb : (e == 0) = false := by simpa using h0
    go_enter Tryd.func10, Tryd.ntmps10
    go_wp2_with fail
    refine numbers_any H0 ⟨e, p, c, f, n⟩ ?_
    intro w1 H1 I1
    have J1 := I0.trans I1
    unfold Rt.val
    clear H0 I0 I1 H
    go_wp2_with fail
    refine wp_loop_rounds 6 ?_
    have x0 : ∀ W, (Instr.index 50 (.agg #[.int .i64 e, .int .i64 p, .int .i64 c, .int .i64 f, .int .i64 n]) (.int .i64 0)).run Tryd.prog W = .ok (.int .i64 e) W := fun _ => by kernel_rfl
    have x1 : ∀ W, (Instr.index 50 (.agg #[.int .i64 e, .int .i64 p, .int .i64 c, .int .i64 f, .int .i64 n]) (.int .i64 1)).run Tryd.prog W = .ok (.int .i64 p) W := fun _ => by kernel_rfl
    have x2 : ∀ W, (Instr.index 50 (.agg #[.int .i64 e, .int .i64 p, .int .i64 c, .int .i64 f, .int .i64 n]) (.int .i64 2)).run Tryd.prog W = .ok (.int .i64 c) W := fun _ => by kernel_rfl
    have x3 : ∀ W, (Instr.index 50 (.agg #[.int .i64 e, .int .i64 p, .int .i64 c, .int .i64 f, .int .i64 n]) (.int .i64 3)).run Tryd.prog W = .ok (.int .i64 f) W := fun _ => by kernel_rfl
    have x4 : ∀ W, (Instr.index 50 (.agg #[.int .i64 e, .int .i64 p, .int .i64 c, .int .i64 f, .int .i64 n]) (.int .i64 4)).run Tryd.prog W = .ok (.int .i64 n) W := fun _ => by kernel_rfl
    rw [rounds_succ]
    go_wp2_with fail
    refine put4_any e H1 ?_
    intro w2 H2 I2
    have J2 := J1.trans I2
    clear H1 I2 J1
    cases hf0 : fits 4 e with
    | false =>
      rw [putE_no hf0]
      have eg : Rt.good ⟨e, p, c, f, n⟩ = false := by simp [Rt.good, hf0]
      have fin := HH.out _ H2 J2
      rw [Rt.encS, Rt.encE, eg] at fin
      clear eg HH hf0
      go_wp2_with fail
      exact fin
    | true =>
      rw [putE_yes hf0, putS_yes hf0]
      have F0 := Lib.hid hf0
      clear hf0
      obtain ⟨s1, S1⟩ : ∃ s, Hid (s = tx (be 4 e.toNat)) := ⟨_, Lib.hid rfl⟩
      have hadd : ∀ W, (Op.stringOp .add ⟨#[]⟩ (tx (be 4 e.toNat))).run Tryd.prog W = .ok (.string s1) W := fun W => by
        rw [S1.out, show (⟨#[]⟩ : ByteArray) = tx [] from rfl, run_string_add_sum W _ _ (by simp [tx_size, be_length]), tx_append]
        rfl
      go_wp2_with fail
      clear hadd
      rw [rounds_succ]
      go_wp2_with fail
      refine put4_any p H2 ?_
      intro w3 H3 I3
      have J3 := J2.trans I3
      clear H2 I3 J2
      cases hf1 : fits 4 p with
      | false =>
        rw [putE_no hf1]
        have eg : Rt.good ⟨e, p, c, f, n⟩ = false := by simp [Rt.good, hf1]
        have fin := HH.out _ H3 J3
        rw [Rt.encS, Rt.encE, eg] at fin
        clear eg HH hf1
        go_wp2_with fail
        exact fin
      | true =>
        rw [putE_yes hf1, putS_yes hf1]
        have F1 := Lib.hid hf1
        clear hf1
        obtain ⟨s2, S2⟩ : ∃ s, Hid (s = tx (be 4 e.toNat ++ be 4 p.toNat)) := ⟨_, Lib.hid rfl⟩
        have hadd : ∀ W, (Op.stringOp .add s1 (tx (be 4 p.toNat))).run Tryd.prog W = .ok (.string s2) W := fun W => by
          rw [S1.out, S2.out, run_string_add_sum W _ _ (by simp [tx_size, be_length]), tx_append]
        go_wp2_with fail
        clear hadd
        rw [rounds_succ]
        go_wp2_with fail
        refine put4_any c H3 ?_
        intro w4 H4 I4
        have J4 := J3.trans I4
        clear H3 I4 J3
        cases hf2 : fits 4 c with
        | false =>
          rw [putE_no hf2]
          have eg : Rt.good ⟨e, p, c, f, n⟩ = false := by simp [Rt.good, hf2]
          have fin := HH.out _ H4 J4
          rw [Rt.encS, Rt.encE, eg] at fin
          clear eg HH hf2
          go_wp2_with fail
          exact fin
        | true =>
          rw [putE_yes hf2, putS_yes hf2]
          have F2 := Lib.hid hf2
          clear hf2
          obtain ⟨s3, S3⟩ : ∃ s, Hid (s = tx (be 4 e.toNat ++ be 4 p.toNat ++ be 4 c.toNat)) := ⟨_, Lib.hid rfl⟩
          have hadd : ∀ W, (Op.stringOp .add s2 (tx (be 4 c.toNat))).run Tryd.prog W = .ok (.string s3) W := fun W => by
            rw [S2.out, S3.out, run_string_add_sum W _ _ (by simp [tx_size, be_length]), tx_append]
          go_wp2_with fail
          clear hadd
          rw [rounds_succ]
          go_wp2_with fail
          refine put4_any f H4 ?_
          intro w5 H5 I5
          have J5 := J4.trans I5
          clear H4 I5 J4
          cases hf3 : fits 4 f with
          | false =>
            rw [putE_no hf3]
            have eg : Rt.good ⟨e, p, c, f, n⟩ = false := by simp [Rt.good, hf3]
            have fin := HH.out _ H5 J5
            rw [Rt.encS, Rt.encE, eg] at fin
            clear eg HH hf3
            go_wp2_with fail
            exact fin
          | true =>
            rw [putE_yes hf3, putS_yes hf3]
            have F3 := Lib.hid hf3
            clear hf3
            obtain ⟨s4, S4⟩ : ∃ s, Hid (s = tx (be 4 e.toNat ++ be 4 p.toNat ++ be 4 c.toNat ++ be 4 f.toNat)) := ⟨_, Lib.hid rfl⟩
            have hadd : ∀ W, (Op.stringOp .add s3 (tx (be 4 f.toNat))).run Tryd.prog W = .ok (.string s4) W := fun W => by
              rw [S3.out, S4.out, run_string_add_sum W _ _ (by simp [tx_size, be_length]), tx_append]
            go_wp2_with fail
            clear hadd
            rw [rounds_succ]
            go_wp2_with fail
            refine put4_any n H5 ?_
            intro w6 H6 I6
            have J6 := J5.trans I6
            clear H5 I6 J5
            cases hf4 : fits 4 n with
            | false =>
              rw [putE_no hf4]
              have eg : Rt.good ⟨e, p, c, f, n⟩ = false := by simp [Rt.good, hf4]
              have fin := HH.out _ H6 J6
              rw [Rt.encS, Rt.encE, eg] at fin
              clear eg HH hf4
              go_wp2_with fail
              exact fin
            | true =>
              rw [putE_yes hf4, putS_yes hf4]
              have F4 := Lib.hid hf4
              clear hf4
              obtain ⟨s5, S5⟩ : ∃ s, Hid (s = tx (be 4 e.toNat ++ be 4 p.toNat ++ be 4 c.toNat ++ be 4 f.toNat ++ be 4 n.toNat)) := ⟨_, Lib.hid rfl⟩
              have hadd : ∀ W, (Op.stringOp .add s4 (tx (be 4 n.toNat))).run Tryd.prog W = .ok (.string s5) W := fun W => by
                rw [S4.out, S5.out, run_string_add_sum W _ _ (by simp [tx_size, be_length]), tx_append]
              go_wp2_with fail
              clear hadd
              rw [rounds_succ]
              have hsz : s5.size = 20 := by rw [S5.out, tx_size]; simp [be_length]
              have hsz' : (s5.size : Int) = 20 := by omega
              have HS := Lib.hid hsz
              have hs4 : (4 : Int) ≤ (s5.size : Int) := by omega
              have hs5 : (s5.size : Int) ≤ 20 := by omega
              have hsub : (248 : Int) - (s5.size : Int) = 228 := by omega
              clear hsz hsz' x0 x1 x2 x3 x4
              obtain ⟨sb, SB⟩ : ∃ s, Hid (s = tx (Rt.body ⟨e, p, c, f, n⟩)) := ⟨_, Lib.hid rfl⟩
              have hadd : ∀ W, (Op.stringOp .add s5 (tx (noughts 228))).run Tryd.prog W = .ok (.string sb) W := fun W => by
                rw [SB.out, S5.out, run_string_add_sum W _ _ (by simp [tx_size, be_length, noughts_length]), tx_append]
                rfl
              go_wp2_with fail
              refine repeat0 H6 228 (by omega) ?_
              intro w7 H7 I7
              go_wp2_with fail
              have hbz : sb.size = 248 := by rw [SB.out, tx_size, Rt.body_length]
              have HBZ := Lib.hid hbz
              clear hbz hadd
              refine sum_any hv.with (H7.new (.cells #[.string sb] 9)) w7.heap.size 1 sb (by have := HBZ.out; omega) (fun w' h => Sat.read h.left.at 0) ?_
              intro w8 H8 I8
              go_wp2_with fail
              refine put4_any _ H8.right ?_
              intro w9 H9 I9
              have hcf : fits 4 ((crcL sb.data.toList : Nat) : Int) = true := by
                have := crcL_lt sb.data.toList
                simp [fits]
                omega
              rw [putE_yes hcf, putS_yes hcf, Int.toNat_natCast]
              obtain ⟨sc, SC⟩ : ∃ s, Hid (s = tx (be 4 (crcL sb.data.toList))) := ⟨_, Lib.hid rfl⟩
              rw [← SC.out]
              have J9 := ((J6.trans I7).trans ((Io.refl w7).alloc (.cells #[.string sb] 9))).trans (I8.trans I9)
              clear hcf H6 H7 H8 J6 I7 I8 I9
              go_wp2_with fail
              have H10 := H9.new (.cells #[.string sb, .string sc, .string (s5.extract 0 4)] 9)
              have ecat : cat [sb, sc, s5.extract 0 4] = Rt.bytes ⟨e, p, c, f, n⟩ := by
                have e4 : s5.extract 0 4 = tx (be 4 e.toNat) := by
                  rw [S5.out, tx_extract, List.drop_zero]
                  simp [be_length, List.take_append, List.take_of_length_le]
                rw [e4, SC.out, SB.out]
                simp [cat, tx_list, Rt.bytes]
              have hc3 : ∀ j x, [sb, sc, s5.extract 0 4][j]? = some x → (w9.alloc (.cells #[.string sb, .string sc, .string (s5.extract 0 4)] 9)).cell? ⟨w9.heap.size, j, none⟩ = some (.string x) := by
                intro j x hj
                rw [Sat.read H10.left.at j]
                match j, hj with
                | 0, hj => cases hj; rfl
                | 1, hj => cases hj; rfl
                | 2, hj => cases hj; rfl
              refine join_any H10 w9.heap.size 3 3 [sb, sc, s5.extract 0 4] rfl H10.left.lt hc3 (by omega) (by rw [ecat, Rt.bytes_length]; omega) (by simp) ?_
              rw [ecat]
              intro w11 H11 I11
              have eg : Rt.good ⟨e, p, c, f, n⟩ = true := by simp [Rt.good, h0, F0.out, F1.out, F2.out, F3.out, F4.out]
              have fin := HH.out w11 H11.right ((J9.trans ((Io.refl w9).alloc _)).trans I11)
              rw [Rt.encS, Rt.encE, eg] at fin
              clear eg hc3 ecat HH H10 H11 H9 hv
              simp only [if_true] at fin
              generalize tx (Rt.bytes ⟨e, p, c, f, n⟩) = t at *
              go_wp2_with fail
              exact fin
end
end Go.Proofs.YtghpfepmkngfdaaDoor
