/-
  Edges: Key, Parse, and the document's Key, by their walks. It proves no statement by itself.
-/
import Derived.Test.YthbbdicdcmjpiaaGreatDoorR19
import Derived.Test.YthbbdicdcmjpiaaGreatDoorR35
namespace Go.Proofs.YthbbdicdcmjpiaaGreatDoor
open Go.RowKit
set_option linter.unusedSimpArgs false
set_option linter.unusedVariables false

theorem ver_zero {v : Int} : verE v = 0 ↔ 0 ≤ v ∧ v < 1048576 := by unfold verE; split <;> simp_all
theorem ver_else {v : Int} (h : ¬ verE v = 0) : verE v = 30 := by unfold verE at h ⊢; split <;> simp_all
/-- Two vertices as bytes. -/
def keyL (u v : Int) : List UInt8 := be 4 u.toNat ++ be 4 v.toNat
def keyE (u v : Int) : Int := if verE u ≠ 0 ∨ verE v ≠ 0 then 30 else 0
def keyS (u v : Int) : ByteArray := if keyE u v = 0 then tx (keyL u v) else ByteArray.empty
theorem keyL_length (u v : Int) : (keyL u v).length = 8 := by unfold keyL; rw [List.length_append, be_length, be_length]
theorem put4_ver {v : Int} (h : verE v = 0) : putS 4 v = tx (be 4 v.toNat) ∧ putE 4 v = 0 := by
  have hv := ver_zero.1 h
  have hf : fits 4 v = true := by unfold fits; simp; omega
  unfold putS putE
  rw [hf]
  exact ⟨rfl, rfl⟩

section
variable {F : Asn} {w : World} {R : Ending → World → Prop}
set_option maxRecDepth 100000 in
set_option maxHeartbeats 1000000 in
theorem key_any (H : Sat F w) (u v : Int) (h : ∀ w', Sat F w' → Io w w' → R (.returned (.tuple #[.string (keyS u v), .int .i64 (keyE u v)])) w') :
    Calls Tryz.prog 47 #[.int .i64 u, .int .i64 v] w R := by
  by_cases hu : verE u = 0
  · by_cases hv : verE v = 0
    · have e : keyE u v = 0 := by unfold keyE; rw [if_neg (by simp [hu, hv])]
      have es : keyS u v = tx (cat [tx (be 4 u.toNat), tx (be 4 v.toNat)]) := by unfold keyS; rw [if_pos e]; simp [keyL, cat, tx_list]
      rw [e, es] at h
      obtain ⟨pu, qu⟩ := put4_ver hu
      obtain ⟨pv, qv⟩ := put4_ver hv
      have HH := Lib.hid h
      have HU := Lib.hid hu
      have HV := Lib.hid hv
      have PU := Lib.hid pu
      have PV := Lib.hid pv
      have QU := Lib.hid qu
      have QV := Lib.hid qv
      clear h hu hv pu pv qu qv e es
      generalize hA : tx (be 4 u.toNat) = a at *
      generalize hB : tx (be 4 v.toNat) = b at *
      have hcat : Hid ((cat [a, b]).length ≤ 1000000) := Lib.hid (by rw [← hA, ← hB]; simp [cat, tx_list, be_length])
      clear hA hB
      go_enter Tryz.func47, Tryz.ntmps47
      go_wp2_with (first
        | (go_at_call 65; with_reducible refine vertex_any u ?_; rw [HU.out])
        | (go_at_call 65; with_reducible refine vertex_any v ?_; rw [HV.out])
        | (go_at_call 69; with_reducible refine put4_any u H ?_; intro w1 H1 I1; rw [PU.out, QU.out])
        | (go_at_call 69; with_reducible refine put4_any v H1 ?_; intro w2 H2 I2; rw [PV.out, QV.out]))
      have H10 := H2.new (.cells #[.string a, .string b] 9)
      have hc3 : ∀ j x, [a, b][j]? = some x → (w2.alloc (.cells #[.string a, .string b] 9)).cell? ⟨w2.heap.size, j, none⟩ = some (.string x) := by
        intro j x hj
        rw [Sat.read H10.left.at j]
        match j, hj with
        | 0, hj => cases hj; rfl
        | 1, hj => cases hj; rfl
      refine join_any H10 w2.heap.size 2 2 [a, b] rfl H10.left.lt hc3 (by omega) hcat.out (by simp) ?_
      intro w3 H3 I3
      have fin := HH.out w3 H3.right ((I1.trans (I2.alloc _)).trans I3)
      clear HH H3 H10 hc3
      go_wp2_with fail
      exact fin
    · have e : keyE u v = 30 := by unfold keyE; rw [if_pos (.inr hv)]
      have es : keyS u v = ByteArray.empty := by unfold keyS; rw [if_neg (by rw [e]; decide)]
      have hv30 := ver_else hv
      rw [e, es] at h
      have HH := Lib.hid h
      have HU := Lib.hid hu
      have HV := Lib.hid hv30
      clear h hu hv hv30 e es
      go_enter Tryz.func47, Tryz.ntmps47
      go_wp2_with (first
        | (go_at_call 65; with_reducible refine vertex_any u ?_; rw [HU.out])
        | (go_at_call 65; with_reducible refine vertex_any v ?_; rw [HV.out]))
      exact HH.out _ H (Io.refl _)
  · have e : keyE u v = 30 := by unfold keyE; rw [if_pos (.inl hu)]
    have es : keyS u v = ByteArray.empty := by unfold keyS; rw [if_neg (by rw [e]; decide)]
    have hu30 := ver_else hu
    rw [e, es] at h
    have HH := Lib.hid h
    have HU := Lib.hid hu30
    clear h hu hu30 e es
    go_enter Tryz.func47, Tryz.ntmps47
    go_wp2_with (first
      | (go_at_call 65; with_reducible refine vertex_any u ?_; rw [HU.out])
      | (go_at_call 65; with_reducible refine vertex_any v ?_; rw [HV.out]))
    exact HH.out _ H (Io.refl _)
end
/-! ### reading -/
def prsU (s : ByteArray) : Int := (Rd.mk s 0).num 4
def prsV (s : ByteArray) : Int := ((Rd.mk s 0).bR 4).num 4
def prsF (s : ByteArray) : Int := (((Rd.mk s 0).bR 4).bR 4).fin
def prsE (s : ByteArray) : Int := if prsF s ≠ 0 ∨ verE (prsU s) ≠ 0 ∨ verE (prsV s) ≠ 0 then 30 else 0
theorem bR_le (r : Rd) (n : Int) : (r.bR n).rest.size ≤ r.rest.size := by
  unfold Rd.bR
  split
  · show (r.rest.extract _ _).size ≤ _
    rw [ByteArray.size_extract]
    omega
  · exact Nat.le_refl _
theorem bE_ok (s : ByteArray) (h : 4 ≤ s.size) : (Rd.mk s 0).bE 4 = 0 := by
  unfold Rd.bE
  simp
  omega
theorem bR_ok (s : ByteArray) (h : 4 ≤ s.size) : (Rd.mk s 0).bR 4 = ⟨s.extract 4 s.size, 0⟩ := by
  unfold Rd.bR
  rw [if_pos (bE_ok s h)]
  rfl
theorem bS_ok (s : ByteArray) (h : 4 ≤ s.size) : (Rd.mk s 0).bS 4 = s.extract 0 4 := by
  unfold Rd.bS
  rw [if_pos (bE_ok s h)]
  rfl
theorem num_ok (s : ByteArray) (h : 4 ≤ s.size) : (Rd.mk s 0).num 4 = un (s.extract 0 4).data.toList := by
  show un ((Rd.mk s 0).bS 4).data.toList = _
  rw [bS_ok s h]
theorem prs_eight (L : List UInt8) (h : L.length = 8) : prsF (tx L) = 0 ∧ prsU (tx L) = (un (L.take 4) : Nat) ∧ prsV (tx L) = (un (L.drop 4) : Nat) := by
  have hs : (tx L).size = 8 := by rw [tx_size, h]
  have e4 : (tx L).extract 4 (tx L).size = tx (L.drop 4) := by rw [tx_extract, hs, List.take_of_length_le (by omega)]
  have hs4 : (tx (L.drop 4)).size = 4 := by rw [tx_size, List.length_drop, h]
  refine ⟨?_, ?_, ?_⟩
  · unfold prsF
    rw [bR_ok _ (by omega), e4, bR_ok _ (by omega), tx_extract, hs4]
    have : ((L.drop 4).take 4).drop 4 = [] := List.drop_eq_nil_of_le (by rw [List.length_take, List.length_drop]; omega)
    rw [this]
    unfold Rd.fin
    exact if_pos rfl
  · unfold prsU
    rw [num_ok _ (by omega), tx_extract]
    simp [tx_list]
  · unfold prsV
    rw [bR_ok _ (by omega), e4, num_ok _ (by omega), tx_extract, List.take_of_length_le (by rw [List.length_drop]; omega)]
    simp [tx_list]
/-- What is written is read. -/
theorem prs_key {u v : Int} (h : keyE u v = 0) : prsE (keyS u v) = 0 ∧ prsU (keyS u v) = u ∧ prsV (keyS u v) = v := by
  have hk : keyS u v = tx (keyL u v) := by unfold keyS; rw [if_pos h]
  have huv : verE u = 0 ∧ verE v = 0 := by
    unfold keyE at h
    by_cases hu : verE u = 0 <;> by_cases hv : verE v = 0 <;> simp_all
  have hu := ver_zero.1 huv.1
  have hv := ver_zero.1 huv.2
  obtain ⟨a, b, c⟩ := prs_eight (keyL u v) (keyL_length u v)
  have t1 : (keyL u v).take 4 = be 4 u.toNat := List.take_left' (be_length _ _)
  have t2 : (keyL u v).drop 4 = be 4 v.toNat := List.drop_left' (be_length _ _)
  rw [t1, un_be, Nat.mod_eq_of_lt (by omega)] at b
  rw [t2, un_be, Nat.mod_eq_of_lt (by omega)] at c
  have b' : prsU (tx (keyL u v)) = u := by rw [b]; omega
  have c' : prsV (tx (keyL u v)) = v := by rw [c]; omega
  rw [hk]
  refine ⟨?_, b', c'⟩
  unfold prsE
  rw [a, b', c', huv.1, huv.2]
  rfl
section
variable {F : Asn} {w : World} {R : Ending → World → Prop}
theorem int4_any {p : Nat} {r : Rd} (H : Sat (IsRd p r * F) w) (hs : r.rest.size ≤ 9223372036854775807) (h : ∀ w', Sat (IsRd p (r.bR 4) * F) w' → Io w w' → R (.returned (.int .i64 (r.num 4 : Nat))) w') :
    Calls Tryz.prog 73 #[.pointer (some ⟨p, 0, none⟩), .int .i64 4] w R := int_any63 H hs 4 (.inr (.inr rfl)) h
set_option maxRecDepth 100000 in
set_option maxHeartbeats 2000000 in
theorem parse_any (H : Sat F w) (s : ByteArray) (hs : s.size ≤ 9223372036854775807) (h : ∀ w', Sat F w' → Io w w' → R (.returned (.tuple #[.int .i64 (if prsE s = 0 then prsU s else 0), .int .i64 (if prsE s = 0 then prsV s else 0), .int .i64 (prsE s)])) w') :
    Calls Tryz.prog 49 #[.string s] w R := by
  have hs2 := Nat.le_trans (bR_le (Rd.mk s 0) 4) hs
  obtain ⟨x, hx⟩ : ∃ x, x = prsU s := ⟨_, rfl⟩
  obtain ⟨y, hy⟩ : ∃ y, y = prsV s := ⟨_, rfl⟩
  obtain ⟨f, hf⟩ : ∃ f, f = prsF s := ⟨_, rfl⟩
  have e : prsE s = if f ≠ 0 ∨ verE x ≠ 0 ∨ verE y ≠ 0 then 30 else 0 := by rw [hx, hy, hf]; rfl
  have ex : (((Rd.mk s 0).num 4 : Nat) : Int) = x := hx.symm
  have ey : ((((Rd.mk s 0).bR 4).num 4 : Nat) : Int) = y := hy.symm
  have ef : (((Rd.mk s 0).bR 4).bR 4).fin = f := hf.symm
  rw [← hx, ← hy] at h
  generalize hE : prsE s = E at *
  have EX := Lib.hid ex
  have EY := Lib.hid ey
  have EF := Lib.hid ef
  have HH := Lib.hid h
  have HS := Lib.hid hs
  have HS2 := Lib.hid hs2
  clear h hx hy hf ex ey ef hE hs hs2
  by_cases h1 : f = 0
  · by_cases h2 : verE x = 0
    · by_cases h3 : verE y = 0
      · rw [if_neg (by simp [h1, h2, h3])] at e
        subst e
        have HX := Lib.hid h2
        have HY := Lib.hid h3
        have q1 : (f != 0) = false := by simpa using h1
        have hh := Lib.hid (fun w' a b => (by simpa using HH.out w' a b : R (.returned (.tuple #[.int .i64 x, .int .i64 y, .int .i64 0])) w'))
        clear h1 h2 h3 HH
        go_enter Tryz.func49, Tryz.ntmps49
        go_wp2_with (first
          | (go_at_call 72; with_reducible refine read_new H s ?_; intro p w1 H1 I1)
          | (go_at_call 73; first
            | (with_reducible refine int4_any H2 HS2.out ?_; intro w3 H3 I3; rw [EY.out])
            | (with_reducible refine int4_any H1 HS.out ?_; intro w2 H2 I2; rw [EX.out]))
          | (go_at_call 74; with_reducible refine end_any H3 ?_; intro w4 H4 I4; rw [EF.out])
          | (go_at_call 65; with_reducible refine vertex_any x ?_; rw [HX.out])
          | (go_at_call 65; with_reducible refine vertex_any y ?_; rw [HY.out]))
        exact bodyPost_ret (by simp [results, Tryz.results49, go_sem]) rfl (hh.out _ H4.right (((I1.trans I2).trans I3).trans I4))
      · rw [if_pos (.inr (.inr h3))] at e
        subst e
        have HX := Lib.hid h2
        have HY := Lib.hid (ver_else h3)
        have q1 : (f != 0) = false := by simpa using h1
        have hh := Lib.hid (fun w' a b => (by simpa using HH.out w' a b : R (.returned (.tuple #[.int .i64 0, .int .i64 0, .int .i64 30])) w'))
        clear h1 h2 h3 HH
        go_enter Tryz.func49, Tryz.ntmps49
        go_wp2_with (first
          | (go_at_call 72; with_reducible refine read_new H s ?_; intro p w1 H1 I1)
          | (go_at_call 73; first
            | (with_reducible refine int4_any H2 HS2.out ?_; intro w3 H3 I3; rw [EY.out])
            | (with_reducible refine int4_any H1 HS.out ?_; intro w2 H2 I2; rw [EX.out]))
          | (go_at_call 74; with_reducible refine end_any H3 ?_; intro w4 H4 I4; rw [EF.out])
          | (go_at_call 65; with_reducible refine vertex_any x ?_; rw [HX.out])
          | (go_at_call 65; with_reducible refine vertex_any y ?_; rw [HY.out]))
        exact bodyPost_ret (by simp [results, Tryz.results49, go_sem]) rfl (hh.out _ H4.right (((I1.trans I2).trans I3).trans I4))
    · rw [if_pos (.inr (.inl h2))] at e
      subst e
      have HX := Lib.hid (ver_else h2)
      have q1 : (f != 0) = false := by simpa using h1
      have hh := Lib.hid (fun w' a b => (by simpa using HH.out w' a b : R (.returned (.tuple #[.int .i64 0, .int .i64 0, .int .i64 30])) w'))
      clear h1 h2 HH
      go_enter Tryz.func49, Tryz.ntmps49
      go_wp2_with (first
        | (go_at_call 72; with_reducible refine read_new H s ?_; intro p w1 H1 I1)
        | (go_at_call 73; first
          | (with_reducible refine int4_any H2 HS2.out ?_; intro w3 H3 I3; rw [EY.out])
          | (with_reducible refine int4_any H1 HS.out ?_; intro w2 H2 I2; rw [EX.out]))
        | (go_at_call 74; with_reducible refine end_any H3 ?_; intro w4 H4 I4; rw [EF.out])
        | (go_at_call 65; with_reducible refine vertex_any x ?_; rw [HX.out]))
      exact bodyPost_ret (by simp [results, Tryz.results49, go_sem]) rfl (hh.out _ H4.right (((I1.trans I2).trans I3).trans I4))
  · rw [if_pos (.inl h1)] at e
    subst e
    have q1 : (f != 0) = true := by simpa using h1
    have hh := Lib.hid (fun w' a b => (by simpa using HH.out w' a b : R (.returned (.tuple #[.int .i64 0, .int .i64 0, .int .i64 30])) w'))
    clear h1 HH
    go_enter Tryz.func49, Tryz.ntmps49
    go_wp2_with (first
      | (go_at_call 72; with_reducible refine read_new H s ?_; intro p w1 H1 I1)
      | (go_at_call 73; first
        | (with_reducible refine int4_any H2 HS2.out ?_; intro w3 H3 I3; rw [EY.out])
        | (with_reducible refine int4_any H1 HS.out ?_; intro w2 H2 I2; rw [EX.out]))
      | (go_at_call 74; with_reducible refine end_any H3 ?_; intro w4 H4 I4; rw [EF.out]))
    exact bodyPost_ret (by simp [results, Tryz.results49, go_sem]) rfl (hh.out _ H4.right (((I1.trans I2).trans I3).trans I4))
end
end Go.Proofs.YthbbdicdcmjpiaaGreatDoor
