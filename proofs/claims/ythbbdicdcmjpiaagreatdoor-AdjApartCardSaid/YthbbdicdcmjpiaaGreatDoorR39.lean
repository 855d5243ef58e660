/-
  adj, plain: keys and values of edges. No program in sight. It proves no statement by itself.
-/
import Derived.Test.YthbbdicdcmjpiaaGreatDoorR32
import Derived.Test.YthbbdicdcmjpiaaGreatDoorR38
import Derived.Test.YthbbdicdcmjpiaaGreatDoorR15
namespace Go.Proofs.YthbbdicdcmjpiaaGreatDoor
open Go.RowKit Go.Lib
set_option linter.unusedSimpArgs false
set_option linter.unusedVariables false
namespace Aj
open Ky
def pA : Nm := ⟨#[65]⟩
def pB : Nm := ⟨#[66]⟩
/-- An edge's key, one way. -/
def ks (u v : Int) : Nm := if Md.wrong u v = 0 then pA ++ keyS u v else ⟨#[]⟩
def vt (t : Bool) : Nm := if t then ⟨#[116]⟩ else ⟨#[110]⟩
theorem wrong_zero {u v : Int} : Md.wrong u v = 0 ↔ (0 ≤ u ∧ u < 1048576) ∧ (0 ≤ v ∧ v < 1048576) ∧ u ≠ v := by
  unfold Md.wrong Md.vtx
  by_cases h1 : 0 ≤ u ∧ u < 1048576
  · by_cases h2 : 0 ≤ v ∧ v < 1048576
    · rw [decide_eq_true h1, decide_eq_true h2]
      by_cases h3 : u = v
      · simp [h3]
      · simp [h3, h1, h2]
    · rw [decide_eq_false h2]; simp; omega
  · rw [decide_eq_false h1]; simp; omega
theorem wrong_comm (u v : Int) : Md.wrong u v = Md.wrong v u := by
  unfold Md.wrong
  rw [Bool.and_comm]
  split
  · by_cases h : u = v
    · simp [h]
    · simp [h, Ne.symm h]
  · rfl
theorem wrong_keyE {u v : Int} (h : Md.wrong u v = 0) : keyE u v = 0 := by
  obtain ⟨h1, h2, _⟩ := wrong_zero.1 h
  unfold keyE
  rw [if_neg]
  rw [ver_zero.2 h1, ver_zero.2 h2]
  simp
theorem ks_eq {u v : Int} (h : Md.wrong u v = 0) : ks u v = pA ++ keyS u v := by unfold ks; rw [if_pos h]
theorem keyS_size {u v : Int} (h : keyE u v = 0) : (keyS u v).size = 8 := by
  unfold keyS
  rw [if_pos h, tx_size, keyL_length]
theorem ks_size {u v : Int} (h : Md.wrong u v = 0) : (ks u v).size = 9 := by
  rw [ks_eq h, ByteArray.size_append, keyS_size (wrong_keyE h)]
  rfl
theorem ks_chk {u v : Int} (h : Md.wrong u v = 0) (t : Bool) : Ky.chk (ks u v) (vt t) = 0 := by
  have h9 := ks_size h
  unfold Ky.chk
  rw [if_neg]
  rw [h9]
  cases t <;> decide
theorem ks_list {u v : Int} (h : Md.wrong u v = 0) : (ks u v).toList = 65 :: keyL u v := by
  rw [ks_eq h, ByteArray.toList_eq]
  have := keyS_list (wrong_keyE h)
  rw [ByteArray.toList_eq] at this
  simp [pA, this]
theorem cons_less (a : UInt8) (x y : List UInt8) : Op.bytesLess (a :: x) (a :: y) = Op.bytesLess x y := by
  simp [Op.bytesLess]
/-- The order of keys is that of pairs. -/
theorem ks_less {u v x y : Int} (h : Md.wrong u v = 0) (k : Md.wrong x y = 0) : Md.nlt (ks u v) (ks x y) = Eg.less (u, v) (x, y) := by
  unfold Md.nlt
  rw [ks_list h, ks_list k, cons_less, ← keyS_list (wrong_keyE h), ← keyS_list (wrong_keyE k)]
  exact key_less (a := (u, v)) (b := (x, y)) (wrong_keyE h) (wrong_keyE k)
theorem ks_inj {u v x y : Int} (h : Md.wrong u v = 0) (k : Md.wrong x y = 0) (e : ks u v = ks x y) : u = x ∧ v = y := by
  have h1 := ks_less h k
  have h2 := ks_less k h
  rw [e, nlt_irrefl] at h1
  rw [← e, nlt_irrefl] at h2
  have e1 := h1.symm
  have e2 := h2.symm
  have n1 : ¬ Eg.less (u, v) (x, y) = true := by rw [e1]; simp
  have n2 : ¬ Eg.less (x, y) (u, v) = true := by rw [e2]; simp
  rw [Eg.less_iff] at n1 n2
  simp only at n1 n2
  omega
end Aj
end Go.Proofs.YthbbdicdcmjpiaaGreatDoor

/-
  adj: Key, Set, Clear, Get, by walks. It proves no statement by itself.
-/
namespace Go.Proofs.YthbbdicdcmjpiaaGreatDoor
open Go.RowKit Go.Lib
set_option linter.unusedSimpArgs false
set_option linter.unusedVariables false
set_option linter.unusedSectionVars false
theorem mkE_wrong (u v : Int) : mkE u v = Md.wrong u v := by
  unfold mkE Md.wrong Md.vtx verE
  by_cases h1 : 0 ≤ u ∧ u < 1048576 <;> by_cases h2 : 0 ≤ v ∧ v < 1048576 <;> by_cases h3 : u = v <;> simp_all <;> omega
section
variable {F : Asn} {w : World} {R : Ending → World → Prop}
theorem make_w (H : Sat F w) (u v : Int) {e : Int} (he : Hid (e = Md.wrong u v)) (hh : ∀ a b w', Sat F w' → Io w w' → R (.returned (.tuple #[.agg #[.int .i64 a, .int .i64 b], .int .i64 e])) w') :
    Calls Tryz.prog 40 #[.int .i64 u, .int .i64 v] w R := make_any H u v (by rw [mkE_wrong, ← he.out]; exact hh _ _)
theorem ekey_w (H : Sat F w) (u v : Int) {k : ByteArray} {e : Int} (hk : Hid (keyS u v = k)) (he : Hid (keyE u v = e)) (h : ∀ w', Sat F w' → Io w w' → R (.returned (.tuple #[.string k, .int .i64 e])) w') :
    Calls Tryz.prog 47 #[.int .i64 u, .int .i64 v] w R := key_any H u v (by rw [hk.out, he.out]; exact h)
set_option maxRecDepth 100000 in
set_option maxHeartbeats 4000000 in
/-- AN EDGE's KEY. -/
theorem ajkey_any (u v : Int) {k : ByteArray} (hk : Hid (k = Aj.ks u v)) (H : Sat F w) (h : ∀ w', Sat F w' → Io w w' → R (.returned (.string k)) w') :
    Calls Tryz.prog 19 #[.int .i64 u, .int .i64 v] w R := by
  have HH := Lib.hid h
  obtain ⟨e, he⟩ : ∃ e, e = Md.wrong u v := ⟨_, rfl⟩
  have HE := Lib.hid he
  have hx := hk.out
  unfold Aj.ks at hx
  by_cases h0 : Md.wrong u v = 0
  · rw [if_pos h0] at hx
    obtain rfl : e = 0 := by rw [he, h0]
    have KE := Lib.hid (Aj.wrong_keyE h0)
    obtain ⟨k8, hk8⟩ : ∃ k8, keyS u v = k8 := ⟨_, rfl⟩
    have K8 := Lib.hid hk8
    have z8 : k8.size = 8 := by rw [← hk8]; exact Aj.keyS_size (Aj.wrong_keyE h0)
    rw [hk8] at hx
    subst hx
    clear h hk he h0 hk8
    go_enter Tryz.func19, Tryz.ntmps19
    go_wp2_with (first
      | (go_at_call 40; (with_reducible refine make_w H u v HE ?_); intro a b w2 H2 I2; have H2 := (H2.new (.cells #[.int .i64 a, .int .i64 b] 35)).right; have I2 := I2.alloc (.cells #[.int .i64 a, .int .i64 b] 35))
      | (go_at_call 47; (with_reducible refine ekey_w H2 u v K8 KE ?_); intro w3 H3 I3))
    exact HH.out _ H3 (I2.trans I3)
  · rw [if_neg h0] at hx
    subst hx
    have hb : (e != 0) = true := by rw [he]; simp [h0]
    have hb2 : ¬ e = 0 := by rw [he]; exact h0
    clear h hk he h0
    go_enter Tryz.func19, Tryz.ntmps19
    go_wp2_with (go_at_call 40; (with_reducible refine make_w H u v HE ?_); intro a b w2 H2 I2; have H2 := (H2.new (.cells #[.int .i64 a, .int .i64 b] 35)).right; have I2 := I2.alloc (.cells #[.int .i64 a, .int .i64 b] 35))
    exact HH.out _ H2 I2
end
/-- THE EDGES that the tree at c holds. -/
def AjAt (a : Nat) (c : Cq) (es : List Ky.En) (q g : Nat) : Asn := pts a (.cells #[.pointer (some ⟨c.tr, 0, none⟩)] 86 (0, 0)) * TrAt c es q g
section
variable {a : Nat} {c : Cq} {F : Asn} {w : World} {R : Ending → World → Prop} {es : List Ky.En} {q g : Nat}
theorem AjAt.tr (H : Sat (AjAt a c es q g * F) w) : Sat (TrAt c es q g * (pts a (.cells #[.pointer (some ⟨c.tr, 0, none⟩)] 86 (0, 0)) * F)) w := H.of_eq (by unfold AjAt; ac_rfl)
theorem AjAt.of (H : Sat (TrAt c es q g * (pts a (.cells #[.pointer (some ⟨c.tr, 0, none⟩)] 86 (0, 0)) * F)) w) : Sat (AjAt a c es q g * F) w := H.of_eq (by unfold AjAt; ac_rfl)
theorem AjAt.cell (H : Sat (TrAt c es q g * (pts a (.cells #[.pointer (some ⟨c.tr, 0, none⟩)] 86 (0, 0)) * F)) w) : w.cell? ⟨a, 0, none⟩ = some (.pointer (some ⟨c.tr, 0, none⟩)) := (nd1 H.right).1
theorem Tb.Tree.mono {root : Int} {es : List Ky.En} {L : Tb.Pg} {g g' : Nat} (t : Tb.Tree root es L g) (h : g ≤ g') : Tb.Tree root es L g' := by
  rcases t with t | ⟨h0, c, s, hc⟩
  · exact .inl t
  · exact .inr ⟨h0, c, s, by omega⟩
theorem TrAt.mono {q' g' : Nat} (hq : q ≤ q') (hg : g ≤ g') (H : Sat (TrAt c es q g * F) w) : Sat (TrAt c es q' g' * F) w := by
  obtain ⟨root, L, t, h1, h2⟩ := sat_tr.1 H
  exact sat_tr.2 ⟨root, L, t.mono hg, by omega, h2⟩
theorem TrAt.right (H : Sat (TrAt c es q g * F) w) : Ky.Right es := by
  obtain ⟨root, L, t, h1, h2⟩ := sat_tr.1 H
  exact t.right
theorem Aj.one_ks {u v : Int} (h : Md.wrong u v = 0) (t : Bool) : Ky.one (Aj.ks u v, Aj.vt t) = 12 := by
  unfold Ky.one
  simp only [Aj.ks_size h]
  cases t <;> rfl
/-- One entry of an edge is put. -/
theorem aput_one {u v : Int} {t : Bool} {k val : ByteArray} (hkk : Hid (k = Aj.ks u v)) (hvv : Hid (val = Aj.vt t)) (h0 : Hid (Md.wrong u v = 0)) (hk : c.k.n ≤ 3000) (hg : g ≤ 240) (hq : 60 ≤ q) (hroom : Hid (30 + (Tb.most q g : Int) < c.k.room))
    (H : Sat (TrAt c es q g * F) w)
    (hR : ∀ w', Sat (TrAt c (Ky.put es (Aj.ks u v) (Aj.vt t)) (q + 12) (g + 1) * F) w' → Io w w' → R (.returned (.int .i64 0)) w') :
    Calls Tryz.prog 24 #[.pointer (some ⟨c.tr, 0, none⟩), .string k, .string val] w R := by
  obtain rfl := hkk.out
  obtain rfl := hvv.out
  have hc := Aj.ks_chk h0.out t
  have hl := Tb.loc_put hc
  rw [Aj.one_ks h0.out t] at hl
  refine ctput_any hk hg hq hc hl trivial H fun x w' D I => ?_
  rcases D with ⟨rfl, H'⟩ | ⟨_, h1, _⟩
  · exact hR w' H' I
  · have := hroom.out; omega
theorem aget_one {k val : ByteArray} {d : Bool} (hg : g ≤ 240) (hgt : Hid ((d = true ∧ Ky.get es k = some val) ∨ (d = false ∧ val = ⟨#[]⟩ ∧ Ky.get es k = none))) (H : Sat (TrAt c es q g * F) w)
    (hR : ∀ w', Sat (TrAt c es q g * F) w' → Io w w' → R (.returned (.tuple #[.string val, .bool d, .int .i64 0])) w') :
    Calls Tryz.prog 60 #[.pointer (some ⟨c.tr, 0, none⟩), .string k] w R := ctget_any hg hgt H hR
/-- One entry is taken away, if it is there. -/
theorem adel_one {k : ByteArray} {d : Bool} (hd : Hid (d = Ky.has k es)) (hk : c.k.n ≤ 3000) (hg : g ≤ 240) (hq : 60 ≤ q) (hroom : Hid (30 + (Tb.most q g : Int) < c.k.room)) (H : Sat (TrAt c es q g * F) w)
    (hR : ∀ w', Sat (TrAt c (Ky.del es k) q g * F) w' → Io w w' → R (.returned (.tuple #[.bool d, .int .i64 0])) w') :
    Calls Tryz.prog 43 #[.pointer (some ⟨c.tr, 0, none⟩), .string k] w R := by
  cases hh : Ky.has k es with
  | true =>
    obtain rfl : d = true := by rw [hd.out, hh]
    refine ctdel_yes hk hg hq (TrAt.right H) hh H fun d x w' D I => ?_
    rcases D with ⟨rfl, rfl, H'⟩ | ⟨_, _, h1, _⟩
    · exact hR w' H' I
    · have := hroom.out; omega
  | false =>
    obtain rfl : d = false := by rw [hd.out, hh]
    refine ctdel_no hg hh H fun w' H' I => hR w' ?_ I
    have e : Ky.del es k = es := by unfold Ky.del; rw [if_neg (by rw [hh]; simp)]
    rw [e]; exact H'
set_option maxRecDepth 100000 in
set_option maxHeartbeats 8000000 in
/-- AN EDGE IS SET. -/
theorem aset_yes {u v : Int} {t : Bool} (h0 : Md.wrong u v = 0) (hk : c.k.n ≤ 3000) (hg : g ≤ 238) (hq : 60 ≤ q) (hroom : 30 + (Tb.most (q + 12) (g + 1) : Int) < c.k.room)
    (H : Sat (AjAt a c es q g * F) w)
    (hR : ∀ w', Sat (AjAt a c (Ky.put (Ky.put es (Aj.ks u v) (Aj.vt t)) (Aj.ks v u) (Aj.vt t)) (q + 24) (g + 2) * F) w' → Io w w' → R (.returned (.int .i64 0)) w') :
    Calls Tryz.prog 11 #[.pointer (some ⟨a, 0, none⟩), .int .i64 u, .int .i64 v, .bool t] w R := by
  have HH := Lib.hid hR
  have HE : Hid ((0 : Int) = Md.wrong u v) := Lib.hid h0.symm
  have W1 := Lib.hid h0
  have W2 : Hid (Md.wrong v u = 0) := Lib.hid (by rw [Aj.wrong_comm]; exact h0)
  obtain ⟨k1, hk1⟩ : ∃ k, k = Aj.ks u v := ⟨_, rfl⟩
  obtain ⟨k2, hk2⟩ : ∃ k, k = Aj.ks v u := ⟨_, rfl⟩
  have K1 := Lib.hid hk1
  have K2 := Lib.hid hk2
  have R2 := Lib.hid hroom
  have hmost : Tb.most q g ≤ Tb.most (q + 12) (g + 1) := by
    unfold Tb.most
    exact Nat.div_le_div_right (Nat.mul_le_mul (by omega) (by omega))
  have R1 : Hid (30 + (Tb.most q g : Int) < c.k.room) := Lib.hid (by omega)
  have hg1 : g ≤ 240 := by omega
  have hg2 : g + 1 ≤ 240 := by omega
  have hq2 : 60 ≤ q + 12 := by omega
  have V1 : Hid (∀ b, (if b = true then (⟨#[116]⟩ : ByteArray) else ⟨#[110]⟩) = Aj.vt b) := Lib.hid (fun b => rfl)
  have HT := AjAt.tr H
  clear hR h0 hk1 hk2 hroom hmost H
  cases t with
  | true =>
    have VV : Hid ((⟨#[116]⟩ : ByteArray) = Aj.vt true) := Lib.hid rfl
    go_enter Tryz.func11, Tryz.ntmps11
    go_upto_region 7 with (go_at_call 40; (with_reducible refine make_w HT u v HE ?_); intro x y w2 H2 I2; have H2 := (H2.new (.cells #[.int .i64 x, .int .i64 y] 35)).right; have I2 := I2.alloc (.cells #[.int .i64 x, .int .i64 y] 35))
    generalize w2.alloc (.cells #[.int .i64 x, .int .i64 y] 35) = w2b at *
    have H3 := H2.drew
    have I3 := I2.drew
    have S0 := AjAt.cell H3
    clear H2 I2
    go_region_held3 (fun W => W.cell? ⟨a, 0, none⟩ = some (.pointer (some ⟨c.tr, 0, none⟩))) (with_reducible (first | exact S0 | exact S1 | exact S2)) (first
      | (go_at_call 19; (with_reducible refine ajkey_any u v K1 H3 ?_); intro w4 H4 I4; have S1 := AjAt.cell H4)
      | (go_at_call 24; (with_reducible refine aput_one K1 VV W1 hk hg1 hq R1 H4 ?_); intro w5 H5 I5; have S2 := AjAt.cell H5))
    have J5 := (I3.trans I4).trans I5
    clear S0 S1 S2 H3 H4 I3 I4 I5
    go_upto_region 10 with fail
    have H6 := H5.drew
    have I6 := J5.drew
    have S0 := AjAt.cell H6
    clear H5 J5
    go_region_held3 (fun W => W.cell? ⟨a, 0, none⟩ = some (.pointer (some ⟨c.tr, 0, none⟩))) (with_reducible (first | exact S0 | exact S1 | exact S2)) (first
      | (go_at_call 19; (with_reducible refine ajkey_any v u K2 H6 ?_); intro w7 H7 I7; have S1 := AjAt.cell H7)
      | (go_at_call 24; (with_reducible refine aput_one K2 VV W2 hk hg2 hq2 R2 H7 ?_); intro w8 H8 I8; have S2 := AjAt.cell H8))
    clear S0 S1 S2
    go_wp2_with fail
    exact HH.out _ (AjAt.of H8) ((I6.trans I7).trans I8)
  | false =>
    have VV : Hid ((⟨#[110]⟩ : ByteArray) = Aj.vt false) := Lib.hid rfl
    go_enter Tryz.func11, Tryz.ntmps11
    go_upto_region 7 with (go_at_call 40; (with_reducible refine make_w HT u v HE ?_); intro x y w2 H2 I2; have H2 := (H2.new (.cells #[.int .i64 x, .int .i64 y] 35)).right; have I2 := I2.alloc (.cells #[.int .i64 x, .int .i64 y] 35))
    generalize w2.alloc (.cells #[.int .i64 x, .int .i64 y] 35) = w2b at *
    have H3 := H2.drew
    have I3 := I2.drew
    have S0 := AjAt.cell H3
    clear H2 I2
    go_region_held3 (fun W => W.cell? ⟨a, 0, none⟩ = some (.pointer (some ⟨c.tr, 0, none⟩))) (with_reducible (first | exact S0 | exact S1 | exact S2)) (first
      | (go_at_call 19; (with_reducible refine ajkey_any u v K1 H3 ?_); intro w4 H4 I4; have S1 := AjAt.cell H4)
      | (go_at_call 24; (with_reducible refine aput_one K1 VV W1 hk hg1 hq R1 H4 ?_); intro w5 H5 I5; have S2 := AjAt.cell H5))
    have J5 := (I3.trans I4).trans I5
    clear S0 S1 S2 H3 H4 I3 I4 I5
    go_upto_region 10 with fail
    have H6 := H5.drew
    have I6 := J5.drew
    have S0 := AjAt.cell H6
    clear H5 J5
    go_region_held3 (fun W => W.cell? ⟨a, 0, none⟩ = some (.pointer (some ⟨c.tr, 0, none⟩))) (with_reducible (first | exact S0 | exact S1 | exact S2)) (first
      | (go_at_call 19; (with_reducible refine ajkey_any v u K2 H6 ?_); intro w7 H7 I7; have S1 := AjAt.cell H7)
      | (go_at_call 24; (with_reducible refine aput_one K2 VV W2 hk hg2 hq2 R2 H7 ?_); intro w8 H8 I8; have S2 := AjAt.cell H8))
    clear S0 S1 S2
    go_wp2_with fail
    exact HH.out _ (AjAt.of H8) ((I6.trans I7).trans I8)
set_option maxRecDepth 100000 in
set_option maxHeartbeats 4000000 in
/-- What is no edge is told. -/
theorem aset_no {u v e : Int} {t : Bool} (he : Hid (e = Md.wrong u v)) (h0 : e ≠ 0) (H : Sat F w) (hR : ∀ w', Sat F w' → Io w w' → R (.returned (.int .i64 e)) w') :
    Calls Tryz.prog 11 #[.pointer (some ⟨a, 0, none⟩), .int .i64 u, .int .i64 v, .bool t] w R := by
  have HH := Lib.hid hR
  have hb : (e != 0) = true := by simp [h0]
  clear hR
  go_enter Tryz.func11, Tryz.ntmps11
  go_wp2_with (go_at_call 40; (with_reducible refine make_w H u v he ?_); intro x y w2 H2 I2; have H2 := (H2.new (.cells #[.int .i64 x, .int .i64 y] 35)).right; have I2 := I2.alloc (.cells #[.int .i64 x, .int .i64 y] 35))
  exact HH.out _ H2 I2
set_option maxRecDepth 100000 in
set_option maxHeartbeats 4000000 in
theorem aclear_no {u v e : Int} (he : Hid (e = Md.wrong u v)) (h0 : e ≠ 0) (H : Sat F w) (hR : ∀ w', Sat F w' → Io w w' → R (.returned (.int .i64 e)) w') :
    Calls Tryz.prog 14 #[.pointer (some ⟨a, 0, none⟩), .int .i64 u, .int .i64 v] w R := by
  have HH := Lib.hid hR
  have hb : (e != 0) = true := by simp [h0]
  clear hR
  go_enter Tryz.func14, Tryz.ntmps14
  go_wp2_with (go_at_call 40; (with_reducible refine make_w H u v he ?_); intro x y w2 H2 I2; have H2 := (H2.new (.cells #[.int .i64 x, .int .i64 y] 35)).right; have I2 := I2.alloc (.cells #[.int .i64 x, .int .i64 y] 35))
  exact HH.out _ H2 I2
set_option maxRecDepth 100000 in
set_option maxHeartbeats 8000000 in
/-- AN EDGE IS CLEARED. -/
theorem aclear_yes {u v : Int} {d : Bool} (h0 : Md.wrong u v = 0) (hd : Hid (d = Ky.has (Aj.ks u v) es)) (hk : c.k.n ≤ 3000) (hg : g ≤ 240) (hq : 60 ≤ q) (hroom : Hid (30 + (Tb.most q g : Int) < c.k.room))
    (H : Sat (AjAt a c es q g * F) w)
    (hR : ∀ w', Sat (AjAt a c (if d = true then Ky.del (Ky.del es (Aj.ks u v)) (Aj.ks v u) else es) q g * F) w' → Io w w' → R (.returned (.int .i64 (if d = true then 0 else 181))) w') :
    Calls Tryz.prog 14 #[.pointer (some ⟨a, 0, none⟩), .int .i64 u, .int .i64 v] w R := by
  have HE : Hid ((0 : Int) = Md.wrong u v) := Lib.hid h0.symm
  obtain ⟨k1, hk1⟩ : ∃ k, k = Aj.ks u v := ⟨_, rfl⟩
  obtain ⟨k2, hk2⟩ : ∃ k, k = Aj.ks v u := ⟨_, rfl⟩
  have K1 := Lib.hid hk1
  have K2 := Lib.hid hk2
  rw [← hk1, ← hk2] at hR
  rw [← hk1] at hd
  have HT := AjAt.tr H
  obtain ⟨d2, hd2⟩ : ∃ d2, d2 = Ky.has k2 (Ky.del es k1) := ⟨_, rfl⟩
  have HD2 := Lib.hid hd2
  cases d with
  | true =>
    simp only [if_true] at hR
    have HH := Lib.hid hR
    clear hR h0 hk1 hk2 H hd2
    go_enter Tryz.func14, Tryz.ntmps14
    go_upto_region 4 with (go_at_call 40; (with_reducible refine make_w HT u v HE ?_); intro x y w2 H2 I2; have H2 := (H2.new (.cells #[.int .i64 x, .int .i64 y] 35)).right; have I2 := I2.alloc (.cells #[.int .i64 x, .int .i64 y] 35))
    generalize w2.alloc (.cells #[.int .i64 x, .int .i64 y] 35) = w2b at *
    have H2d := H2.drew
    have I2d := I2.drew
    have S0 := AjAt.cell H2d
    go_region_held3 (fun W => W.cell? ⟨a, 0, none⟩ = some (.pointer (some ⟨c.tr, 0, none⟩))) (with_reducible (first | exact S0 | exact S1 | exact S2)) (first
      | (go_at_call 19; (with_reducible refine ajkey_any u v K1 H2d ?_); intro w4 H4 I4; have S1 := AjAt.cell H4)
      | (go_at_call 43; (with_reducible refine adel_one hd hk hg hq hroom H4 ?_); intro w5 H5 I5; have S2 := AjAt.cell H5))
    have J5 := (I2d.trans I4).trans I5
    clear S0 S1 S2 H2 H2d I2 I2d H4 I4 I5
    go_wp2_with fail
    have H6 := H5.drew
    have I6 := J5.drew
    have S0 := AjAt.cell H6
    clear H5 J5
    go_region_held3 (fun W => W.cell? ⟨a, 0, none⟩ = some (.pointer (some ⟨c.tr, 0, none⟩))) (with_reducible (first | exact S0 | exact S1 | exact S2)) (first
      | (go_at_call 19; (with_reducible refine ajkey_any v u K2 H6 ?_); intro w7 H7 I7; have S1 := AjAt.cell H7)
      | (go_at_call 43; (with_reducible refine adel_one HD2 hk hg hq hroom H7 ?_); intro w8 H8 I8; have S2 := AjAt.cell H8))
    clear S0 S1 S2
    go_wp2_with fail
    exact HH.out _ (AjAt.of H8) ((I6.trans I7).trans I8)
  | false =>
    simp only [Bool.false_eq_true, if_false] at hR
    have HH := Lib.hid hR
    clear hR h0 hk1 hk2 H hd2
    go_enter Tryz.func14, Tryz.ntmps14
    go_upto_region 4 with (go_at_call 40; (with_reducible refine make_w HT u v HE ?_); intro x y w2 H2 I2; have H2 := (H2.new (.cells #[.int .i64 x, .int .i64 y] 35)).right; have I2 := I2.alloc (.cells #[.int .i64 x, .int .i64 y] 35))
    generalize w2.alloc (.cells #[.int .i64 x, .int .i64 y] 35) = w2b at *
    have H2d := H2.drew
    have I2d := I2.drew
    have S0 := AjAt.cell H2d
    go_region_held3 (fun W => W.cell? ⟨a, 0, none⟩ = some (.pointer (some ⟨c.tr, 0, none⟩))) (with_reducible (first | exact S0 | exact S1 | exact S2)) (first
      | (go_at_call 19; (with_reducible refine ajkey_any u v K1 H2d ?_); intro w4 H4 I4; have S1 := AjAt.cell H4)
      | (go_at_call 43; (with_reducible refine adel_one hd hk hg hq hroom H4 ?_); intro w5 H5 I5; have S2 := AjAt.cell H5))
    have J5 := (I2d.trans I4).trans I5
    clear S0 S1 S2 H2 H2d I2 I2d H4 I4 I5
    go_wp2_with fail
    have e5 : Ky.del es k1 = es := by unfold Ky.del; rw [if_neg (by rw [← hd.out]; simp)]
    rw [e5] at H5
    exact HH.out _ (AjAt.of H5) J5
set_option maxRecDepth 100000 in
set_option maxHeartbeats 8000000 in
/-- AN EDGE's MARK. -/
theorem aget_yes {u v : Int} {val : ByteArray} {d m : Bool} (h0 : Md.wrong u v = 0) (hg : g ≤ 240) (hv : val.size ≤ 1000000) (hgt : Hid ((d = true ∧ Ky.get es (Aj.ks u v) = some val) ∨ (d = false ∧ val = ⟨#[]⟩ ∧ Ky.get es (Aj.ks u v) = none))) (hm : m = (val.toList == (Aj.vt true).toList))
    (H : Sat (AjAt a c es q g * F) w)
    (hR : ∀ w', Sat (AjAt a c es q g * F) w' → Io w w' → R (.returned (.tuple #[.bool m, .bool d, .int .i64 0])) w') :
    Calls Tryz.prog 33 #[.pointer (some ⟨a, 0, none⟩), .int .i64 u, .int .i64 v] w R := by
  have HE : Hid ((0 : Int) = Md.wrong u v) := Lib.hid h0.symm
  obtain ⟨k1, hk1⟩ : ∃ k, k = Aj.ks u v := ⟨_, rfl⟩
  have K1 := Lib.hid hk1
  rw [← hk1] at hgt
  have HT := AjAt.tr H
  have HH := Lib.hid hR
  have HM := Lib.hid hm
  clear hR h0 hk1 H hm
  go_enter Tryz.func33, Tryz.ntmps33
  go_upto_region 4 with (go_at_call 40; (with_reducible refine make_w HT u v HE ?_); intro x y w2 H2 I2; have H2 := (H2.new (.cells #[.int .i64 x, .int .i64 y] 35)).right; have I2 := I2.alloc (.cells #[.int .i64 x, .int .i64 y] 35))
  generalize w2.alloc (.cells #[.int .i64 x, .int .i64 y] 35) = w2b at *
  have H2d := H2.drew
  have I2d := I2.drew
  have S0 := AjAt.cell H2d
  go_region_held3 (fun W => W.cell? ⟨a, 0, none⟩ = some (.pointer (some ⟨c.tr, 0, none⟩))) (with_reducible (first | exact S0 | exact S1 | exact S2)) (first
    | (go_at_call 19; (with_reducible refine ajkey_any u v K1 H2d ?_); intro w4 H4 I4; have S1 := AjAt.cell H4)
    | (go_at_call 60; (with_reducible refine aget_one hg hgt H4 ?_); intro w5 H5 I5; have S2 := AjAt.cell H5))
  have J5 := (I2d.trans I4).trans I5
  clear S0 S1 S2 H2 H2d I2 I2d H4 I4 I5
  have e116 : (val.toList == [116]) = m := by
    rw [HM.out]
    have e : (Aj.vt true).toList = [116] := by unfold Aj.vt; simp
    rw [e]
  go_wp2_with fail
  exact bodyPost_ret (v := .tuple #[.bool m, .bool d, .int .i64 0]) (by simp [results, Tryz.results33, go_sem, e116]) rfl (HH.out _ (AjAt.of H5) J5)
end
end Go.Proofs.YthbbdicdcmjpiaaGreatDoor
