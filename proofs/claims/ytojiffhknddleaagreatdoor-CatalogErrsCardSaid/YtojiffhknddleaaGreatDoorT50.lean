/-
  A catalogue whose tree is done with: what its calls answer, by walks. It proves no statement by itself.
-/
import Derived.Test.YtojiffhknddleaaGreatDoorT46
import Derived.Test.YtojiffhknddleaaGreatDoorT44
import Derived.Test.YtojiffhknddleaaGreatDoorT48
namespace Go.Proofs.YtojiffhknddleaaGreatDoor
open Go.RowKit Go.Lib
set_option linter.unusedSimpArgs false
set_option linter.unusedVariables false
set_option linter.unusedSectionVars false
/-- A CATALOGUE WHOSE TREE IS DONE WITH. -/
def KtE (a : Nat) (c : Cq) : Asn := TrErr c * pts a (.cells #[.pointer (some ⟨c.tr, 0, none⟩)] 82 (0, 0))
section
variable {a : Nat} {c : Cq} {F : Asn} {w : World} {R : Ending → World → Prop}
theorem sat_kte : Sat (KtE a c * F) w ↔ Sat (TrErr c * (pts a (.cells #[.pointer (some ⟨c.tr, 0, none⟩)] 82 (0, 0)) * F)) w := by
  have e : KtE a c * F = TrErr c * (pts a (.cells #[.pointer (some ⟨c.tr, 0, none⟩)] 82 (0, 0)) * F) := by unfold KtE; ac_rfl
  rw [e]
set_option maxRecDepth 100000 in
set_option maxHeartbeats 4000000 in
theorem cget_err (k : ByteArray) (none' : Int)
    (H : Sat (TrErr c * (pts a (.cells #[.pointer (some ⟨c.tr, 0, none⟩)] 82 (0, 0)) * F)) w)
    (hR : ∀ w', Sat (TrErr c * (pts a (.cells #[.pointer (some ⟨c.tr, 0, none⟩)] 82 (0, 0)) * F)) w' → Io w w' → R (.returned (.tuple #[.agg #[.string k, .string ⟨#[]⟩], .int .i64 2])) w') :
    Calls Tryz.prog 55 #[.pointer (some ⟨a, 0, none⟩), .string k, .int .i64 none'] w R := by
  have HH := Lib.hid hR
  have H0 := H.new (.cells #[.string ⟨#[]⟩, .string ⟨#[]⟩] 50)
  have I0 := (Io.refl w).alloc (.cells #[.string ⟨#[]⟩, .string ⟨#[]⟩] 50)
  clear hR H
  go_enter Tryz.func55, Tryz.ntmps55
  go_upto_region 1 with fail
  generalize w.alloc (.cells #[.string ⟨#[]⟩, .string ⟨#[]⟩] 50) = w0 at *
  generalize w.heap.size = br at *
  have S0 := (nd1 H0.right.right).1
  go_wp2_with (go_at_call 66; (with_reducible refine get_err k (swap3 H0) ?_); intro w1 H1 I1; have K1 := swap3 H1; have Z := nd2 K1; obtain ⟨c0, c1⟩ := Z; have Y := nd2f K1; obtain ⟨d0, d1⟩ := Y; have K2 := en_fill (k := k) (x := ⟨#[]⟩) K1; have X := nd2 K2; obtain ⟨f0, f1⟩ := X)
  exact bodyPost_ret (v := .tuple #[.agg #[.string k, .string ⟨#[]⟩], .int .i64 2]) (by simp [results, Tryz.results55, go_sem, f0, f1]) rfl (HH.out _ K2.right (((I0.trans I1).setCell ⟨br, 0, none⟩ (.string k)).setCell ⟨br, 1, none⟩ (.string ⟨#[]⟩)))
set_option maxRecDepth 100000 in
set_option maxHeartbeats 8000000 in
theorem cversion_err (id : Int) (H : Sat (KtE a c * F) w)
    (hR : ∀ w', Sat (KtE a c * F) w' → Io w w' → R (.returned (.tuple #[.agg #[.int .i64 0, .int .i64 0, .int .i64 0, .int .i64 0], .int .i64 2])) w') :
    Calls Tryz.prog 26 #[.pointer (some ⟨a, 0, none⟩), .int .i64 id] w R := by
  have HH := Lib.hid fun w' H' I => hR w' (sat_kte.2 H') I
  obtain ⟨k, hk⟩ : ∃ k, k = Ca.kk id := ⟨_, rfl⟩
  have HK := Lib.hid hk
  have H1 := (sat_kte.1 H).new (.cells #[.int .i64 0, .int .i64 0, .int .i64 0, .int .i64 0] 30)
  have I1 := (Io.refl w).alloc (.cells #[.int .i64 0, .int .i64 0, .int .i64 0, .int .i64 0] 30)
  obtain ⟨d, hd⟩ : ∃ d, d = decide (Ca.okId id) := ⟨_, rfl⟩
  have HD := Lib.hid hd
  clear hR hk hd H
  go_enter Tryz.func26, Tryz.ntmps26
  go_upto_region 1 with fail
  generalize w.alloc (.cells #[.int .i64 0, .int .i64 0, .int .i64 0, .int .i64 0] 30) = w1 at *
  generalize w.heap.size = br at *
  cases d with
  | true =>
    go_wp2_with (first
      | (go_at_call 36; (with_reducible refine ckey_any id HK HD H1 ?_); intro w2 H2 I2)
      | (go_at_call 55; (with_reducible refine cget_err _ 190 (cg_1 H2) ?_); intro w3 H3 I3; have H4 := H3.new (.cells #[.string k, .string ⟨#[]⟩] 50); have I4 := I3.alloc (.cells #[.string k, .string ⟨#[]⟩] 50); have K5 := cg_2 H4; have Z := nd4 K5; obtain ⟨c0, c1, c2, c3⟩ := Z; have Y := nd4f K5; obtain ⟨d0, d1, d2, d3⟩ := Y; have K6 := ver_fill (i := 0) (pa := 0) (ro := 0) (ed := 0) K5; have X := nd4 K6; obtain ⟨f0, f1, f2, f3⟩ := X)
      | fail)
    have J6 := (((I1.trans I2).trans I4).setCell ⟨br, 0, none⟩ (.int .i64 0)).setCell ⟨br, 1, none⟩ (.int .i64 0)
    have J6 := (J6.setCell ⟨br, 2, none⟩ (.int .i64 0)).setCell ⟨br, 3, none⟩ (.int .i64 0)
    have FIN := Lib.hid (HH.out _ K6.right J6)
    exact bodyPost_ret (v := .tuple #[.agg #[.int .i64 0, .int .i64 0, .int .i64 0, .int .i64 0], .int .i64 2]) (by simp [results, Tryz.results26, go_sem, f0, f1, f2, f3]) rfl FIN.out
  | false =>
    go_wp2_with (first
      | (go_at_call 36; (with_reducible refine ckey_any id HK HD H1 ?_); intro w2 H2 I2)
      | (go_at_call 55; (with_reducible refine cget_err _ 190 (cg_1 H2) ?_); intro w3 H3 I3; have H4 := H3.new (.cells #[.string ⟨#[86]⟩, .string ⟨#[]⟩] 50); have I4 := I3.alloc (.cells #[.string ⟨#[86]⟩, .string ⟨#[]⟩] 50); have K5 := cg_2 H4; have Z := nd4 K5; obtain ⟨c0, c1, c2, c3⟩ := Z; have Y := nd4f K5; obtain ⟨d0, d1, d2, d3⟩ := Y; have K6 := ver_fill (i := 0) (pa := 0) (ro := 0) (ed := 0) K5; have X := nd4 K6; obtain ⟨f0, f1, f2, f3⟩ := X)
      | fail)
    have J6 := (((I1.trans I2).trans I4).setCell ⟨br, 0, none⟩ (.int .i64 0)).setCell ⟨br, 1, none⟩ (.int .i64 0)
    have J6 := (J6.setCell ⟨br, 2, none⟩ (.int .i64 0)).setCell ⟨br, 3, none⟩ (.int .i64 0)
    have FIN := Lib.hid (HH.out _ K6.right J6)
    exact bodyPost_ret (v := .tuple #[.agg #[.int .i64 0, .int .i64 0, .int .i64 0, .int .i64 0], .int .i64 2]) (by simp [results, Tryz.results26, go_sem, f0, f1, f2, f3]) rfl FIN.out
set_option maxRecDepth 100000 in
set_option maxHeartbeats 8000000 in
theorem chd_err (n : Ky.Nm) (ZN : Hid (n.size ≤ 1000)) (H : Sat (KtE a c * F) w)
    (hR : ∀ w', Sat (KtE a c * F) w' → Io w w' → R (.returned (.tuple #[.int .i64 0, .int .i64 2])) w') :
    Calls Tryz.prog 27 #[.pointer (some ⟨a, 0, none⟩), .string n] w R := by
  have HH := Lib.hid fun w' H' I => hR w' (sat_kte.2 H') I
  obtain ⟨d, hd⟩ : ∃ d, d = Md.nameOk n := ⟨_, rfl⟩
  have HD := Lib.hid hd
  have ZM : Hid (n.size ≤ 9223372036854775807) := Lib.hid (by have := ZN.out; omega)
  have n12 : (n.size : Int) ≤ 1000 := by have := ZN.out; omega
  have K0 := sat_kte.1 H
  clear hR hd H
  go_enter Tryz.func27, Tryz.ntmps27
  cases d with
  | true =>
    go_wp2_with (first
      | (go_at_call 13; (with_reducible refine name_any n ZM.out HD K0 ?_); intro w1 H1 I1)
      | (go_at_call 55; (with_reducible refine cget_err _ 191 H1 ?_); intro w3 H3 I3; have H4 := H3.new (.cells #[.string ((⟨#[72]⟩ : ByteArray) ++ n), .string ⟨#[]⟩] 50); have I4 := I3.alloc (.cells #[.string ((⟨#[72]⟩ : ByteArray) ++ n), .string ⟨#[]⟩] 50))
      | fail)
    have FIN := Lib.hid (HH.out _ H4.right (I1.trans I4))
    exact FIN.out
  | false =>
    go_wp2_with (first
      | (go_at_call 13; (with_reducible refine name_any n ZM.out HD K0 ?_); intro w1 H1 I1)
      | (go_at_call 55; (with_reducible refine cget_err _ 191 H1 ?_); intro w3 H3 I3; have H4 := H3.new (.cells #[.string ⟨#[72]⟩, .string ⟨#[]⟩] 50); have I4 := I3.alloc (.cells #[.string ⟨#[72]⟩, .string ⟨#[]⟩] 50))
      | fail)
    have FIN := Lib.hid (HH.out _ H4.right (I1.trans I4))
    exact FIN.out
set_option maxRecDepth 100000 in
set_option maxHeartbeats 2000000 in
theorem allV_err (fr ub : ByteArray) (H : Sat (TrErr c * F) w)
    (hR : ∀ w', Sat (TrErr c * F) w' → Io w w' → R (.returned (.tuple #[.slice none 0 0, .int .i64 2])) w') :
    Calls Tryz.prog 53 #[.pointer (some ⟨c.tr, 0, none⟩), .string fr, .string ub, .func (.func 54) #[] #[]] w R := by
  have HH := Lib.hid hR
  clear hR
  go_enter Tryz.func53, Tryz.ntmps53
  go_wp2_with (go_at_call 24; (with_reducible refine scan_err fr ub H ?_); intro w1 H1 I1)
  exact HH.out _ H1 I1
set_option maxRecDepth 100000 in
set_option maxHeartbeats 2000000 in
theorem allB_err (fr ub : ByteArray) (H : Sat (TrErr c * F) w)
    (hR : ∀ w', Sat (TrErr c * F) w' → Io w w' → R (.returned (.tuple #[.slice none 0 0, .int .i64 2])) w') :
    Calls Tryz.prog 40 #[.pointer (some ⟨c.tr, 0, none⟩), .string fr, .string ub, .func (.func 41) #[] #[]] w R := by
  have HH := Lib.hid hR
  clear hR
  go_enter Tryz.func40, Tryz.ntmps40
  go_wp2_with (go_at_call 24; (with_reducible refine scan_err fr ub H ?_); intro w1 H1 I1)
  exact HH.out _ H1 I1
set_option maxRecDepth 100000 in
set_option maxHeartbeats 2000000 in
theorem versions_err (H : Sat (KtE a c * F) w)
    (hR : ∀ w', Sat (KtE a c * F) w' → Io w w' → R (.returned (.tuple #[.slice none 0 0, .int .i64 2])) w') :
    Calls Tryz.prog 25 #[.pointer (some ⟨a, 0, none⟩)] w R := by
  have HH := Lib.hid fun w' H' I => hR w' (sat_kte.2 H') I
  have K0 := sat_kte.1 H
  have S0 := (nd1 K0.right).1
  clear hR H
  go_enter Tryz.func25, Tryz.ntmps25
  go_wp2_with (go_at_call 53; (with_reducible refine allV_err _ _ K0 ?_); intro w1 H1 I1)
  first | exact HH.out _ H1 I1 | exact bodyPost_ret (v := .tuple #[.slice none 0 0, .int .i64 2]) (by simp [results, Tryz.results25, go_sem]) rfl (HH.out _ H1 I1)
set_option maxRecDepth 100000 in
set_option maxHeartbeats 2000000 in
theorem branches_err (H : Sat (KtE a c * F) w)
    (hR : ∀ w', Sat (KtE a c * F) w' → Io w w' → R (.returned (.tuple #[.slice none 0 0, .int .i64 2])) w') :
    Calls Tryz.prog 12 #[.pointer (some ⟨a, 0, none⟩)] w R := by
  have HH := Lib.hid fun w' H' I => hR w' (sat_kte.2 H') I
  have K0 := sat_kte.1 H
  have S0 := (nd1 K0.right).1
  clear hR H
  go_enter Tryz.func12, Tryz.ntmps12
  go_wp2_with (go_at_call 40; (with_reducible refine allB_err _ _ K0 ?_); intro w1 H1 I1)
  first | exact HH.out _ H1 I1 | exact bodyPost_ret (v := .tuple #[.slice none 0 0, .int .i64 2]) (by simp [results, Tryz.results12, go_sem]) rfl (HH.out _ H1 I1)
set_option maxRecDepth 100000 in
set_option maxHeartbeats 2000000 in
theorem kdrop_err (id : Int) (H : Sat (KtE a c * F) w)
    (hR : ∀ w', Sat (KtE a c * F) w' → Io w w' → R (.returned (.int .i64 2)) w') :
    Calls Tryz.prog 16 #[.pointer (some ⟨a, 0, none⟩), .int .i64 id] w R := by
  have HH := Lib.hid hR
  clear hR
  go_enter Tryz.func16, Tryz.ntmps16
  go_wp2_with (first
    | (go_at_call 26; (with_reducible refine cversion_err id H ?_); intro w3 H3 I3; have H4 := (H3.new (.cells #[.int .i64 0, .int .i64 0, .int .i64 0, .int .i64 0] 30)).right; have I4 := I3.alloc (.cells #[.int .i64 0, .int .i64 0, .int .i64 0, .int .i64 0] 30))
    | fail)
  exact HH.out _ H4 I4
set_option maxRecDepth 100000 in
set_option maxHeartbeats 2000000 in
theorem kmake_err (n : Ky.Nm) (id : Int) (ZN : Hid (n.size ≤ 1000)) (H : Sat (KtE a c * F) w)
    (hR : ∀ e w', Hid (e = 193 ∨ e = 2) → Sat (KtE a c * F) w' → Io w w' → R (.returned (.int .i64 e)) w') :
    Calls Tryz.prog 11 #[.pointer (some ⟨a, 0, none⟩), .string n, .int .i64 id] w R := by
  have HH := Lib.hid hR
  have ZM : Hid (n.size ≤ 9223372036854775807) := Lib.hid (by have := ZN.out; omega)
  obtain ⟨d, hd⟩ : ∃ d, d = Md.nameOk n := ⟨_, rfl⟩
  have HD := Lib.hid hd
  clear hR hd
  go_enter Tryz.func11, Tryz.ntmps11
  cases d with
  | false =>
    go_wp2_with (go_at_call 13; (with_reducible refine name_any n ZM.out HD H ?_); intro w1 H1 I1)
    exact HH.out 193 _ (Lib.hid (.inl rfl)) H1 I1
  | true =>
    go_wp2_with (first
      | (go_at_call 13; (with_reducible refine name_any n ZM.out HD H ?_); intro w1 H1 I1)
      | (go_at_call 27; (with_reducible refine chd_err n ZN H1 ?_); intro w2 H2 I2)
      | fail)
    exact HH.out 2 _ (Lib.hid (.inr rfl)) H2 (I1.trans I2)
end
end Go.Proofs.YtojiffhknddleaaGreatDoor

/-
  catalog: Put, Make, Drop where pages may run out, by walks. It proves no statement by itself.
-/
namespace Go.Proofs.YtojiffhknddleaaGreatDoor
open Go.RowKit Go.Lib
set_option linter.unusedSimpArgs false
set_option linter.unusedVariables false
set_option linter.unusedSectionVars false
section
variable {a : Nat} {c : Cq} {F : Asn} {w : World} {R : Ending → World → Prop} {V : List Md.Ver} {B : List Md.Br} {q g : Nat}
/-- A key put, or no page was left. -/
theorem kt_put2 {es : List Ky.En} {key val : ByteArray} (hc : Hid (Ky.chk key val = 0)) (ho : Hid (Ky.one (key, val) ≤ 19)) (hk : c.k.n ≤ 3000) (hg : g ≤ 240) (hq : 60 ≤ q) (H : Sat (TrAt c es q g * F) w)
    (hR : ∀ y w', ((y = 0 ∧ Sat (TrAt c (Ky.put es key val) (q + 19) (g + 1) * F) w') ∨ (y = 2 ∧ Sat (TrErr c * F) w')) → Io w w' → R (.returned (.int .i64 y)) w') :
    Calls Tryz.prog 23 #[.pointer (some ⟨c.tr, 0, none⟩), .string key, .string val] w R := by
  have hl := Tb.loc_put hc.out
  refine ctput_any hk hg hq hc.out hl trivial H fun x w' D I => ?_
  rcases D with ⟨rfl, H'⟩ | ⟨rfl, h1, H'⟩
  · exact hR 0 w' (.inl ⟨rfl, TrAt.mono (by have := ho.out; omega) (by omega) H'⟩) I
  · exact hR 2 w' (.inr ⟨rfl, H'⟩) I
theorem kt_del2 {es : List Ky.En} {k : ByteArray} (hk : c.k.n ≤ 3000) (hg : g ≤ 240) (hq : 60 ≤ q) (H : Sat (TrAt c es q g * F) w)
    (hR : ∀ d y w', ((y = 0 ∧ Sat (TrAt c (Ky.del es k) q g * F) w') ∨ (y = 2 ∧ Sat (TrErr c * F) w')) → Io w w' → R (.returned (.tuple #[.bool d, .int .i64 y])) w') :
    Calls Tryz.prog 43 #[.pointer (some ⟨c.tr, 0, none⟩), .string k] w R := by
  cases hh : Ky.has k es with
  | true =>
    refine ctdel_yes hk hg hq (TrAt.right H) hh H fun d x w' D I => ?_
    rcases D with ⟨rfl, rfl, H'⟩ | ⟨rfl, rfl, h1, H'⟩
    · exact hR _ 0 w' (.inl ⟨rfl, H'⟩) I
    · exact hR _ 2 w' (.inr ⟨rfl, H'⟩) I
  | false =>
    refine ctdel_no hg hh H fun w' H' I => hR _ 0 w' (.inl ⟨rfl, ?_⟩) I
    have e : Ky.del es k = es := by unfold Ky.del; rw [if_neg (by rw [hh]; simp)]
    rw [e]; exact H'
set_option maxRecDepth 100000 in
set_option maxHeartbeats 8000000 in
theorem kput_gen {T : Asn} {O : Int → World → Prop} (v : Md.Ver) (ok : Ca.OkV v)
    (hput : ∀ (w : World) (R : Ending → World → Prop), Sat (T * (pts a (.cells #[.pointer (some ⟨c.tr, 0, none⟩)] 82 (0, 0)) * F)) w → (∀ y w', O y w' → Io w w' → R (.returned (.int .i64 y)) w') → Calls Tryz.prog 23 #[.pointer (some ⟨c.tr, 0, none⟩), .string (Ca.vk v.id), .string (Ca.vl v)] w R)
    (hcell : Hid (∀ y w', O y w' → w'.cell? ⟨a, 0, none⟩ = some (.pointer (some ⟨c.tr, 0, none⟩)))) (H : Sat (T * (pts a (.cells #[.pointer (some ⟨c.tr, 0, none⟩)] 82 (0, 0)) * F)) w)
    (hR : ∀ y w', O y w' → Io w w' → R (.returned (.int .i64 y)) w') :
    Calls Tryz.prog 10 #[.pointer (some ⟨a, 0, none⟩), .agg #[.int .i64 v.id, .int .i64 v.parent, .int .i64 v.root, .int .i64 v.edges]] w R := by
  have HH := Lib.hid hR
  obtain ⟨x, hx⟩ : ∃ x, Ca.vl v = x := ⟨_, rfl⟩
  have HX : Hid (tx (cat [tx (be 4 v.parent.toNat), tx (be 4 v.root.toNat), tx (be 4 v.edges.toNat)]) = x) := Lib.hid (by rw [Ca.vl_cat, hx])
  obtain ⟨k, hk0⟩ : ∃ k, k = Ca.kk v.id := ⟨_, rfl⟩
  have HK := Lib.hid hk0
  have hkv : k = Ca.vk v.id := by rw [hk0, Ca.kk_id ok.id]
  rw [← hkv, hx] at hput
  have HPUT := Lib.hid hput
  have HD : Hid (true = decide (Ca.okId v.id)) := Lib.hid (decide_eq_true ok.id).symm
  obtain ⟨i, pa, ro, ed⟩ := v
  obtain ⟨ok1, ok2, ok3, ok4⟩ := ok
  simp only at ok1 ok2 ok3 ok4 HX HD
  have P1 := Ca.putS_ok (n := pa) (by omega)
  have P2 := Ca.putS_ok (n := ro) ok3
  have P3 := Ca.putS_ok (n := ed) ok4
  obtain ⟨s1, h1⟩ : ∃ s, tx (be 4 pa.toNat) = s := ⟨_, rfl⟩
  obtain ⟨s2, h2⟩ : ∃ s, tx (be 4 ro.toNat) = s := ⟨_, rfl⟩
  obtain ⟨s3, h3⟩ : ∃ s, tx (be 4 ed.toNat) = s := ⟨_, rfl⟩
  rw [h1] at P1 HX
  rw [h2] at P2 HX
  rw [h3] at P3 HX
  have E1 := Lib.hid P1.1
  have E2 := Lib.hid P2.1
  have E3 := Lib.hid P3.1
  have G1 := Lib.hid P1.2
  have G2 := Lib.hid P2.2
  have G3 := Lib.hid P3.2
  have ZZ : Hid (s1.size ≤ 100 ∧ s2.size ≤ 100 ∧ s3.size ≤ 100) := Lib.hid (by rw [← h1, ← h2, ← h3, tx_size, tx_size, tx_size, be_length, be_length, be_length]; omega)
  have n2 : pa ≤ 1048576 := ok2.2
  have H1 := H.new (.cells #[.int .i64 i, .int .i64 pa, .int .i64 ro, .int .i64 ed] 30)
  have I1 := (Io.refl w).alloc (.cells #[.int .i64 i, .int .i64 pa, .int .i64 ro, .int .i64 ed] 30)
  clear hR H hx hk0 hkv ok1 ok2 ok3 ok4 P1 P2 P3 h1 h2 h3 hput
  go_enter Tryz.func10, Tryz.ntmps10
  go_upto_region 1 with fail
  generalize w.alloc (.cells #[.int .i64 i, .int .i64 pa, .int .i64 ro, .int .i64 ed] 30) = w1 at *
  generalize w.heap.size = bx at *
  have Z := nd4 H1
  obtain ⟨a0, a1, a2, a3⟩ := Z
  go_upto_region 7 with (first
    | (go_at_call 36; (with_reducible refine ckey_any i HK HD H1 ?_); intro w2 H2 I2; have Z := nd4 H2; obtain ⟨b0, b1, b2, b3⟩ := Z)
    | (go_at_call 37; (with_reducible refine put4_w pa E1 G1 H2 ?_); intro w3 H3 I3; have Z := nd4 H3; obtain ⟨c0, c1, c2, c3⟩ := Z)
    | (go_at_call 37; (with_reducible refine put4_w ro E2 G2 H3 ?_); intro w4 H4 I4; have Z := nd4 H4; obtain ⟨d0, d1, d2, d3⟩ := Z)
    | (go_at_call 37; (with_reducible refine put4_w ed E3 G3 H4 ?_); intro w5 H5 I5; have Z := nd4 H5; obtain ⟨e0, e1, e2, e3⟩ := Z)
    | fail)
  have Kd := H5.right.drew
  have Jd := ((((I1.trans I2).trans I3).trans I4).trans I5).drew
  have S0 := (nd1 Kd.right).1
  have Ka := (H5.right.new (.cells #[.string s1, .string s2, .string s3] 9)).drew
  have Ja := (((((I1.trans I2).trans I3).trans I4).trans I5).alloc (.cells #[.string s1, .string s2, .string s3] 9)).drew
  have S3 := (nd1 Ka.right.right).1
  clear H1 H2 H3 H4 H5 I1 I2 I3 I4 I5 a0 a1 a2 a3 b0 b1 b2 b3 c0 c1 c2 c3 d0 d1 d2 d3 e0 e1 e2 e3
  go_region_held3 (fun W => W.cell? ⟨a, 0, none⟩ = some (.pointer (some ⟨c.tr, 0, none⟩))) (with_reducible (first | exact S0 | exact S1 | exact S2 | exact S3)) (first
    | (go_at_call 38; (refine cjoin3 rfl ZZ HX Ka ?_); intro w6 H6 I6; have S1 := (nd1 H6.right.right).1)
    | (go_at_call 23; (with_reducible refine HPUT.out _ _ H6.right ?_); intro y w7 H7 I7; have S2 := hcell.out _ _ H7))
  go_wp2_with fail
  exact HH.out _ _ H7 ((Ja.trans I6).trans I7)
/-- Put, where pages may run out. -/
theorem kput2_any (x1 x2 x3 x4 : Int) (hk : c.k.n ≤ 3000) (hg : g ≤ 240) (hq : 60 ≤ q) (H : Sat (KtAt a c V B q g * F) w)
    (hR : ∀ e w', Hid ((∃ V', Sat (KtAt a c V' B (q + 19) (g + 1) * F) w' ∧ V'.length ≤ V.length + 1 ∧ (e = 0 ∨ e = 1)) ∨ (e = 2 ∧ Sat (KtE a c * F) w')) → Io w w' → R (.returned (.int .i64 e)) w') :
    Calls Tryz.prog 10 #[.pointer (some ⟨a, 0, none⟩), .agg #[.int .i64 x1, .int .i64 x2, .int .i64 x3, .int .i64 x4]] w R := by
  by_cases ok : Ca.OkV ⟨x1, x2, x3, x4⟩
  · obtain ⟨es, cat', K⟩ := sat_kt.1 H
    refine kput_gen (T := TrAt c es q g) (F := F) (O := fun y w' => (y = 0 ∧ Sat (TrAt c (Ky.put es (Ca.vk x1) (Ca.vl ⟨x1, x2, x3, x4⟩)) (q + 19) (g + 1) * (pts a (.cells #[.pointer (some ⟨c.tr, 0, none⟩)] 82 (0, 0)) * F)) w') ∨ (y = 2 ∧ Sat (TrErr c * (pts a (.cells #[.pointer (some ⟨c.tr, 0, none⟩)] 82 (0, 0)) * F)) w')) ⟨x1, x2, x3, x4⟩ ok
      (fun w R H' h => kt_put2 (Lib.hid (Ca.vk_chk _ _)) (Lib.hid (by rw [Ca.one_v]; omega)) hk hg hq H' h) (Lib.hid fun y w' D => D.elim (fun h => (nd1 h.2.right).1) (fun h => (nd1 h.2.right).1)) K fun y w' D I => hR y w' (Lib.hid ?_) I
    rcases D with ⟨rfl, H'⟩ | ⟨rfl, H'⟩
    · exact .inl ⟨_, sat_kt.2 ⟨_, cat'.putV ok, H'⟩, Ca.vput_len _ _, .inl rfl⟩
    · exact .inr ⟨rfl, sat_kte.2 H'⟩
  · exact kput_no ⟨x1, x2, x3, x4⟩ ok H fun w' H' I => hR _ w' (Lib.hid (.inl ⟨V, KtAt.mono (by omega) (by omega) H', by omega, .inr rfl⟩)) I
theorem kput_err (x1 x2 x3 x4 : Int) (H : Sat (KtE a c * F) w)
    (hR : ∀ e w', Hid (e = 1 ∨ e = 2) → Sat (KtE a c * F) w' → Io w w' → R (.returned (.int .i64 e)) w') :
    Calls Tryz.prog 10 #[.pointer (some ⟨a, 0, none⟩), .agg #[.int .i64 x1, .int .i64 x2, .int .i64 x3, .int .i64 x4]] w R := by
  by_cases ok : Ca.OkV ⟨x1, x2, x3, x4⟩
  · refine kput_gen (T := TrErr c) (F := F) (O := fun y w' => y = 2 ∧ Sat (TrErr c * (pts a (.cells #[.pointer (some ⟨c.tr, 0, none⟩)] 82 (0, 0)) * F)) w') ⟨x1, x2, x3, x4⟩ ok
      (fun w R H' h => put_err _ _ H' fun w' H'' I => h 2 w' ⟨rfl, H''⟩ I) (Lib.hid fun y w' D => (nd1 D.2.right).1) (sat_kte.1 H) fun y w' D I => hR y w' (Lib.hid (.inr D.1)) (sat_kte.2 D.2) I
  · exact kput_no ⟨x1, x2, x3, x4⟩ ok H fun w' H' I => hR 1 w' (Lib.hid (.inl rfl)) H' I
set_option maxRecDepth 100000 in
set_option maxHeartbeats 8000000 in
/-- A BRANCH IS MADE, or why not is told. -/
theorem kmake2_any (n : Ky.Nm) (id : Int) {e : Int} {B' : List Md.Br} (hm : Hid (Md.mk V B n id = (e, B'))) (ZN : Hid (n.size ≤ 1000)) (hl : V.length + B.length ≤ 1000) (hk : c.k.n ≤ 3000) (hg : g ≤ 240) (hq : 60 ≤ q) (H : Sat (KtAt a c V B q g * F) w)
    (hR : ∀ e' w', Hid ((e' = e ∧ Sat (KtAt a c V B' (q + 19) (g + 1) * F) w') ∨ (e' = 2 ∧ Sat (KtE a c * F) w')) → Io w w' → R (.returned (.int .i64 e')) w') :
    Calls Tryz.prog 11 #[.pointer (some ⟨a, 0, none⟩), .string n, .int .i64 id] w R := by
  have HH := Lib.hid hR
  have HG := Lib.hid hg
  have HL := Lib.hid hl
  have HQ := Lib.hid hq
  have HKN := Lib.hid hk
  have ZM : Hid (n.size ≤ 9223372036854775807) := Lib.hid (by have := ZN.out; omega)
  have n1 : (n.size : Int) ≤ 1000 := by have := ZN.out; omega
  have n2 : ¬ 9223372036854775807 < 1 + n.size := by have := ZN.out; omega
  have n3 : ¬ 9223372036854775807 < (⟨#[72]⟩ : ByteArray).size + n.size := n2
  have hx := hm.out
  unfold Md.mk at hx
  clear hR hm hg hl hq hk
  go_enter Tryz.func11, Tryz.ntmps11
  by_cases h1 : Md.nameOk n = false
  · rw [if_pos h1, Prod.mk.injEq] at hx
    obtain ⟨rfl, rfl⟩ := hx
    have HD : Hid (false = Md.nameOk n) := Lib.hid h1.symm
    clear h1
    go_wp2_with (go_at_call 13; (with_reducible refine name_any n ZM.out HD H ?_); intro w1 H1 I1)
    exact HH.out _ _ (Lib.hid (.inl ⟨rfl, KtAt.mono (by omega) (by omega) H1⟩)) I1
  · rw [if_neg h1] at hx
    have HD : Hid (true = Md.nameOk n) := Lib.hid (by cases e : Md.nameOk n <;> simp_all)
    clear h1
    by_cases h2 : Md.bplace B n < B.length
    · rw [if_pos h2, Prod.mk.injEq] at hx
      obtain ⟨rfl, rfl⟩ := hx
      have HV : Hid (Ca.hat B n = ((B[Md.bplace B n]'h2).head, 0)) := Lib.hid (by unfold Ca.hat; rw [dif_pos h2])
      generalize (B[Md.bplace B n]'h2).head = hd at HV
      clear h2
      go_wp2_with (first
        | (go_at_call 13; (with_reducible refine name_any n ZM.out HD H ?_); intro w1 H1 I1)
        | (go_at_call 27; (with_reducible refine chd_any n HV ZN HG.out H1 ?_); intro w2 H2 I2)
        | fail)
      exact HH.out _ _ (Lib.hid (.inl ⟨rfl, KtAt.mono (by omega) (by omega) H2⟩)) (I1.trans I2)
    · rw [if_neg h2] at hx
      have HV : Hid (Ca.hat B n = (0, 191)) := Lib.hid (by unfold Ca.hat; rw [dif_neg h2])
      have HP := Lib.hid h2
      clear h2
      by_cases h3 : ¬ Md.vplace V id < V.length
      · rw [if_pos h3, Prod.mk.injEq] at hx
        obtain ⟨rfl, rfl⟩ := hx
        have HW : Hid (Ca.vat V id = (Ca.v0, 190)) := Lib.hid (by unfold Ca.vat; rw [dif_neg h3])
        clear h3
        go_wp2_with (first
          | (go_at_call 13; (with_reducible refine name_any n ZM.out HD H ?_); intro w1 H1 I1)
          | (go_at_call 27; (with_reducible refine chd_any n HV ZN HG.out H1 ?_); intro w2 H2 I2)
          | (go_at_call 26; (with_reducible refine cversion_any id HW HG.out H2 ?_); intro w3 H3 I3; have H4 := (H3.new (.cells #[.int .i64 0, .int .i64 0, .int .i64 0, .int .i64 0] 30)).right; have I4 := I3.alloc (.cells #[.int .i64 0, .int .i64 0, .int .i64 0, .int .i64 0] 30))
          | fail)
        exact HH.out _ _ (Lib.hid (.inl ⟨rfl, KtAt.mono (by omega) (by omega) H4⟩)) ((I1.trans I2).trans I4)
      · rw [if_neg h3] at hx
        have h3' : Md.vplace V id < V.length := by omega
        have HP3 := Lib.hid h3'
        have HW : Hid (Ca.vat V id = (V[Md.vplace V id]'h3', 0)) := Lib.hid (by unfold Ca.vat; rw [dif_pos h3'])
        generalize V[Md.vplace V id]'h3' = vv at HW
        obtain ⟨x1, x2, x3, x4⟩ := vv
        clear h3 h3'
        by_cases h4 : 64 ≤ B.length
        · rw [if_pos h4, Prod.mk.injEq] at hx
          obtain ⟨rfl, rfl⟩ := hx
          have n4 : (64 : Int) ≤ (B.length : Int) := by omega
          clear h4
          go_wp2_with (first
            | (go_at_call 13; (with_reducible refine name_any n ZM.out HD H ?_); intro w1 H1 I1)
            | (go_at_call 27; (with_reducible refine chd_any n HV ZN HG.out H1 ?_); intro w2 H2 I2)
            | (go_at_call 26; (with_reducible refine cversion_any id HW HG.out H2 ?_); intro w3 H3 I3; have H4 := (H3.new (.cells #[.int .i64 x1, .int .i64 x2, .int .i64 x3, .int .i64 x4] 30)).right; have I4 := I3.alloc (.cells #[.int .i64 x1, .int .i64 x2, .int .i64 x3, .int .i64 x4] 30))
            | (go_at_call 12; (with_reducible refine branches_any HG.out HL.out H4 ?_); intro vb w5 H5 I5; obtain ⟨ab, cb, hq⟩ := rowOf_shl H5; subst hq)
            | fail)
          exact HH.out _ _ (Lib.hid (.inl ⟨rfl, KtAt.mono (by omega) (by omega) H5.right⟩)) (((I1.trans I2).trans I4).trans I5)
        · rw [if_neg h4, Prod.mk.injEq] at hx
          obtain ⟨rfl, rfl⟩ := hx
          have n4 : ¬ (64 : Int) ≤ (B.length : Int) := by omega
          have n5 : (B.length : Int) < 64 := by omega
          clear h4
          obtain ⟨kb, hkb⟩ : ∃ kb, putS 4 id = kb := ⟨_, rfl⟩
          have HKB := Lib.hid hkb
          clear hkb
          go_upto_region 16 with (first
            | (go_at_call 13; (with_reducible refine name_any n ZM.out HD H ?_); intro w1 H1 I1)
            | (go_at_call 27; (with_reducible refine chd_any n HV ZN HG.out H1 ?_); intro w2 H2 I2)
            | (go_at_call 26; (with_reducible refine cversion_any id HW HG.out H2 ?_); intro w3 H3 I3; have H4 := (H3.new (.cells #[.int .i64 x1, .int .i64 x2, .int .i64 x3, .int .i64 x4] 30)).right; have I4 := I3.alloc (.cells #[.int .i64 x1, .int .i64 x2, .int .i64 x3, .int .i64 x4] 30))
            | (go_at_call 12; (with_reducible refine branches_any HG.out HL.out H4 ?_); intro vb w5 H5 I5; obtain ⟨ab, cb, hq⟩ := rowOf_shl H5; subst hq)
            | fail)
          obtain ⟨es, cat', K⟩ := sat_kt.1 H5.right
          have hid := Ca.vplace_ok cat' HP3.out
          have hn := HD.out.symm
          have hkb : kb = Ca.bl id := by rw [← HKB.out, (Ca.putS_id hid).1]; rfl
          have HC2 := Lib.hid (cat'.make hn hid HP.out)
          have HCH : Hid (Ky.chk ((⟨#[72]⟩ : ByteArray) ++ n) kb = 0) := Lib.hid (by rw [hkb]; exact Ca.bk_chk hn id)
          have HON : Hid (Ky.one ((⟨#[72]⟩ : ByteArray) ++ n, kb) ≤ 19) := Lib.hid (by rw [hkb]; exact Ca.one_b hn id)
          have HF : Hid (Ky.put es ((⟨#[72]⟩ : ByteArray) ++ n) kb = Ky.put es (Ca.bk n) (Ca.bl id)) := Lib.hid (by rw [hkb]; rfl)
          have Kd := K.drew
          have Jd := (((I1.trans I2).trans I4).trans I5).drew
          have S0 := (nd1 Kd.right).1
          clear H H1 H2 H3 H4 H5 I1 I2 I3 I4 I5 K hid hn hkb cat'
          go_region_held3 (fun W => W.cell? ⟨a, 0, none⟩ = some (.pointer (some ⟨c.tr, 0, none⟩))) (with_reducible (first | exact S0 | exact S1 | exact S2)) (first
            | (go_at_call 39; (with_reducible refine chead_any id HKB Kd ?_); intro w6 H6 I6; have S1 := (nd1 H6.right).1)
            | (go_at_call 23; (with_reducible refine kt_put2 HCH HON HKN.out HG.out HQ.out H6 ?_); intro y w7 H7 I7; have S2 := H7.elim (fun h => (nd1 h.2.right).1) (fun h => (nd1 h.2.right).1)))
          all_goals (go_wp2_with fail)
          all_goals exact HH.out _ _ (Lib.hid (H7.elim (fun h => .inl ⟨h.1, sat_kt.2 ⟨_, HC2.out, by have h2 := h.2; rw [HF.out] at h2; exact h2⟩⟩) (fun h => .inr ⟨h.1, sat_kte.2 h.2⟩))) ((Jd.trans I6).trans I7)
set_option maxRecDepth 100000 in
set_option maxHeartbeats 8000000 in
/-- A VERSION IS TAKEN AWAY, or why not is told. -/
theorem kdrop2_any (id : Int) {e : Int} {V' : List Md.Ver} (hm : Hid (Md.drp V B id = (e, V'))) (hl : V.length + B.length ≤ 1000) (hk : c.k.n ≤ 3000) (hg : g ≤ 240) (hq : 60 ≤ q) (H : Sat (KtAt a c V B q g * F) w)
    (hR : ∀ e' w', Hid ((e' = e ∧ Sat (KtAt a c V' B q g * F) w') ∨ (e' = 2 ∧ Sat (KtE a c * F) w')) → Io w w' → R (.returned (.int .i64 e')) w') :
    Calls Tryz.prog 16 #[.pointer (some ⟨a, 0, none⟩), .int .i64 id] w R := by
  have HH := Lib.hid hR
  have HG := Lib.hid hg
  have HL := Lib.hid hl
  have HQ := Lib.hid hq
  have HKN := Lib.hid hk
  have hx := hm.out
  unfold Md.drp at hx
  clear hR hm hg hl hq hk
  go_enter Tryz.func16, Tryz.ntmps16
  by_cases h3 : ¬ Md.vplace V id < V.length
  · rw [if_pos h3, Prod.mk.injEq] at hx
    obtain ⟨rfl, rfl⟩ := hx
    have HW : Hid (Ca.vat V id = (Ca.v0, 190)) := Lib.hid (by unfold Ca.vat; rw [dif_neg h3])
    clear h3
    go_wp2_with (first
      | (go_at_call 26; (with_reducible refine cversion_any id HW HG.out H ?_); intro w3 H3 I3; have H4 := (H3.new (.cells #[.int .i64 0, .int .i64 0, .int .i64 0, .int .i64 0] 30)).right; have I4 := I3.alloc (.cells #[.int .i64 0, .int .i64 0, .int .i64 0, .int .i64 0] 30))
      | fail)
    exact HH.out _ _ (Lib.hid (.inl ⟨rfl, H4⟩)) I4
  · rw [if_neg h3] at hx
    have h3' : Md.vplace V id < V.length := by omega
    have HP3 := Lib.hid h3'
    have HW : Hid (Ca.vat V id = (V[Md.vplace V id]'h3', 0)) := Lib.hid (by unfold Ca.vat; rw [dif_pos h3'])
    generalize V[Md.vplace V id]'h3' = vv at HW
    obtain ⟨x1, x2, x3, x4⟩ := vv
    clear h3 h3'
    have HX := Lib.hid hx
    clear hx
    go_wp2_with (first
      | (go_at_call 26; (with_reducible refine cversion_any id HW HG.out H ?_); intro w3 H3 I3; have H4 := (H3.new (.cells #[.int .i64 x1, .int .i64 x2, .int .i64 x3, .int .i64 x4] 30)).right; have I4 := I3.alloc (.cells #[.int .i64 x1, .int .i64 x2, .int .i64 x3, .int .i64 x4] 30))
      | (go_at_call 12; (with_reducible refine branches_any HG.out HL.out H4 ?_); intro vb w5 H5 I5; obtain ⟨ab, cb, hq⟩ := rowOf_shl H5; subst hq)
      | fail)
    have n1 : (B.length : Int) ≤ 1000 := by have := HL.out; omega
    have HE := Lib.hid (fun k hk => kd_get (by have := HL.out; omega) H5 k hk)
    have J5 := (I4.trans I5)
    clear H H3 H4 I3 I4 I5
    go_loopw [32] (fun x wr => ∃ k : Nat, k ≤ B.length ∧ x = .int .i64 (k : Int) ∧ Hid ((B.take k).any (fun b => decide (b.head = id)) = false) ∧ Sat (RowB (.slice ab B.length cb) B * (KtAt a c V B q g * F)) wr ∧ Io w wr) (fun x _ => B.length - (RowKit.intOf x).toNat)
    case atStart => exact ⟨0, by omega, rfl, Lib.hid (by simp), H5, J5⟩
    case round =>
      obtain ⟨k, hk, rfl, HA, Hk, Ik⟩ := hrel
      clear H5 J5
      by_cases hlt : k < B.length
      · have hlti : (k : Int) < (B.length : Int) := by omega
        have hk0 : (0 : Int) ≤ (k : Int) := by omega
        obtain ⟨b, off, rfl, hc⟩ := HE.out k hlt
        obtain ⟨g0, g1⟩ := hc _ Hk
        have HSt := Lib.hid (kd_step (id := id) hlt)
        have HAn := Lib.hid (kd_any (id := id) hlt)
        generalize B[k] = z at *
        obtain ⟨nm, hd⟩ := z
        simp only at g0 g1
        clear hc
        have H2 := Hk.new (.cells #[.string nm, .int .i64 hd] 65)
        have I2 := Ik.alloc (.cells #[.string nm, .int .i64 hd] 65)
        go_upto_region 10 with fail
        generalize wr.alloc (.cells #[.string nm, .int .i64 hd] 65) = w2 at *
        generalize wr.heap.size = bx at *
        have Z := nd2 H2
        obtain ⟨q0, q1⟩ := Z
        by_cases hh : hd = id
        · subst hh
          have hx := HX.out
          rw [if_pos (HAn.out rfl), Prod.mk.injEq] at hx
          obtain ⟨rfl, rfl⟩ := hx
          have FIN := Lib.hid (HH.out _ _ (Lib.hid (.inl ⟨rfl, H2.right.right⟩)) I2)
          clear HE HH HX
          go_wp2_with fail
          exact FIN.out
        · go_wp2_with fail
          go_roundw
          case rel => exact ⟨k + 1, by omega, by go_num, Lib.hid (HSt.out hh HA.out), H2.right, I2⟩
          case measure => simp [RowKit.intOf]; omega
      · obtain rfl : k = B.length := by omega
        have hge : ¬ (B.length : Int) < (B.length : Int) := by omega
        have hx := HX.out
        have ha := HA.out
        rw [List.take_length] at ha
        rw [if_neg (by rw [ha]; simp), Prod.mk.injEq] at hx
        obtain ⟨rfl, rfl⟩ := hx
        clear HE HX ha HA
        obtain ⟨es, cat', K⟩ := sat_kt.1 Hk.right
        have hid := Ca.vplace_ok cat' HP3.out
        have HD : Hid (true = decide (Ca.okId id)) := Lib.hid (decide_eq_true hid).symm
        obtain ⟨kk, hkk⟩ : ∃ kk, kk = Ca.kk id := ⟨_, rfl⟩
        have HK := Lib.hid hkk
        have HF : Hid (Ky.del es kk = Ky.del es (Ca.vk id)) := Lib.hid (by rw [hkk, Ca.kk_id hid])
        have HC2 := Lib.hid (cat'.delV hid)
        clear hkk hid cat' Hk
        go_wp2_with (first
          | (go_at_call 36; (with_reducible refine ckey_any id HK HD K ?_); intro w6 H6 I6; have S1 := (nd1 H6.right).1)
          | (go_at_call 43; (with_reducible refine kt_del2 HKN.out HG.out HQ.out H6 ?_); intro d y w7 H7 I7)
          | fail)
        exact HH.out _ _ (Lib.hid (H7.elim (fun h => .inl ⟨h.1, sat_kt.2 ⟨_, HC2.out, by have h2 := h.2; rw [HF.out] at h2; exact h2⟩⟩) (fun h => .inr ⟨h.1, sat_kte.2 h.2⟩))) ((Ik.trans I6).trans I7)
end
end Go.Proofs.YtojiffhknddleaaGreatDoor

/-
  What one call makes of a catalogue. Plain. It proves no statement by itself.
-/
namespace Go.Proofs.YtojiffhknddleaaGreatDoor
open Go.RowKit Go.Lib
set_option linter.unusedSimpArgs false
set_option linter.unusedVariables false
namespace Ca
open Md (Ver Br Nm)
variable {V V' : List Ver} {B B' : List Br}
/-- What CatalogKeeps' last act makes. -/
inductive Done (V : List Ver) (B : List Br) (v : Ver) (n : Int) (s : Nm) : Int → Int → List Ver → List Br → Prop
  | put : OkV v → Done V B v n s 0 0 (vput V v) B
  | noput : ¬ OkV v → Done V B v n s 0 1 V B
  | drop {e : Int} {V' : List Ver} : Md.drp V B n = (e, V') → Done V B v n s 1 e V' B
  | make {e : Int} {B' : List Br} : Md.mk V B s n = (e, B') → Done V B v n s 2 e V B'
  | move {e : Int} {B' : List Br} : mv V B s n = (e, B') → Done V B v n s 3 e V B'
  | none {m : Int} : m ≠ 0 → m ≠ 1 → m ≠ 2 → m ≠ 3 → Done V B v n s m 0 V B
theorem mk_cases {n : Nm} {id e : Int} (h : Md.mk V B n id = (e, B')) : (e ≠ 0 ∧ B' = B) ∨ (e = 0 ∧ B' = bins B n id) := by
  unfold Md.mk at h
  split at h
  · cases h; exact .inl ⟨by decide, rfl⟩
  · split at h
    · cases h; exact .inl ⟨by decide, rfl⟩
    · split at h
      · cases h; exact .inl ⟨by decide, rfl⟩
      · split at h
        · cases h; exact .inl ⟨by decide, rfl⟩
        · cases h; exact .inr ⟨rfl, rfl⟩
theorem mv_cases {n : Nm} {id e : Int} (h : mv V B n id = (e, B')) : (e ≠ 0 ∧ B' = B) ∨ (e = 0 ∧ B' = bset B n id) := by
  unfold mv at h
  split at h
  · cases h; exact .inl ⟨by decide, rfl⟩
  · split at h
    · cases h; exact .inl ⟨by decide, rfl⟩
    · cases h; exact .inr ⟨rfl, rfl⟩
theorem drp_cases {id e : Int} (h : Md.drp V B id = (e, V')) : (e ≠ 0 ∧ V' = V) ∨ (e = 0 ∧ V' = V.filter fun v => !decide (v.id = id)) := by
  unfold Md.drp at h
  split at h
  · cases h; exact .inl ⟨by decide, rfl⟩
  · split at h
    · cases h; exact .inl ⟨by decide, rfl⟩
    · cases h; exact .inr ⟨rfl, rfl⟩
theorem bins_len1 (B : List Br) (n : Nm) (id : Int) : (bins B n id).length = B.length + 1 := by
  unfold bins
  have := Md.bput_le B n
  simp only [List.length_append, List.length_take, List.length_cons, List.length_drop]
  omega
theorem mk_len {n : Nm} {id e : Int} (h : Md.mk V B n id = (e, B')) : B'.length ≤ B.length + 1 := by
  rcases mk_cases h with ⟨_, rfl⟩ | ⟨_, rfl⟩
  · omega
  · rw [bins_len1]; omega
variable {v : Ver} {n : Int} {s : Nm} {m g : Int}
theorem Done.same (d : Done V B v n s m g V' B') (h : g ≠ 0) : V' = V ∧ B' = B := by
  cases d with
  | put => exact absurd rfl h
  | noput => exact ⟨rfl, rfl⟩
  | drop e =>
    rcases drp_cases e with ⟨_, rfl⟩ | ⟨rfl, _⟩
    · exact ⟨rfl, rfl⟩
    · exact absurd rfl h
  | make e =>
    rcases mk_cases e with ⟨_, rfl⟩ | ⟨rfl, _⟩
    · exact ⟨rfl, rfl⟩
    · exact absurd rfl h
  | move e =>
    rcases mv_cases e with ⟨_, rfl⟩ | ⟨rfl, _⟩
    · exact ⟨rfl, rfl⟩
    · exact absurd rfl h
  | none => exact ⟨rfl, rfl⟩
theorem Done.len (d : Done V B v n s m g V' B') : V'.length ≤ V.length + 1 ∧ B'.length ≤ B.length + 1 := by
  cases d with
  | put => exact ⟨vput_len V v, by omega⟩
  | noput => exact ⟨by omega, by omega⟩
  | drop e =>
    rcases drp_cases e with ⟨_, rfl⟩ | ⟨_, rfl⟩
    · exact ⟨by omega, by omega⟩
    · exact ⟨by have := List.length_filter_le (fun v : Ver => !decide (v.id = n)) V; omega, by omega⟩
  | make e => exact ⟨by omega, mk_len e⟩
  | move e =>
    rcases mv_cases e with ⟨_, rfl⟩ | ⟨_, rfl⟩
    · exact ⟨by omega, by omega⟩
    · exact ⟨by omega, by unfold bset; simp⟩
  | none => exact ⟨by omega, by omega⟩
end Ca
end Go.Proofs.YtojiffhknddleaaGreatDoor

/-
  CatalogErrs, by its walk. It proves no statement by itself.
-/
namespace Go.Proofs.YtojiffhknddleaaGreatDoor
open Go.RowKit Go.Lib
set_option linter.unusedSimpArgs false
set_option linter.unusedVariables false
set_option linter.unusedSectionVars false
namespace Ca
theorem mk_vals {V : List Md.Ver} {B B' : List Md.Br} {n : Ky.Nm} {id e : Int} (h : Md.mk V B n id = (e, B')) : e ≠ 2 ∧ e ≠ 3 := by
  unfold Md.mk at h
  split at h
  · cases h; decide
  · split at h
    · cases h; decide
    · split at h
      · cases h; decide
      · split at h
        · cases h; decide
        · cases h; decide
theorem drp_vals {V V' : List Md.Ver} {B : List Md.Br} {id e : Int} (h : Md.drp V B id = (e, V')) : e ≠ 2 ∧ e ≠ 3 := by
  unfold Md.drp at h
  split at h
  · cases h; decide
  · split at h
    · cases h; decide
    · cases h; decide
theorem drp_len {V V' : List Md.Ver} {B : List Md.Br} {id e : Int} (h : Md.drp V B id = (e, V')) : V'.length ≤ V.length := by
  rcases drp_cases h with ⟨_, rfl⟩ | ⟨_, rfl⟩
  · omega
  · exact List.length_filter_le _ _
end Ca
/-- A catalogue behind k acts, or one whose tree is done with. -/
def Sts (a : Nat) (c : Cq) (F : Asn) (k : Nat) (w : World) : Prop := (∃ V B, V.length ≤ k ∧ B.length ≤ k ∧ Sat (KtAt a c V B (60 + 19 * k) k * F) w) ∨ Sat (KtE a c * F) w
section
variable {a : Nat} {c : Cq} {F : Asn} {w : World} {R : Ending → World → Prop} {k : Nat}
theorem Sts.right (H : Sts a c F k w) : Sat F w := by
  rcases H with ⟨V, B, _, _, H⟩ | H
  · exact H.right
  · exact H.right
theorem Sts.new (H : Sts a c F k w) (o : List Value) (t : TypeId) : Sts a c (pts w.heap.size (.cells o.toArray t (0, 0)) * F) k (w.alloc (.cells o.toArray t)) := by
  rcases H with ⟨V, B, h1, h2, H⟩ | H
  · exact .inl ⟨V, B, h1, h2, swap3 (H.new (.cells o.toArray t))⟩
  · exact .inr (swap3 (H.new (.cells o.toArray t)))
theorem Sts.box {X Y : Asn} {w' : World} (H : Sts a c (X * F) k w) (h : ∀ G, Sat (X * G) w → Sat (Y * G) w') : Sts a c (Y * F) k w' := by
  rcases H with ⟨V, B, h1, h2, H⟩ | H
  · exact .inl ⟨V, B, h1, h2, swap3 (h _ (swap3 H))⟩
  · exact .inr (swap3 (h _ (swap3 H)))
theorem Sts.drop {X : Asn} (H : Sts a c (X * F) k w) : Sts a c F k w := by
  rcases H with ⟨V, B, h1, h2, H⟩ | H
  · exact .inl ⟨V, B, h1, h2, (swap3 H).right⟩
  · exact .inr (swap3 H).right
theorem Sts.mono {k' : Nat} (h : k ≤ k') (H : Sts a c F k w) : Sts a c F k' w := by
  rcases H with ⟨V, B, h1, h2, H⟩ | H
  · exact .inl ⟨V, B, by omega, by omega, KtAt.mono (by omega) (by omega) H⟩
  · exact .inr H
theorem st_put (hk : k ≤ 100) (hc : Hid (c.k.n ≤ 3000)) (x1 x2 x3 x4 : Int) (H : Sts a c F k w)
    (hR : ∀ e w', Hid (e ≠ 3 ∧ (e = 2 → Sat (KtE a c * F) w')) → Sts a c F (k + 1) w' → Io w w' → R (.returned (.int .i64 e)) w') :
    Calls Tryz.prog 10 #[.pointer (some ⟨a, 0, none⟩), .agg #[.int .i64 x1, .int .i64 x2, .int .i64 x3, .int .i64 x4]] w R := by
  rcases H with ⟨V, B, h1, h2, H⟩ | H
  · refine kput2_any x1 x2 x3 x4 hc.out (by omega) (by omega) H fun e w' D I => ?_
    rcases D.out with ⟨V', H', hl, he⟩ | ⟨rfl, H'⟩
    · exact hR e w' (Lib.hid ⟨by omega, fun h => by omega⟩) (.inl ⟨V', B, by omega, by omega, H'⟩) I
    · exact hR 2 w' (Lib.hid ⟨by omega, fun _ => H'⟩) (.inr H') I
  · refine kput_err x1 x2 x3 x4 H fun e w' D H' I => hR e w' (Lib.hid ⟨by have := D.out; omega, fun _ => H'⟩) (.inr H') I
theorem st_make (hk : k ≤ 100) (hc : Hid (c.k.n ≤ 3000)) (n : Ky.Nm) (id : Int) (ZN : Hid (n.size ≤ 1000)) (H : Sts a c F k w)
    (hR : ∀ e w', Hid (e ≠ 3 ∧ (e = 2 → Sat (KtE a c * F) w')) → Sts a c F (k + 1) w' → Io w w' → R (.returned (.int .i64 e)) w') :
    Calls Tryz.prog 11 #[.pointer (some ⟨a, 0, none⟩), .string n, .int .i64 id] w R := by
  rcases H with ⟨V, B, h1, h2, H⟩ | H
  · obtain ⟨e0, B0, hm⟩ : ∃ e B', Md.mk V B n id = (e, B') := ⟨_, _, rfl⟩
    refine kmake2_any n id (Lib.hid hm) ZN (by omega) hc.out (by omega) (by omega) H fun e w' D I => ?_
    have hv := Ca.mk_vals hm
    have hl := Ca.mk_len hm
    rcases D.out with ⟨he, H'⟩ | ⟨rfl, H'⟩
    · exact hR e w' (Lib.hid ⟨by rw [he]; exact hv.2, fun h => absurd (he ▸ h) hv.1⟩) (.inl ⟨V, _, by omega, by omega, H'⟩) I
    · exact hR 2 w' (Lib.hid ⟨by omega, fun _ => H'⟩) (.inr H') I
  · refine kmake_err n id ZN H fun e w' D H' I => hR e w' (Lib.hid ⟨by have := D.out; omega, fun _ => H'⟩) (.inr H') I
theorem st_drop (hk : k ≤ 100) (hc : Hid (c.k.n ≤ 3000)) (id : Int) (H : Sts a c F k w)
    (hR : ∀ e w', Hid (e ≠ 3 ∧ (e = 2 → Sat (KtE a c * F) w')) → Sts a c F (k + 1) w' → Io w w' → R (.returned (.int .i64 e)) w') :
    Calls Tryz.prog 16 #[.pointer (some ⟨a, 0, none⟩), .int .i64 id] w R := by
  rcases H with ⟨V, B, h1, h2, H⟩ | H
  · obtain ⟨e0, V0, hm⟩ : ∃ e V', Md.drp V B id = (e, V') := ⟨_, _, rfl⟩
    refine kdrop2_any id (Lib.hid hm) (by omega) hc.out (by omega) (by omega) H fun e w' D I => ?_
    have hv := Ca.drp_vals hm
    have hl := Ca.drp_len hm
    rcases D.out with ⟨he, H'⟩ | ⟨rfl, H'⟩
    · exact hR e w' (Lib.hid ⟨by rw [he]; exact hv.2, fun h => absurd (he ▸ h) hv.1⟩) (.inl ⟨_, B, by omega, by omega, KtAt.mono (by omega) (by omega) H'⟩) I
    · exact hR 2 w' (Lib.hid ⟨by omega, fun _ => H'⟩) (.inr H') I
  · exact kdrop_err id H fun w' H' I => hR 2 w' (Lib.hid ⟨by omega, fun _ => H'⟩) (.inr H') I
set_option maxRecDepth 100000 in
theorem cerr_any {r e : Int} (H : Sat (CtCell c r e * F) w) (hR : R (.returned (.int .i64 e)) w) :
    Calls Tryz.prog 28 #[.pointer (some ⟨c.tr, 0, none⟩)] w R := by
  have HH := Lib.hid hR
  have z : w.cell? ⟨c.tr, 2, none⟩ = some (.int .i64 e) := by
    unfold CtCell at H
    exact Sat.read H.left.at 2
  clear hR H
  go_enter Tryz.func28, Tryz.ntmps28
  go_wp2_with fail
  exact HH.out
theorem kerrE_any (H : Sat (KtE a c * F) w) (hR : ∀ w', Sat (KtE a c * F) w' → Io w w' → R (.returned (.int .i64 2)) w') :
    Calls Tryz.prog 28 #[.pointer (some ⟨c.tr, 0, none⟩)] w R := by
  obtain ⟨r, K⟩ := sat_ex.1 (sat_kte.1 H)
  exact cerr_any K (hR w H (Io.refl w))
theorem kerr0_any {V : List Md.Ver} {B : List Md.Br} {q g : Nat} (H : Sat (KtAt a c V B q g * F) w) (hR : ∀ w', Sat (KtAt a c V B q g * F) w' → Io w w' → R (.returned (.int .i64 0)) w') :
    Calls Tryz.prog 28 #[.pointer (some ⟨c.tr, 0, none⟩)] w R := by
  obtain ⟨es, cat, K⟩ := sat_kt.1 H
  obtain ⟨r, L, _, _, K⟩ := sat_tr.1 K
  exact cerr_any (K.of_eq (show _ = CtCell c r 0 * (PgAt c.k L * (pts a (.cells #[.pointer (some ⟨c.tr, 0, none⟩)] 82 (0, 0)) * F)) from by unfold CtAt; ac_rfl)) (hR w H (Io.refl w))
theorem kdisk_i {s : Int} (hs : Hid (s ≤ 60)) (H : Sat F w) (h : ∀ p w', Sat (IsDk p (Dk.new s.toNat) * F) w' → Io w w' → R (.returned (.pointer (some ⟨p, 0, none⟩))) w') (hm : -9223372036854775808 ≤ s) :
    Calls Tryz.prog 34 #[.int .i64 s] w R := by
  have hs0 := hs.out
  refine new_any s (by omega) (by omega) H fun p w' H' I => h p w' ?_ I
  have en : (min (max s 0) 16384).toNat = s.toNat := by omega
  rw [en] at H'
  exact H'
set_option maxRecDepth 100000 in
set_option maxHeartbeats 4000000 in
theorem lcat2_any {s : Int} (hs : s ≤ 60) (hm : -9223372036854775808 ≤ s) (H : Sat F w)
    (hR : ∀ a c w', c.k.n = s.toNat → Sat (KtAt a c [] [] 60 0 * F) w' → Io w w' → R (.returned (.tuple #[.pointer (some ⟨a, 0, none⟩), .pointer (some ⟨c.tr, 0, none⟩)])) w') :
    Calls Tryz.prog 9 #[.int .i64 s] w R := by
  have HH := Lib.hid hR
  have HS := Lib.hid hs
  have HM := Lib.hid hm
  have HN : Hid (s.toNat ≤ 3000) := Lib.hid (by omega)
  clear hR hs hm
  go_enter Tryz.func9, Tryz.ntmps9
  go_wp2_with (first
    | (go_at_call 34; (with_reducible refine kdisk_i HS H ?_ HM.out); intro p w1 H1 I1)
    | (go_at_call 33; (with_reducible refine pf_new H1 ?_); intro q w2 H2 I2)
    | (go_at_call 32; (with_reducible refine alnew_any HN.out H2 ?_); intro t b w3 H3 I3)
    | (go_at_call 31; (with_reducible refine ctnew_any (k := ⟨t, b, q, p, s.toNat⟩) H3 ?_); intro tr w4 H4 I4; have H5 := tr_first (q := 60) (g := 0) H4)
    | (go_at_call 35; (with_reducible refine knew_any (c := ⟨tr, ⟨t, b, q, p, s.toNat⟩⟩) H5 ?_); intro a w6 H6 I6))
  exact HH.out a ⟨tr, ⟨t, b, q, p, s.toNat⟩⟩ w6 rfl H6 ((((I1.trans I2).trans I3).trans I4).trans I6)
end
end Go.Proofs.YtojiffhknddleaaGreatDoor
