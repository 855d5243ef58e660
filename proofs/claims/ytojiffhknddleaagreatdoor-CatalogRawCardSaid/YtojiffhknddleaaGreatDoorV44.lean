/-
  The catalogue's answers, and the names that CatalogMany makes. Plain. It proves no statement by itself.
-/
import Derived.Test.YtojiffhknddleaaGreatDoorV36
import Derived.Test.YtojiffhknddleaaGreatDoorV43
import Derived.Test.YtojiffhknddleaaGreatDoorV42
import Derived.Test.YtojiffhknddleaaGreatDoorV32
namespace Go.Proofs.YtojiffhknddleaaGreatDoor
open Go.RowKit Go.Lib
set_option linter.unusedSimpArgs false
set_option linter.unusedVariables false
namespace Ca
open Md (Ver Br Nm)
def v0 : Ver := ⟨0, 0, 0, 0⟩
/-- What is said of a version. -/
def vat (V : List Ver) (id : Int) : Ver × Int := if h : Md.vplace V id < V.length then (V[Md.vplace V id], 0) else (v0, 190)
/-- A branch's head. -/
def hat (B : List Br) (n : Nm) : Int × Int := if h : Md.bplace B n < B.length then (B[Md.bplace B n].head, 0) else (0, 191)
/-- Move. -/
def mv (V : List Ver) (B : List Br) (n : Nm) (id : Int) : Int × List Br :=
  if ¬ Md.bplace B n < B.length then (191, B) else if ¬ Md.vplace V id < V.length then (190, B) else (0, bset B n id)
theorem vplace_ok {es : List Ky.En} {V : List Ver} {B : List Br} (c : Cat es V B) {id : Int} (h : Md.vplace V id < V.length) : okId id := by
  obtain ⟨v, hv, rfl⟩ := Md.vplace_lt.1 h
  exact (c.okv v hv).id
theorem bplace_ok {es : List Ky.En} {V : List Ver} {B : List Br} (c : Cat es V B) {n : Nm} (h : Md.bplace B n < B.length) : Md.nameOk n = true := by
  obtain ⟨b, hb, rfl⟩ := Md.bplace_lt.1 h
  exact (c.okb b hb).name
/-! ### CatalogMany's names. -/
def nm (i : Nat) : Nm := ⟨#[120, UInt8.ofNat (97 + i / 26), UInt8.ofNat (97 + i % 26)]⟩
end Ca
end Go.Proofs.YtojiffhknddleaaGreatDoor

/-
  What stays in a catalogue. Plain. It proves no statement by itself.
-/
namespace Go.Proofs.YtojiffhknddleaaGreatDoor
open Go.RowKit Go.Lib
set_option linter.unusedSimpArgs false
set_option linter.unusedVariables false
namespace Ca
open Md (Ver Br Nm)
variable {V : List Ver} {B : List Br}
end Ca
end Go.Proofs.YtojiffhknddleaaGreatDoor

/-
  catalog: Version, Head, by walks. It proves no statement by itself.
-/
namespace Go.Proofs.YtojiffhknddleaaGreatDoor
open Go.RowKit Go.Lib
set_option linter.unusedSimpArgs false
set_option linter.unusedVariables false
set_option linter.unusedSectionVars false
section
variable {a : Nat} {c : Cq} {F : Asn} {w : World} {R : Ending → World → Prop} {V : List Md.Ver} {B : List Md.Br} {q g : Nat}
theorem cg_1 {A B C : Asn} (H : Sat (A * (B * (C * F))) w) : Sat (B * (C * (A * F))) w := H.of_eq (by ac_rfl)
theorem cg_2 {A B C D : Asn} (H : Sat (A * (B * (C * (D * F)))) w) : Sat (D * (B * (C * F))) w := (H.of_eq (show _ = A * (D * (B * (C * F))) from by ac_rfl)).right
set_option maxRecDepth 100000 in
set_option maxHeartbeats 8000000 in
/-- What is said of a version that there is. -/
theorem cversion_yes {es : List Ky.En} (cat : Ca.Cat es V B) {id : Int} (hp : Md.vplace V id < V.length) {v : Md.Ver} (hv : V[Md.vplace V id] = v) (hg : g ≤ 240)
    (H : Sat (TrAt c es q g * (pts a (.cells #[.pointer (some ⟨c.tr, 0, none⟩)] 82 (0, 0)) * F)) w)
    (hR : ∀ w', Sat (TrAt c es q g * (pts a (.cells #[.pointer (some ⟨c.tr, 0, none⟩)] 82 (0, 0)) * F)) w' → Io w w' → R (.returned (.tuple #[.agg #[.int .i64 v.id, .int .i64 v.parent, .int .i64 v.root, .int .i64 v.edges], .int .i64 0])) w') :
    Calls Tryz.prog 26 #[.pointer (some ⟨a, 0, none⟩), .int .i64 id] w R := by
  have HH := Lib.hid hR
  have hi := Ca.vplace_ok cat hp
  have OK := Lib.hid (cat.okv _ (List.getElem_mem hp))
  rw [hv] at OK
  have hgv := cat.getV hp
  rw [hv] at hgv
  have hid : v.id = id := by rw [← hv]; exact Md.vplace_get hp
  obtain ⟨k, hk⟩ : ∃ k, k = Ca.kk id := ⟨_, rfl⟩
  have HK := Lib.hid hk
  have HK2 : Hid (k = Ca.vk v.id) := Lib.hid (by rw [hk, Ca.kk_id hi, hid])
  obtain ⟨x, hx⟩ : ∃ x, x = Ca.vl v := ⟨_, rfl⟩
  have HX := Lib.hid hx
  have HD : Hid (true = decide (Ca.okId id)) := Lib.hid (decide_eq_true hi).symm
  have HGT : Hid (Ky.get es k = some x) := Lib.hid (by rw [hk, Ca.kk_id hi, hgv, hx])
  have HG := Lib.hid hg
  obtain ⟨i, pa, ro, ed⟩ := v
  have H1 := H.new (.cells #[.int .i64 0, .int .i64 0, .int .i64 0, .int .i64 0] 30)
  have I1 := (Io.refl w).alloc (.cells #[.int .i64 0, .int .i64 0, .int .i64 0, .int .i64 0] 30)
  clear hR hv hgv hid hk hx hg hi hp
  go_enter Tryz.func26, Tryz.ntmps26
  go_upto_region 1 with fail
  generalize w.alloc (.cells #[.int .i64 0, .int .i64 0, .int .i64 0, .int .i64 0] 30) = w1 at *
  generalize w.heap.size = br at *
  go_upto_region 9 with (first
    | (go_at_call 36; (with_reducible refine ckey_any id HK HD H1 ?_); intro w2 H2 I2)
    | (go_at_call 55; (with_reducible refine cget_yes 190 HG.out HGT (cg_1 H2) ?_); intro w3 H3 I3; have H4 := H3.new (.cells #[.string k, .string x] 50); have I4 := I3.alloc (.cells #[.string k, .string x] 50))
    | fail)
  generalize w3.alloc (.cells #[.string k, .string x] 50) = w4 at *
  generalize w3.heap.size = bx at *
  have Z := nd2 H4
  obtain ⟨q0, q1⟩ := Z
  go_wp2_with (first
    | (go_at_call 54; (with_reducible refine cver_any ⟨i, pa, ro, ed⟩ OK.out HK2 HX H4 ?_); intro w5 H5 I5; have K5 := cg_2 H5; have Z := nd4 K5; obtain ⟨c0, c1, c2, c3⟩ := Z; have Y := nd4f K5; obtain ⟨d0, d1, d2, d3⟩ := Y; have K6 := ver_fill (i := i) (pa := pa) (ro := ro) (ed := ed) K5; have X := nd4 K6; obtain ⟨f0, f1, f2, f3⟩ := X)
    | fail)
  have J6 := ((((I1.trans I2).trans I4).trans I5).setCell ⟨br, 0, none⟩ (.int .i64 i)).setCell ⟨br, 1, none⟩ (.int .i64 pa)
  have J6 := (J6.setCell ⟨br, 2, none⟩ (.int .i64 ro)).setCell ⟨br, 3, none⟩ (.int .i64 ed)
  have FIN := Lib.hid (HH.out _ K6.right J6)
  exact bodyPost_ret (v := .tuple #[.agg #[.int .i64 i, .int .i64 pa, .int .i64 ro, .int .i64 ed], .int .i64 0]) (by simp [results, Tryz.results26, go_sem, f0, f1, f2, f3]) rfl FIN.out
set_option maxRecDepth 100000 in
set_option maxHeartbeats 8000000 in
theorem cversion_no {es : List Ky.En} (cat : Ca.Cat es V B) {id : Int} (hp : ¬ Md.vplace V id < V.length) (hg : g ≤ 240)
    (H : Sat (TrAt c es q g * (pts a (.cells #[.pointer (some ⟨c.tr, 0, none⟩)] 82 (0, 0)) * F)) w)
    (hR : ∀ w', Sat (TrAt c es q g * (pts a (.cells #[.pointer (some ⟨c.tr, 0, none⟩)] 82 (0, 0)) * F)) w' → Io w w' → R (.returned (.tuple #[.agg #[.int .i64 0, .int .i64 0, .int .i64 0, .int .i64 0], .int .i64 190])) w') :
    Calls Tryz.prog 26 #[.pointer (some ⟨a, 0, none⟩), .int .i64 id] w R := by
  have HH := Lib.hid hR
  obtain ⟨k, hk⟩ : ∃ k, k = Ca.kk id := ⟨_, rfl⟩
  have HK := Lib.hid hk
  have HG := Lib.hid hg
  have H1 := H.new (.cells #[.int .i64 0, .int .i64 0, .int .i64 0, .int .i64 0] 30)
  have I1 := (Io.refl w).alloc (.cells #[.int .i64 0, .int .i64 0, .int .i64 0, .int .i64 0] 30)
  obtain ⟨d, hd⟩ : ∃ d, d = decide (Ca.okId id) := ⟨_, rfl⟩
  have HD := Lib.hid hd
  clear hR hg
  go_enter Tryz.func26, Tryz.ntmps26
  go_upto_region 1 with fail
  generalize w.alloc (.cells #[.int .i64 0, .int .i64 0, .int .i64 0, .int .i64 0] 30) = w1 at *
  generalize w.heap.size = br at *
  cases d with
  | true =>
    have hi : Ca.okId id := of_decide_eq_true hd.symm
    have HGT : Hid (Ky.get es k = none) := Lib.hid (by rw [hk, Ca.kk_id hi]; exact cat.noV hi hp)
    clear hd hi hk
    go_wp2_with (first
      | (go_at_call 36; (with_reducible refine ckey_any id HK HD H1 ?_); intro w2 H2 I2)
      | (go_at_call 55; (with_reducible refine cget_none 190 HG.out HGT (cg_1 H2) ?_); intro w3 H3 I3; have H4 := H3.new (.cells #[.string k, .string ⟨#[]⟩] 50); have I4 := I3.alloc (.cells #[.string k, .string ⟨#[]⟩] 50); have K5 := cg_2 H4; have Z := nd4 K5; obtain ⟨c0, c1, c2, c3⟩ := Z; have Y := nd4f K5; obtain ⟨d0, d1, d2, d3⟩ := Y; have K6 := ver_fill (i := 0) (pa := 0) (ro := 0) (ed := 0) K5; have X := nd4 K6; obtain ⟨f0, f1, f2, f3⟩ := X)
      | fail)
    have J6 := (((I1.trans I2).trans I4).setCell ⟨br, 0, none⟩ (.int .i64 0)).setCell ⟨br, 1, none⟩ (.int .i64 0)
    have J6 := (J6.setCell ⟨br, 2, none⟩ (.int .i64 0)).setCell ⟨br, 3, none⟩ (.int .i64 0)
    have FIN := Lib.hid (HH.out _ K6.right J6)
    exact bodyPost_ret (v := .tuple #[.agg #[.int .i64 0, .int .i64 0, .int .i64 0, .int .i64 0], .int .i64 190]) (by simp [results, Tryz.results26, go_sem, f0, f1, f2, f3]) rfl FIN.out
  | false =>
    have HGT : Hid (Ky.get es ⟨#[86]⟩ = none) := Lib.hid (cat.noP rfl)
    clear hd hk
    go_wp2_with (first
      | (go_at_call 36; (with_reducible refine ckey_any id HK HD H1 ?_); intro w2 H2 I2)
      | (go_at_call 55; (with_reducible refine cget_none 190 HG.out HGT (cg_1 H2) ?_); intro w3 H3 I3; have H4 := H3.new (.cells #[.string ⟨#[86]⟩, .string ⟨#[]⟩] 50); have I4 := I3.alloc (.cells #[.string ⟨#[86]⟩, .string ⟨#[]⟩] 50); have K5 := cg_2 H4; have Z := nd4 K5; obtain ⟨c0, c1, c2, c3⟩ := Z; have Y := nd4f K5; obtain ⟨d0, d1, d2, d3⟩ := Y; have K6 := ver_fill (i := 0) (pa := 0) (ro := 0) (ed := 0) K5; have X := nd4 K6; obtain ⟨f0, f1, f2, f3⟩ := X)
      | fail)
    have J6 := (((I1.trans I2).trans I4).setCell ⟨br, 0, none⟩ (.int .i64 0)).setCell ⟨br, 1, none⟩ (.int .i64 0)
    have J6 := (J6.setCell ⟨br, 2, none⟩ (.int .i64 0)).setCell ⟨br, 3, none⟩ (.int .i64 0)
    have FIN := Lib.hid (HH.out _ K6.right J6)
    exact bodyPost_ret (v := .tuple #[.agg #[.int .i64 0, .int .i64 0, .int .i64 0, .int .i64 0], .int .i64 190]) (by simp [results, Tryz.results26, go_sem, f0, f1, f2, f3]) rfl FIN.out
/-- WHAT IS SAID OF A VERSION. -/
theorem cversion_any (id : Int) {v : Md.Ver} {e : Int} (hv : Hid (Ca.vat V id = (v, e))) (hg : g ≤ 240) (H : Sat (KtAt a c V B q g * F) w)
    (hR : ∀ w', Sat (KtAt a c V B q g * F) w' → Io w w' → R (.returned (.tuple #[.agg #[.int .i64 v.id, .int .i64 v.parent, .int .i64 v.root, .int .i64 v.edges], .int .i64 e])) w') :
    Calls Tryz.prog 26 #[.pointer (some ⟨a, 0, none⟩), .int .i64 id] w R := by
  obtain ⟨es, cat, H⟩ := sat_kt.1 H
  have h := hv.out
  unfold Ca.vat at h
  split at h
  · rename_i hp
    rw [Prod.mk.injEq] at h
    obtain ⟨h1, rfl⟩ := h
    exact cversion_yes cat hp h1 hg H fun w' H' I => hR w' (sat_kt.2 ⟨es, cat, H'⟩) I
  · rename_i hp
    rw [Prod.mk.injEq] at h
    obtain ⟨rfl, rfl⟩ := h
    exact cversion_no cat hp hg H fun w' H' I => hR w' (sat_kt.2 ⟨es, cat, H'⟩) I
set_option maxRecDepth 100000 in
set_option maxHeartbeats 8000000 in
theorem chd_yes {es : List Ky.En} (cat : Ca.Cat es V B) {n : Ky.Nm} (hp : Md.bplace B n < B.length) {b : Md.Br} (hb : B[Md.bplace B n] = b) (hg : g ≤ 240)
    (H : Sat (TrAt c es q g * (pts a (.cells #[.pointer (some ⟨c.tr, 0, none⟩)] 82 (0, 0)) * F)) w)
    (hR : ∀ w', Sat (TrAt c es q g * (pts a (.cells #[.pointer (some ⟨c.tr, 0, none⟩)] 82 (0, 0)) * F)) w' → Io w w' → R (.returned (.tuple #[.int .i64 b.head, .int .i64 0])) w') :
    Calls Tryz.prog 27 #[.pointer (some ⟨a, 0, none⟩), .string n] w R := by
  have HH := Lib.hid hR
  have hn := Ca.bplace_ok cat hp
  have OK := Lib.hid (cat.okb _ (List.getElem_mem hp))
  rw [hb] at OK
  have hgv := cat.getB hp
  rw [hb] at hgv
  have hnm : b.name = n := by rw [← hb]; exact Md.bplace_get hp
  have HK2 : Hid ((⟨#[72]⟩ : ByteArray) ++ n = Ca.bk b.name) := Lib.hid (by rw [hnm]; rfl)
  obtain ⟨x, hx⟩ : ∃ x, x = Ca.bl b.head := ⟨_, rfl⟩
  have HX := Lib.hid hx
  have HD : Hid (true = Md.nameOk n) := Lib.hid hn.symm
  have HGT : Hid (Ky.get es ((⟨#[72]⟩ : ByteArray) ++ n) = some x) := Lib.hid (by rw [hx]; exact hgv)
  have HG := Lib.hid hg
  have nz := Ca.nameOk_size hn
  have ZN : Hid (n.size ≤ 9223372036854775807) := Lib.hid (by omega)
  have n12 : (n.size : Int) ≤ 12 := by omega
  obtain ⟨nm, hd⟩ := b
  simp only at HK2 OK HX
  clear hR hb hgv hnm hx hg hn hp nz
  go_enter Tryz.func27, Tryz.ntmps27
  go_upto_region 9 with (first
    | (go_at_call 13; (with_reducible refine name_any n ZN.out HD H ?_); intro w1 H1 I1)
    | (go_at_call 55; (with_reducible refine cget_yes 191 HG.out HGT H1 ?_); intro w3 H3 I3; have H4 := H3.new (.cells #[.string ((⟨#[72]⟩ : ByteArray) ++ n), .string x] 50); have I4 := I3.alloc (.cells #[.string ((⟨#[72]⟩ : ByteArray) ++ n), .string x] 50))
    | (go_at_call 13; (with_reducible refine name_any n ZN.out HD H4 ?_); intro w5 H5 I5; have Z := nd2 H5; obtain ⟨q0, q1⟩ := Z)
    | fail)
  go_wp2_with (first
    | (go_at_call 41; (with_reducible refine cbr_any ⟨nm, hd⟩ OK.out HK2 HX H5 ?_); intro w6 H6 I6; have H7 := H6.new (.cells #[.string nm, .int .i64 hd] 65); have I7 := I6.alloc (.cells #[.string nm, .int .i64 hd] 65); have Z := nd2 H7; obtain ⟨c0, c1⟩ := Z)
    | fail)
  have FIN := Lib.hid (HH.out _ H7.right.right (((I1.trans I4).trans I5).trans I7))
  exact FIN.out
set_option maxRecDepth 100000 in
set_option maxHeartbeats 8000000 in
theorem chd_no {es : List Ky.En} (cat : Ca.Cat es V B) {n : Ky.Nm} (hp : ¬ Md.bplace B n < B.length) (ZN : Hid (n.size ≤ 1000)) (hg : g ≤ 240)
    (H : Sat (TrAt c es q g * (pts a (.cells #[.pointer (some ⟨c.tr, 0, none⟩)] 82 (0, 0)) * F)) w)
    (hR : ∀ w', Sat (TrAt c es q g * (pts a (.cells #[.pointer (some ⟨c.tr, 0, none⟩)] 82 (0, 0)) * F)) w' → Io w w' → R (.returned (.tuple #[.int .i64 0, .int .i64 191])) w') :
    Calls Tryz.prog 27 #[.pointer (some ⟨a, 0, none⟩), .string n] w R := by
  have HH := Lib.hid hR
  have HG := Lib.hid hg
  obtain ⟨d, hd⟩ : ∃ d, d = Md.nameOk n := ⟨_, rfl⟩
  have HD := Lib.hid hd
  have ZM : Hid (n.size ≤ 9223372036854775807) := Lib.hid (by have := ZN.out; omega)
  have n12 : (n.size : Int) ≤ 1000 := by have := ZN.out; omega
  clear hR hg
  go_enter Tryz.func27, Tryz.ntmps27
  cases d with
  | true =>
    have HGT : Hid (Ky.get es ((⟨#[72]⟩ : ByteArray) ++ n) = none) := Lib.hid (cat.noB hp)
    clear hd
    go_wp2_with (first
      | (go_at_call 13; (with_reducible refine name_any n ZM.out HD H ?_); intro w1 H1 I1)
      | (go_at_call 55; (with_reducible refine cget_none 191 HG.out HGT H1 ?_); intro w3 H3 I3; have H4 := H3.new (.cells #[.string ((⟨#[72]⟩ : ByteArray) ++ n), .string ⟨#[]⟩] 50); have I4 := I3.alloc (.cells #[.string ((⟨#[72]⟩ : ByteArray) ++ n), .string ⟨#[]⟩] 50))
      | fail)
    have FIN := Lib.hid (HH.out _ H4.right (I1.trans I4))
    exact FIN.out
  | false =>
    have HGT : Hid (Ky.get es ⟨#[72]⟩ = none) := Lib.hid (cat.noP rfl)
    clear hd
    go_wp2_with (first
      | (go_at_call 13; (with_reducible refine name_any n ZM.out HD H ?_); intro w1 H1 I1)
      | (go_at_call 55; (with_reducible refine cget_none 191 HG.out HGT H1 ?_); intro w3 H3 I3; have H4 := H3.new (.cells #[.string ⟨#[72]⟩, .string ⟨#[]⟩] 50); have I4 := I3.alloc (.cells #[.string ⟨#[72]⟩, .string ⟨#[]⟩] 50))
      | fail)
    have FIN := Lib.hid (HH.out _ H4.right (I1.trans I4))
    exact FIN.out
/-- A BRANCH'S HEAD. -/
theorem chd_any (n : Ky.Nm) {hd e : Int} (hv : Hid (Ca.hat B n = (hd, e))) (ZN : Hid (n.size ≤ 1000)) (hg : g ≤ 240) (H : Sat (KtAt a c V B q g * F) w)
    (hR : ∀ w', Sat (KtAt a c V B q g * F) w' → Io w w' → R (.returned (.tuple #[.int .i64 hd, .int .i64 e])) w') :
    Calls Tryz.prog 27 #[.pointer (some ⟨a, 0, none⟩), .string n] w R := by
  obtain ⟨es, cat, H⟩ := sat_kt.1 H
  have h := hv.out
  unfold Ca.hat at h
  split at h
  · rename_i hp
    rw [Prod.mk.injEq] at h
    obtain ⟨rfl, rfl⟩ := h
    exact chd_yes cat hp rfl hg H fun w' H' I => hR w' (sat_kt.2 ⟨es, cat, H'⟩) I
  · rename_i hp
    rw [Prod.mk.injEq] at h
    obtain ⟨rfl, rfl⟩ := h
    exact chd_no cat hp ZN hg H fun w' H' I => hR w' (sat_kt.2 ⟨es, cat, H'⟩) I
end
end Go.Proofs.YtojiffhknddleaaGreatDoor

/-
  catalog: all, Versions, Branches, by walks. It proves no statement by itself.
-/
namespace Go.Proofs.YtojiffhknddleaaGreatDoor
open Go.RowKit Go.Lib
set_option linter.unusedSimpArgs false
set_option linter.unusedVariables false
set_option linter.unusedSectionVars false
section
variable {a : Nat} {c : Cq} {F : Asn} {w : World} {R : Ending → World → Prop} {V : List Md.Ver} {B : List Md.Br} {q g : Nat}
theorem al_len {α : Type} {v : Value} {L : List α} {f : α → Ky.En} (H : Sat (RowE v (L.map f) * F) w) : ∃ a c, v = .slice a L.length c := by
  obtain ⟨a, c, h⟩ := rowOf_shl H
  rw [List.length_map] at h
  exact ⟨a, c, h⟩
theorem al_get {α : Type} {ad : Option Addr} {n cc : Nat} {L : List α} {f : α → Ky.En} (H : Sat (RowE (.slice ad n cc) (L.map f) * F) w) (hL : L.length ≤ 1000) (k : Nat) (hk : k < L.length) : ∃ b off, ad = some ⟨b, off, none⟩ ∧ ∀ W, Sat (RowE (.slice ad n cc) (L.map f) * F) W →
    W.cell? ⟨b, off + k * 2, none⟩ = some (.string (f L[k]).1) ∧ W.cell? ⟨b, off + k * 2 + 1, none⟩ = some (.string (f L[k]).2) := by
  obtain ⟨b, off, key, val, e, hx, hc⟩ := readsE_get (Reads.of_row H (by rw [List.length_map]; omega)) k (by rw [List.length_map]; exact hk)
  rw [List.getElem_map] at hx
  refine ⟨b, off, e, fun W hW => ?_⟩
  have := hc W hW
  rw [hx]
  exact this
theorem al_drop {A B C : Asn} (H : Sat (A * (B * (C * F))) w) : Sat (A * (C * F)) w := (H.of_eq (show _ = B * (A * (C * F)) from by ac_rfl)).right
set_option maxRecDepth 100000 in
set_option maxHeartbeats 8000000 in
theorem allB_any {es : List Ky.En} (cat : Ca.Cat es V B) (hg : g ≤ 240) (hl : V.length + B.length ≤ 1000) (fr ub : ByteArray) (hfr : Hid (fr = Ca.pH)) (hub : Hid (ub = Ca.pI))
    (H : Sat (TrAt c es q g * F) w)
    (hR : ∀ v w', Sat (RowB v B * (TrAt c es q g * F)) w' → Io w w' → R (.returned (.tuple #[v, .int .i64 0])) w') :
    Calls Tryz.prog 40 #[.pointer (some ⟨c.tr, 0, none⟩), .string fr, .string ub, .func (.func 41) #[] #[]] w R := by
  obtain rfl := hfr.out
  obtain rfl := hub.out
  have HH := Lib.hid hR
  have HG := Lib.hid hg
  have HSC := Lib.hid cat.scanB
  have HOK := Lib.hid cat.okb
  have hlen := cat.len
  have HLL : Hid (es.length ≤ 100000) := Lib.hid (by omega)
  have HUB : Hid (Ca.pI.size ≤ 1000000) := Lib.hid (by decide)
  have n1 : (B.length : Int) ≤ 1000 := by omega
  have HN : Hid (B.length ≤ 1000) := Lib.hid (by omega)
  clear hR hg hl hfr hub
  go_enter Tryz.func40, Tryz.ntmps40
  go_wp2_with (go_at_call 24; (with_reducible refine ctscan_any Ca.pH Ca.pI HG.out HLL.out HUB.out H ?_); intro v1 w1 H1 I1; rw [HSC.out] at H1; obtain ⟨a1, c1, hq⟩ := al_len H1; subst hq)
  have HE := Lib.hid (fun k hk => al_get H1 HN.out k hk)
  have K1 := rowOf_nil (enc := encBr) (sz := 2) (e := 65) H1
  clear H H1
  go_loopw [12, 29] (fun y x wr => ∃ k : Nat, k ≤ B.length ∧ x = .int .i64 (k : Int) ∧ Sat (RowB y (B.take k) * (RowE (.slice a1 B.length c1) (B.map Ca.eb) * (TrAt c es q g * F))) wr ∧ Io w wr) (fun _ x _ => B.length - (RowKit.intOf x).toNat)
  case atStart => exact ⟨0, by omega, rfl, K1, I1⟩
  case round =>
    obtain ⟨k, hk, rfl, Hk, Ik⟩ := hrel
    clear K1 I1
    by_cases hlt : k < B.length
    · have hlti : (k : Int) < (B.length : Int) := by omega
      have hk0 : (0 : Int) ≤ (k : Int) := by omega
      obtain ⟨b, off, rfl, hc⟩ := HE.out k hlt
      have OK := Lib.hid (HOK.out _ (List.getElem_mem hlt))
      have HS := Lib.hid (List.take_succ_eq_append_getElem hlt)
      obtain ⟨g0, g1⟩ := hc _ Hk.right
      have hlen : (B.take k).length ≤ 1000000 := by rw [List.length_take]; have := HN.out; omega
      have HLN := Lib.hid hlen
      generalize B[k] = z at *
      obtain ⟨nm, hd⟩ := z
      unfold Ca.eb at g0 g1
      obtain ⟨kk, hkk⟩ : ∃ kk, kk = Ca.bk nm := ⟨_, rfl⟩
      obtain ⟨xx, hxx⟩ : ∃ xx, xx = Ca.bl hd := ⟨_, rfl⟩
      have HK := Lib.hid hkk
      have HX := Lib.hid hxx
      simp only at g0 g1
      rw [← hkk] at g0
      rw [← hxx] at g1
      clear hc hlen hkk hxx
      have H2 := Hk.new (.cells #[.string kk, .string xx] 50)
      have I2 := Ik.alloc (.cells #[.string kk, .string xx] 50)
      go_upto_region 8 with fail
      generalize wr.alloc (.cells #[.string kk, .string xx] 50) = w2 at *
      generalize wr.heap.size = bx at *
      have Z := nd2 H2
      obtain ⟨q0, q1⟩ := Z
      go_upto_region 11 with (go_at_call 41; (refine cbr_any ⟨nm, hd⟩ OK.out HK HX H2.right ?_); intro w3 H3 I3; have H4 := H3.new (.cells #[.string nm, .int .i64 hd] 65); have I4 := I3.alloc (.cells #[.string nm, .int .i64 hd] 65))
      generalize w3.alloc (.cells #[.string nm, .int .i64 hd] 65) = w4 at *
      generalize w3.heap.size = by' at *
      have Z := nd2 H4
      obtain ⟨z0, z1⟩ := Z
      go_wp2_with (at_builtin; refine wpList_append_rec Tryz.rowB encBr_ok rfl (.tmp 42) (.tmp 44) rfl rfl H4.right HLN.out ⟨nm, hd⟩ rfl rfl ?_; intro v5 w5 H5 I5)
      go_roundw
      case rel => exact ⟨k + 1, by omega, by go_num, by rw [HS.out]; exact H5, (I2.trans I4).trans I5⟩
      case measure => simp [RowKit.intOf]; omega
    · obtain rfl : k = B.length := by omega
      have hge : ¬ (B.length : Int) < (B.length : Int) := by omega
      rw [List.take_length] at Hk
      have FIN := Lib.hid (HH.out _ _ (al_drop Hk) Ik)
      clear HE HOK HSC HH
      go_wp2_with fail
      exact FIN.out
set_option maxRecDepth 100000 in
set_option maxHeartbeats 4000000 in
theorem branches_any (hg : g ≤ 240) (hl : V.length + B.length ≤ 1000) (H : Sat (KtAt a c V B q g * F) w)
    (hR : ∀ v w', Sat (RowB v B * (KtAt a c V B q g * F)) w' → Io w w' → R (.returned (.tuple #[v, .int .i64 0])) w') :
    Calls Tryz.prog 12 #[.pointer (some ⟨a, 0, none⟩)] w R := by
  obtain ⟨es, cat, H⟩ := sat_kt.1 H
  have HH := Lib.hid fun v w' (H' : Sat (RowB v B * (TrAt c es q g * (pts a (.cells #[.pointer (some ⟨c.tr, 0, none⟩)] 82 (0, 0)) * F))) w') I => hR v w' ((sat_kt.2 ⟨es, cat, H'.of_eq (show _ = TrAt c es q g * (pts a (.cells #[.pointer (some ⟨c.tr, 0, none⟩)] 82 (0, 0)) * (RowB v B * F)) from by unfold RowB; ac_rfl)⟩ : Sat (KtAt a c V B q g * (RowB v B * F)) w').of_eq (by unfold RowB; ac_rfl)) I
  have S0 := (nd1 H.right).1
  have HG := Lib.hid hg
  have HL := Lib.hid hl
  have HC := Lib.hid cat
  have P1 : Hid ((⟨#[72]⟩ : ByteArray) = Ca.pH) := Lib.hid rfl
  have P2 : Hid ((⟨#[73]⟩ : ByteArray) = Ca.pI) := Lib.hid rfl
  clear hR hg hl cat
  go_enter Tryz.func12, Tryz.ntmps12
  go_wp2_with (go_at_call 40; (with_reducible refine allB_any HC.out HG.out HL.out _ _ P1 P2 H ?_); intro v1 w1 H1 I1)
  first | exact HH.out _ _ H1 I1 | exact bodyPost_ret (v := .tuple #[v1, .int .i64 0]) (by simp [results, Tryz.results12, go_sem]) rfl (HH.out _ _ H1 I1)
end
end Go.Proofs.YtojiffhknddleaaGreatDoor

/-
  A tree of keys: it may weigh less, and have grown less, than is said. It proves no statement by itself.
-/
namespace Go.Proofs.YtojiffhknddleaaGreatDoor
open Go.RowKit Go.Lib
set_option linter.unusedSimpArgs false
set_option linter.unusedVariables false
set_option linter.unusedSectionVars false
section
variable {c : Cq} {F : Asn} {w : World} {es : List Ky.En} {q g : Nat}
theorem Tb.Tree.mono {root : Int} {es : List Ky.En} {L : Tb.Pg} {g g' : Nat} (t : Tb.Tree root es L g) (h : g ≤ g') : Tb.Tree root es L g' := by
  rcases t with t | ⟨h0, c, s, hc⟩
  · exact .inl t
  · exact .inr ⟨h0, c, s, by omega⟩
theorem TrAt.mono {q' g' : Nat} (hq : q ≤ q') (hg : g ≤ g') (H : Sat (TrAt c es q g * F) w) : Sat (TrAt c es q' g' * F) w := by
  obtain ⟨root, L, t, h1, h2⟩ := sat_tr.1 H
  exact sat_tr.2 ⟨root, L, t.mono hg, by omega, h2⟩
theorem TrAt.right (H : Sat (TrAt c es q g * F) w) : Ky.Right es := by
  obtain ⟨root, L, t, h1, h2⟩ := sat_tr.1 H
  exact t.right
end
end Go.Proofs.YtojiffhknddleaaGreatDoor

/-
  catalog: Put, by its walk. It proves no statement by itself.
-/
namespace Go.Proofs.YtojiffhknddleaaGreatDoor
open Go.RowKit Go.Lib
set_option linter.unusedSimpArgs false
set_option linter.unusedVariables false
set_option linter.unusedSectionVars false
namespace Ca
theorem vl_cat (v : Md.Ver) : tx (cat [tx (be 4 v.parent.toNat), tx (be 4 v.root.toNat), tx (be 4 v.edges.toNat)]) = vl v := by
  unfold vl cat
  simp [tx_list]
theorem one_v (id : Int) (v : Md.Ver) : Ky.one (vk id, vl v) = 19 := by unfold Ky.one; simp only [vk_size, vl_size]
theorem one_b {n : Ky.Nm} (h : Md.nameOk n = true) (i : Int) : Ky.one (bk n, bl i) ≤ 19 := by
  have := nameOk_size h
  unfold Ky.one
  simp only [bk_size, bl_size]
  omega
end Ca
section
variable {a : Nat} {c : Cq} {F : Asn} {w : World} {R : Ending → World → Prop} {V : List Md.Ver} {B : List Md.Br} {q g : Nat}
/-- A key put in the catalogue's tree. -/
theorem kt_put {es : List Ky.En} {key val : ByteArray} (hc : Hid (Ky.chk key val = 0)) (ho : Hid (Ky.one (key, val) ≤ 19)) (hk : c.k.n ≤ 3000) (hg : g ≤ 240) (hq : 60 ≤ q) (hroom : Hid (30 + (Tb.most q g : Int) < c.k.room)) (H : Sat (TrAt c es q g * F) w)
    (hR : ∀ w', Sat (TrAt c (Ky.put es key val) (q + 19) (g + 1) * F) w' → Io w w' → R (.returned (.int .i64 0)) w') :
    Calls Tryz.prog 23 #[.pointer (some ⟨c.tr, 0, none⟩), .string key, .string val] w R := by
  have hl := Tb.loc_put hc.out
  refine ctput_any hk hg hq hc.out hl trivial H fun x w' D I => ?_
  rcases D with ⟨rfl, H'⟩ | ⟨_, h1, _⟩
  · exact hR w' (TrAt.mono (by have := ho.out; omega) (by omega) H') I
  · have := hroom.out; omega
theorem cjoin3 {b g' : Nat} {x y z r : ByteArray} (hb : b = g') (hx : Hid (x.size ≤ 100 ∧ y.size ≤ 100 ∧ z.size ≤ 100)) (hr : Hid (tx (cat [x, y, z]) = r)) (H : Sat (pts g' (.cells #[.string x, .string y, .string z] 9 (0, 0)) * F) w)
    (h : ∀ w', Sat (pts g' (.cells #[.string x, .string y, .string z] 9 (0, 0)) * F) w' → Io w w' → R (.returned (.string r)) w') :
    Calls Tryz.prog 38 #[.slice (some ⟨b, 0, none⟩) 3 3] w R := by
  subst hb
  have hx := hx.out
  refine join_any H b 3 3 [x, y, z] rfl H.left.lt (fun j s hj => ?_) (by omega) ?_ (by simp) (by rw [hr.out]; exact h)
  · have := Sat.read H.left.at j
    rw [this]
    match j with
    | 0 => simp at hj ⊢; exact hj
    | 1 => simp at hj ⊢; exact hj
    | 2 => simp at hj ⊢; exact hj
    | j + 3 => simp at hj
  · have h1 := size_list x
    have h2 := size_list y
    have h3 := size_list z
    simp only [cat, List.map_cons, List.map_nil, List.flatten_cons, List.flatten_nil, List.append_nil, List.length_append]
    omega
set_option maxRecDepth 100000 in
set_option maxHeartbeats 8000000 in
/-- A VERSION IS PUT IN. -/
theorem kput_yes (v : Md.Ver) (ok : Ca.OkV v) (hk : c.k.n ≤ 3000) (hg : g ≤ 240) (hq : 60 ≤ q) (hroom : Hid (30 + (Tb.most q g : Int) < c.k.room)) (H : Sat (KtAt a c V B q g * F) w)
    (hR : ∀ w', Sat (KtAt a c (Ca.vput V v) B (q + 19) (g + 1) * F) w' → Io w w' → R (.returned (.int .i64 0)) w') :
    Calls Tryz.prog 10 #[.pointer (some ⟨a, 0, none⟩), .agg #[.int .i64 v.id, .int .i64 v.parent, .int .i64 v.root, .int .i64 v.edges]] w R := by
  obtain ⟨es, cat', H⟩ := sat_kt.1 H
  have HH := Lib.hid fun w' (H' : Sat (TrAt c (Ky.put es (Ca.vk v.id) (Ca.vl v)) (q + 19) (g + 1) * (pts a (.cells #[.pointer (some ⟨c.tr, 0, none⟩)] 82 (0, 0)) * F)) w') I => hR w' (sat_kt.2 ⟨_, cat'.putV ok, H'⟩) I
  obtain ⟨x, hx⟩ : ∃ x, Ca.vl v = x := ⟨_, rfl⟩
  have HX : Hid (tx (cat [tx (be 4 v.parent.toNat), tx (be 4 v.root.toNat), tx (be 4 v.edges.toNat)]) = x) := Lib.hid (by rw [Ca.vl_cat, hx])
  obtain ⟨k, hk0⟩ : ∃ k, k = Ca.kk v.id := ⟨_, rfl⟩
  have HK := Lib.hid hk0
  have hkv : k = Ca.vk v.id := by rw [hk0, Ca.kk_id ok.id]
  have HCH : Hid (Ky.chk k x = 0) := Lib.hid (by rw [hkv, ← hx]; exact Ca.vk_chk _ _)
  have HON : Hid (Ky.one (k, x) ≤ 19) := Lib.hid (by rw [hkv, ← hx, Ca.one_v]; omega)
  rw [← hkv, hx] at HH
  have HD : Hid (true = decide (Ca.okId v.id)) := Lib.hid (decide_eq_true ok.id).symm
  obtain ⟨i, pa, ro, ed⟩ := v
  obtain ⟨ok1, ok2, ok3, ok4⟩ := ok
  simp only at ok1 ok2 ok3 ok4 HX HD
  have P1 := Ca.putS_ok (n := pa) (by omega)
  have P2 := Ca.putS_ok (n := ro) ok3
  have P3 := Ca.putS_ok (n := ed) ok4
  obtain ⟨s1, h1⟩ : ∃ s, tx (be 4 pa.toNat) = s := ⟨_, rfl⟩
  obtain ⟨s2, h2⟩ : ∃ s, tx (be 4 ro.toNat) = s := ⟨_, rfl⟩
  obtain ⟨s3, h3⟩ : ∃ s, tx (be 4 ed.toNat) = s := ⟨_, rfl⟩
  rw [h1] at P1 HX
  rw [h2] at P2 HX
  rw [h3] at P3 HX
  have E1 := Lib.hid P1.1
  have E2 := Lib.hid P2.1
  have E3 := Lib.hid P3.1
  have G1 := Lib.hid P1.2
  have G2 := Lib.hid P2.2
  have G3 := Lib.hid P3.2
  have ZZ : Hid (s1.size ≤ 100 ∧ s2.size ≤ 100 ∧ s3.size ≤ 100) := Lib.hid (by rw [← h1, ← h2, ← h3, tx_size, tx_size, tx_size, be_length, be_length, be_length]; omega)
  have n2 : pa ≤ 1048576 := ok2.2
  have HKN := Lib.hid hk
  have HG := Lib.hid hg
  have HQ := Lib.hid hq
  have H1 := H.new (.cells #[.int .i64 i, .int .i64 pa, .int .i64 ro, .int .i64 ed] 30)
  have I1 := (Io.refl w).alloc (.cells #[.int .i64 i, .int .i64 pa, .int .i64 ro, .int .i64 ed] 30)
  clear hR H hx hk0 hkv ok1 ok2 ok3 ok4 P1 P2 P3 h1 h2 h3 hk hg hq
  go_enter Tryz.func10, Tryz.ntmps10
  go_upto_region 1 with fail
  generalize w.alloc (.cells #[.int .i64 i, .int .i64 pa, .int .i64 ro, .int .i64 ed] 30) = w1 at *
  generalize w.heap.size = bx at *
  have Z := nd4 H1
  obtain ⟨a0, a1, a2, a3⟩ := Z
  go_upto_region 7 with (first
    | (go_at_call 36; (with_reducible refine ckey_any i HK HD H1 ?_); intro w2 H2 I2; have Z := nd4 H2; obtain ⟨b0, b1, b2, b3⟩ := Z)
    | (go_at_call 37; (with_reducible refine put4_w pa E1 G1 H2 ?_); intro w3 H3 I3; have Z := nd4 H3; obtain ⟨c0, c1, c2, c3⟩ := Z)
    | (go_at_call 37; (with_reducible refine put4_w ro E2 G2 H3 ?_); intro w4 H4 I4; have Z := nd4 H4; obtain ⟨d0, d1, d2, d3⟩ := Z)
    | (go_at_call 37; (with_reducible refine put4_w ed E3 G3 H4 ?_); intro w5 H5 I5; have Z := nd4 H5; obtain ⟨e0, e1, e2, e3⟩ := Z)
    | fail)
  have Kd := H5.right.drew
  have Jd := ((((I1.trans I2).trans I3).trans I4).trans I5).drew
  have S0 := (nd1 Kd.right).1
  have Ka := (H5.right.new (.cells #[.string s1, .string s2, .string s3] 9)).drew
  have Ja := (((((I1.trans I2).trans I3).trans I4).trans I5).alloc (.cells #[.string s1, .string s2, .string s3] 9)).drew
  have S3 := (nd1 Ka.right.right).1
  clear H1 H2 H3 H4 H5 I1 I2 I3 I4 I5 a0 a1 a2 a3 b0 b1 b2 b3 c0 c1 c2 c3 d0 d1 d2 d3 e0 e1 e2 e3
  go_region_held3 (fun W => W.cell? ⟨a, 0, none⟩ = some (.pointer (some ⟨c.tr, 0, none⟩))) (with_reducible (first | exact S0 | exact S1 | exact S2 | exact S3)) (first
    | (go_at_call 38; (refine cjoin3 rfl ZZ HX Ka ?_); intro w6 H6 I6; have S1 := (nd1 H6.right.right).1)
    | (go_at_call 23; (with_reducible refine kt_put HCH HON HKN.out HG.out HQ.out hroom H6.right ?_); intro w7 H7 I7; have S2 := (nd1 H7.right).1))
  go_wp2_with fail
  exact HH.out _ H7 ((Ja.trans I6).trans I7)
end
end Go.Proofs.YtojiffhknddleaaGreatDoor

/-
  catalog: Make, Move, by walks. It proves no statement by itself.
-/
namespace Go.Proofs.YtojiffhknddleaaGreatDoor
open Go.RowKit Go.Lib
set_option linter.unusedSimpArgs false
set_option linter.unusedVariables false
set_option linter.unusedSectionVars false
section
variable {a : Nat} {c : Cq} {F : Asn} {w : World} {R : Ending → World → Prop} {V : List Md.Ver} {B : List Md.Br} {q g : Nat}
theorem KtAt.mono {q' g' : Nat} (hq : q ≤ q') (hg : g ≤ g') (H : Sat (KtAt a c V B q g * F) w) : Sat (KtAt a c V B q' g' * F) w := by
  obtain ⟨es, cat, H⟩ := sat_kt.1 H
  exact sat_kt.2 ⟨es, cat, TrAt.mono hq hg H⟩
set_option maxRecDepth 100000 in
set_option maxHeartbeats 8000000 in
/-- A BRANCH IS MADE, or why not is told. -/
theorem kmake_any (n : Ky.Nm) (id : Int) {e : Int} {B' : List Md.Br} (hm : Hid (Md.mk V B n id = (e, B'))) (ZN : Hid (n.size ≤ 1000)) (hl : V.length + B.length ≤ 1000) (hk : c.k.n ≤ 3000) (hg : g ≤ 240) (hq : 60 ≤ q) (hroom : Hid (30 + (Tb.most q g : Int) < c.k.room)) (H : Sat (KtAt a c V B q g * F) w)
    (hR : ∀ w', Sat (KtAt a c V B' (q + 19) (g + 1) * F) w' → Io w w' → R (.returned (.int .i64 e)) w') :
    Calls Tryz.prog 11 #[.pointer (some ⟨a, 0, none⟩), .string n, .int .i64 id] w R := by
  have HH := Lib.hid hR
  have HG := Lib.hid hg
  have HL := Lib.hid hl
  have HQ := Lib.hid hq
  have HKN := Lib.hid hk
  have ZM : Hid (n.size ≤ 9223372036854775807) := Lib.hid (by have := ZN.out; omega)
  have n1 : (n.size : Int) ≤ 1000 := by have := ZN.out; omega
  have n2 : ¬ 9223372036854775807 < 1 + n.size := by have := ZN.out; omega
  have n3 : ¬ 9223372036854775807 < (⟨#[72]⟩ : ByteArray).size + n.size := n2
  have hx := hm.out
  unfold Md.mk at hx
  clear hR hm hg hl hq hk
  go_enter Tryz.func11, Tryz.ntmps11
  by_cases h1 : Md.nameOk n = false
  · rw [if_pos h1, Prod.mk.injEq] at hx
    obtain ⟨rfl, rfl⟩ := hx
    have HD : Hid (false = Md.nameOk n) := Lib.hid h1.symm
    clear h1
    go_wp2_with (go_at_call 13; (with_reducible refine name_any n ZM.out HD H ?_); intro w1 H1 I1)
    exact HH.out _ (KtAt.mono (by omega) (by omega) H1) I1
  · rw [if_neg h1] at hx
    have HD : Hid (true = Md.nameOk n) := Lib.hid (by cases e : Md.nameOk n <;> simp_all)
    clear h1
    by_cases h2 : Md.bplace B n < B.length
    · rw [if_pos h2, Prod.mk.injEq] at hx
      obtain ⟨rfl, rfl⟩ := hx
      have HV : Hid (Ca.hat B n = ((B[Md.bplace B n]'h2).head, 0)) := Lib.hid (by unfold Ca.hat; rw [dif_pos h2])
      generalize (B[Md.bplace B n]'h2).head = hd at HV
      clear h2
      go_wp2_with (first
        | (go_at_call 13; (with_reducible refine name_any n ZM.out HD H ?_); intro w1 H1 I1)
        | (go_at_call 27; (with_reducible refine chd_any n HV ZN HG.out H1 ?_); intro w2 H2 I2)
        | fail)
      exact HH.out _ (KtAt.mono (by omega) (by omega) H2) (I1.trans I2)
    · rw [if_neg h2] at hx
      have HV : Hid (Ca.hat B n = (0, 191)) := Lib.hid (by unfold Ca.hat; rw [dif_neg h2])
      have HP := Lib.hid h2
      clear h2
      by_cases h3 : ¬ Md.vplace V id < V.length
      · rw [if_pos h3, Prod.mk.injEq] at hx
        obtain ⟨rfl, rfl⟩ := hx
        have HW : Hid (Ca.vat V id = (Ca.v0, 190)) := Lib.hid (by unfold Ca.vat; rw [dif_neg h3])
        clear h3
        go_wp2_with (first
          | (go_at_call 13; (with_reducible refine name_any n ZM.out HD H ?_); intro w1 H1 I1)
          | (go_at_call 27; (with_reducible refine chd_any n HV ZN HG.out H1 ?_); intro w2 H2 I2)
          | (go_at_call 26; (with_reducible refine cversion_any id HW HG.out H2 ?_); intro w3 H3 I3; have H4 := (H3.new (.cells #[.int .i64 0, .int .i64 0, .int .i64 0, .int .i64 0] 30)).right; have I4 := I3.alloc (.cells #[.int .i64 0, .int .i64 0, .int .i64 0, .int .i64 0] 30))
          | fail)
        exact HH.out _ (KtAt.mono (by omega) (by omega) H4) ((I1.trans I2).trans I4)
      · rw [if_neg h3] at hx
        have h3' : Md.vplace V id < V.length := by omega
        have HP3 := Lib.hid h3'
        have HW : Hid (Ca.vat V id = (V[Md.vplace V id]'h3', 0)) := Lib.hid (by unfold Ca.vat; rw [dif_pos h3'])
        generalize V[Md.vplace V id]'h3' = vv at HW
        obtain ⟨x1, x2, x3, x4⟩ := vv
        clear h3 h3'
        by_cases h4 : 64 ≤ B.length
        · rw [if_pos h4, Prod.mk.injEq] at hx
          obtain ⟨rfl, rfl⟩ := hx
          have n4 : (64 : Int) ≤ (B.length : Int) := by omega
          clear h4
          go_wp2_with (first
            | (go_at_call 13; (with_reducible refine name_any n ZM.out HD H ?_); intro w1 H1 I1)
            | (go_at_call 27; (with_reducible refine chd_any n HV ZN HG.out H1 ?_); intro w2 H2 I2)
            | (go_at_call 26; (with_reducible refine cversion_any id HW HG.out H2 ?_); intro w3 H3 I3; have H4 := (H3.new (.cells #[.int .i64 x1, .int .i64 x2, .int .i64 x3, .int .i64 x4] 30)).right; have I4 := I3.alloc (.cells #[.int .i64 x1, .int .i64 x2, .int .i64 x3, .int .i64 x4] 30))
            | (go_at_call 12; (with_reducible refine branches_any HG.out HL.out H4 ?_); intro vb w5 H5 I5; obtain ⟨ab, cb, hq⟩ := rowOf_shl H5; subst hq)
            | fail)
          exact HH.out _ (KtAt.mono (by omega) (by omega) H5.right) (((I1.trans I2).trans I4).trans I5)
        · rw [if_neg h4, Prod.mk.injEq] at hx
          obtain ⟨rfl, rfl⟩ := hx
          have n4 : ¬ (64 : Int) ≤ (B.length : Int) := by omega
          have n5 : (B.length : Int) < 64 := by omega
          clear h4
          obtain ⟨kb, hkb⟩ : ∃ kb, putS 4 id = kb := ⟨_, rfl⟩
          have HKB := Lib.hid hkb
          clear hkb
          go_upto_region 16 with (first
            | (go_at_call 13; (with_reducible refine name_any n ZM.out HD H ?_); intro w1 H1 I1)
            | (go_at_call 27; (with_reducible refine chd_any n HV ZN HG.out H1 ?_); intro w2 H2 I2)
            | (go_at_call 26; (with_reducible refine cversion_any id HW HG.out H2 ?_); intro w3 H3 I3; have H4 := (H3.new (.cells #[.int .i64 x1, .int .i64 x2, .int .i64 x3, .int .i64 x4] 30)).right; have I4 := I3.alloc (.cells #[.int .i64 x1, .int .i64 x2, .int .i64 x3, .int .i64 x4] 30))
            | (go_at_call 12; (with_reducible refine branches_any HG.out HL.out H4 ?_); intro vb w5 H5 I5; obtain ⟨ab, cb, hq⟩ := rowOf_shl H5; subst hq)
            | fail)
          obtain ⟨es, cat', K⟩ := sat_kt.1 H5.right
          have hid := Ca.vplace_ok cat' HP3.out
          have hn := HD.out.symm
          have hkb : kb = Ca.bl id := by rw [← HKB.out, (Ca.putS_id hid).1]; rfl
          have HC2 := Lib.hid (cat'.make hn hid HP.out)
          have HCH : Hid (Ky.chk ((⟨#[72]⟩ : ByteArray) ++ n) kb = 0) := Lib.hid (by rw [hkb]; exact Ca.bk_chk hn id)
          have HON : Hid (Ky.one ((⟨#[72]⟩ : ByteArray) ++ n, kb) ≤ 19) := Lib.hid (by rw [hkb]; exact Ca.one_b hn id)
          have HF : Hid (Ky.put es ((⟨#[72]⟩ : ByteArray) ++ n) kb = Ky.put es (Ca.bk n) (Ca.bl id)) := Lib.hid (by rw [hkb]; rfl)
          have Kd := K.drew
          have Jd := (((I1.trans I2).trans I4).trans I5).drew
          have S0 := (nd1 Kd.right).1
          clear H H1 H2 H3 H4 H5 I1 I2 I3 I4 I5 K hid hn hkb cat'
          go_region_held3 (fun W => W.cell? ⟨a, 0, none⟩ = some (.pointer (some ⟨c.tr, 0, none⟩))) (with_reducible (first | exact S0 | exact S1 | exact S2)) (first
            | (go_at_call 39; (with_reducible refine chead_any id HKB Kd ?_); intro w6 H6 I6; have S1 := (nd1 H6.right).1)
            | (go_at_call 23; (with_reducible refine kt_put HCH HON HKN.out HG.out HQ.out hroom H6 ?_); intro w7 H7 I7; have S2 := (nd1 H7.right).1))
          all_goals (go_wp2_with fail)
          all_goals exact HH.out _ (sat_kt.2 ⟨_, HC2.out, by rw [HF.out] at H7; exact H7⟩) ((Jd.trans I6).trans I7)
set_option maxRecDepth 100000 in
set_option maxHeartbeats 8000000 in
/-- A BRANCH IS GIVEN ANOTHER HEAD, or why not is told. -/
theorem kmove_any (n : Ky.Nm) (id : Int) {e : Int} {B' : List Md.Br} (hm : Hid (Ca.mv V B n id = (e, B'))) (ZN : Hid (n.size ≤ 1000)) (hl : V.length + B.length ≤ 1000) (hk : c.k.n ≤ 3000) (hg : g ≤ 240) (hq : 60 ≤ q) (hroom : Hid (30 + (Tb.most q g : Int) < c.k.room)) (H : Sat (KtAt a c V B q g * F) w)
    (hR : ∀ w', Sat (KtAt a c V B' (q + 19) (g + 1) * F) w' → Io w w' → R (.returned (.int .i64 e)) w') :
    Calls Tryz.prog 19 #[.pointer (some ⟨a, 0, none⟩), .string n, .int .i64 id] w R := by
  have HH := Lib.hid hR
  have HG := Lib.hid hg
  have HL := Lib.hid hl
  have HQ := Lib.hid hq
  have HKN := Lib.hid hk
  have n1 : (n.size : Int) ≤ 1000 := by have := ZN.out; omega
  have n2 : ¬ 9223372036854775807 < 1 + n.size := by have := ZN.out; omega
  have n3 : ¬ 9223372036854775807 < (⟨#[72]⟩ : ByteArray).size + n.size := n2
  have hx := hm.out
  unfold Ca.mv at hx
  clear hR hm hg hl hq hk
  go_enter Tryz.func19, Tryz.ntmps19
  by_cases h2 : ¬ Md.bplace B n < B.length
  · rw [if_pos h2, Prod.mk.injEq] at hx
    obtain ⟨rfl, rfl⟩ := hx
    have HV : Hid (Ca.hat B n = (0, 191)) := Lib.hid (by unfold Ca.hat; rw [dif_neg h2])
    clear h2
    go_wp2_with (go_at_call 27; (with_reducible refine chd_any n HV ZN HG.out H ?_); intro w2 H2 I2)
    exact HH.out _ (KtAt.mono (by omega) (by omega) H2) I2
  · rw [if_neg h2] at hx
    have h2' : Md.bplace B n < B.length := by omega
    have HP := Lib.hid h2'
    have HV : Hid (Ca.hat B n = ((B[Md.bplace B n]'h2').head, 0)) := Lib.hid (by unfold Ca.hat; rw [dif_pos h2'])
    generalize (B[Md.bplace B n]'h2').head = hd at HV
    clear h2 h2'
    by_cases h3 : ¬ Md.vplace V id < V.length
    · rw [if_pos h3, Prod.mk.injEq] at hx
      obtain ⟨rfl, rfl⟩ := hx
      have HW : Hid (Ca.vat V id = (Ca.v0, 190)) := Lib.hid (by unfold Ca.vat; rw [dif_neg h3])
      clear h3
      go_wp2_with (first
        | (go_at_call 27; (with_reducible refine chd_any n HV ZN HG.out H ?_); intro w2 H2 I2)
        | (go_at_call 26; (with_reducible refine cversion_any id HW HG.out H2 ?_); intro w3 H3 I3; have H4 := (H3.new (.cells #[.int .i64 0, .int .i64 0, .int .i64 0, .int .i64 0] 30)).right; have I4 := I3.alloc (.cells #[.int .i64 0, .int .i64 0, .int .i64 0, .int .i64 0] 30))
        | fail)
      exact HH.out _ (KtAt.mono (by omega) (by omega) H4) (I2.trans I4)
    · rw [if_neg h3, Prod.mk.injEq] at hx
      obtain ⟨rfl, rfl⟩ := hx
      have h3' : Md.vplace V id < V.length := by omega
      have HP3 := Lib.hid h3'
      have HW : Hid (Ca.vat V id = (V[Md.vplace V id]'h3', 0)) := Lib.hid (by unfold Ca.vat; rw [dif_pos h3'])
      generalize V[Md.vplace V id]'h3' = vv at HW
      obtain ⟨x1, x2, x3, x4⟩ := vv
      clear h3 h3'
      obtain ⟨kb, hkb⟩ : ∃ kb, putS 4 id = kb := ⟨_, rfl⟩
      have HKB := Lib.hid hkb
      clear hkb
      go_upto_region 7 with (first
        | (go_at_call 27; (with_reducible refine chd_any n HV ZN HG.out H ?_); intro w2 H2 I2)
        | (go_at_call 26; (with_reducible refine cversion_any id HW HG.out H2 ?_); intro w3 H3 I3; have H4 := (H3.new (.cells #[.int .i64 x1, .int .i64 x2, .int .i64 x3, .int .i64 x4] 30)).right; have I4 := I3.alloc (.cells #[.int .i64 x1, .int .i64 x2, .int .i64 x3, .int .i64 x4] 30))
        | fail)
      obtain ⟨es, cat', K⟩ := sat_kt.1 H4
      have hid := Ca.vplace_ok cat' HP3.out
      have hn := Ca.bplace_ok cat' HP.out
      have hkb : kb = Ca.bl id := by rw [← HKB.out, (Ca.putS_id hid).1]; rfl
      have HC2 := Lib.hid (cat'.move hn hid HP.out)
      have HCH : Hid (Ky.chk ((⟨#[72]⟩ : ByteArray) ++ n) kb = 0) := Lib.hid (by rw [hkb]; exact Ca.bk_chk hn id)
      have HON : Hid (Ky.one ((⟨#[72]⟩ : ByteArray) ++ n, kb) ≤ 19) := Lib.hid (by rw [hkb]; exact Ca.one_b hn id)
      have HF : Hid (Ky.put es ((⟨#[72]⟩ : ByteArray) ++ n) kb = Ky.put es (Ca.bk n) (Ca.bl id)) := Lib.hid (by rw [hkb]; rfl)
      have Kd := K.drew
      have Jd := (I2.trans I4).drew
      have S0 := (nd1 Kd.right).1
      clear H H2 H3 H4 I2 I3 I4 K hid hn hkb cat'
      go_region_held3 (fun W => W.cell? ⟨a, 0, none⟩ = some (.pointer (some ⟨c.tr, 0, none⟩))) (with_reducible (first | exact S0 | exact S1 | exact S2)) (first
        | (go_at_call 39; (with_reducible refine chead_any id HKB Kd ?_); intro w6 H6 I6; have S1 := (nd1 H6.right).1)
        | (go_at_call 23; (with_reducible refine kt_put HCH HON HKN.out HG.out HQ.out hroom H6 ?_); intro w7 H7 I7; have S2 := (nd1 H7.right).1))
      all_goals (go_wp2_with fail)
      all_goals exact HH.out _ (sat_kt.2 ⟨_, HC2.out, by rw [HF.out] at H7; exact H7⟩) ((Jd.trans I6).trans I7)
end
end Go.Proofs.YtojiffhknddleaaGreatDoor
