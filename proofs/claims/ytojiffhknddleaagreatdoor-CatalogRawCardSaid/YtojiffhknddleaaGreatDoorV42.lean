/-
  catalog: keys, what stands under one, versions and branches read; by walks. It proves no statement by itself.
-/
import Derived.Test.YtojiffhknddleaaGreatDoorV36
import Derived.Test.YtojiffhknddleaaGreatDoorV38
import Derived.Test.YtojiffhknddleaaGreatDoorV39
import Derived.Test.YtojiffhknddleaaGreatDoorV40
import Derived.Test.YtojiffhknddleaaGreatDoorV41
namespace Go.Proofs.YtojiffhknddleaaGreatDoor
open Go.RowKit Go.Lib
set_option linter.unusedSimpArgs false
set_option linter.unusedVariables false
set_option linter.unusedSectionVars false
namespace Ca
theorem fits_id {id : Int} (h : okId id) : fits 4 id = true := by
  unfold okId at h
  unfold fits
  simp
  omega
theorem putS_id {id : Int} (h : okId id) : putS 4 id = tx (be 4 id.toNat) ∧ putE 4 id = 0 := by
  unfold putS putE
  rw [fits_id h]
  exact ⟨rfl, rfl⟩
theorem putS_ok {n : Int} (h : 0 ≤ n ∧ n ≤ 4294967295) : putS 4 n = tx (be 4 n.toNat) ∧ putE 4 n = 0 := by
  have hf : fits 4 n = true := by unfold fits; simp; omega
  unfold putS putE
  rw [hf]
  exact ⟨rfl, rfl⟩
theorem putE_zero {n : Int} : putE 4 n = 0 ↔ 0 ≤ n ∧ n ≤ 4294967295 := by
  unfold putE fits
  constructor
  · intro h
    split at h
    · rename_i h2
      simp at h2
      omega
    · cases h
  · intro h
    rw [if_pos]
    simp
    omega
/-- What the program makes of an ID as a key. -/
def kk (id : Int) : Ky.Nm := pV ++ putS 4 id
theorem kk_id {id : Int} (h : okId id) : kk id = vk id := by unfold kk vk; rw [(putS_id h).1]
end Ca
section
variable {F : Asn} {w : World} {R : Ending → World → Prop}
theorem put4_w (n : Int) {k : ByteArray} {e : Int} (hk : Hid (putS 4 n = k)) (he : Hid (putE 4 n = e)) (H : Sat F w) (h : ∀ w', Sat F w' → Io w w' → R (.returned (.tuple #[.string k, .int .i64 e])) w') :
    Calls Tryz.prog 37 #[.int .i64 4, .int .i64 n] w R := by
  obtain rfl := hk.out
  obtain rfl := he.out
  exact put4_any n H h
theorem put4_size (n : Int) : ((putS 4 n).size : Int) ≤ 4 := by
  unfold putS
  split
  · rw [tx_size, be_length]; omega
  · decide
theorem putE_two (n : Int) : putE 4 n = 0 ∨ putE 4 n = 1 := by unfold putE; split <;> simp
set_option maxRecDepth 100000 in
set_option maxHeartbeats 4000000 in
theorem ckey_any (id : Int) {k : ByteArray} {d : Bool} (hk : Hid (k = Ca.kk id)) (hd : Hid (d = decide (Ca.okId id))) (H : Sat F w) (h : ∀ w', Sat F w' → Io w w' → R (.returned (.tuple #[.string k, .bool d])) w') :
    Calls Tryz.prog 36 #[.int .i64 id] w R := by
  have HH := Lib.hid h
  obtain ⟨s, hs⟩ : ∃ s, putS 4 id = s := ⟨_, rfl⟩
  obtain ⟨e, he⟩ : ∃ e, putE 4 id = e := ⟨_, rfl⟩
  have HS := Lib.hid hs
  have HE := Lib.hid he
  obtain rfl : k = (⟨#[86]⟩ : ByteArray) ++ s := by rw [hk.out, ← hs]; rfl
  have z1 : (s.size : Int) ≤ 4 := by rw [← hs]; exact put4_size id
  have hx := hd.out
  unfold Ca.okId at hx
  have h2 := putE_two id
  have h3 := Ca.putE_zero (n := id)
  rw [he] at h2 h3
  clear h hk hs he hd
  go_enter Tryz.func36, Tryz.ntmps36
  rcases h2 with h2 | h2
  · subst h2
    by_cases c2 : 1 ≤ id
    · by_cases c3 : id ≤ 1048576
      · obtain rfl : d = true := by rw [hx]; exact decide_eq_true ⟨c2, c3⟩
        clear hx h3
        go_wp2_with (go_at_call 37; (with_reducible refine put4_w id HS HE H ?_); intro w1 H1 I1)
        first | exact HH.out _ H1 I1 | exact bodyPost_ret (v := .tuple #[.string ((⟨#[86]⟩ : ByteArray) ++ s), .bool true]) (by simp [results, Tryz.results36, go_sem]) rfl (HH.out _ H1 I1)
      · obtain rfl : d = decide (id ≤ 1048576) := by rw [hx]; exact decide_eq_decide.2 ⟨fun h => h.2, fun h => ⟨c2, h⟩⟩
        clear hx h3 c3
        go_wp2_with (go_at_call 37; (with_reducible refine put4_w id HS HE H ?_); intro w1 H1 I1)
        exact HH.out _ H1 I1
    · obtain rfl : d = false := by rw [hx]; exact decide_eq_false fun h => c2 h.1
      have c4 : id < 1 := by omega
      clear hx h3 c2
      go_wp2_with (go_at_call 37; (with_reducible refine put4_w id HS HE H ?_); intro w1 H1 I1)
      first | exact HH.out _ H1 I1 | exact bodyPost_ret (v := .tuple #[.string ((⟨#[86]⟩ : ByteArray) ++ s), .bool false]) (by simp [results, Tryz.results36, go_sem]) rfl (HH.out _ H1 I1)
  · subst h2
    obtain rfl : d = false := by rw [hx]; exact decide_eq_false fun h => by have := h3.2 (by omega); omega
    clear hx h3
    go_wp2_with (go_at_call 37; (with_reducible refine put4_w id HS HE H ?_); intro w1 H1 I1)
    first | exact HH.out _ H1 I1 | exact bodyPost_ret (v := .tuple #[.string ((⟨#[86]⟩ : ByteArray) ++ s), .bool false]) (by simp [results, Tryz.results36, go_sem]) rfl (HH.out _ H1 I1)
set_option maxRecDepth 100000 in
set_option maxHeartbeats 4000000 in
theorem chead_any (id : Int) {k : ByteArray} (hk : Hid (putS 4 id = k)) (H : Sat F w) (h : ∀ w', Sat F w' → Io w w' → R (.returned (.string k)) w') :
    Calls Tryz.prog 39 #[.int .i64 id] w R := by
  have HH := Lib.hid h
  obtain ⟨e, he⟩ : ∃ e, putE 4 id = e := ⟨_, rfl⟩
  have HE := Lib.hid he
  clear h he
  go_enter Tryz.func39, Tryz.ntmps39
  go_wp2_with (go_at_call 37; (with_reducible refine put4_w id hk HE H ?_); intro w1 H1 I1)
  exact HH.out _ H1 I1
end
/-- THE CATALOGUE. -/
def KtAt (a : Nat) (c : Cq) (V : List Md.Ver) (B : List Md.Br) (q g : Nat) : Asn := ex fun es : {es : List Ky.En // Ca.Cat es V B} => pts a (.cells #[.pointer (some ⟨c.tr, 0, none⟩)] 82 (0, 0)) * TrAt c es.1 q g
section
variable {a : Nat} {c : Cq} {F : Asn} {w : World} {R : Ending → World → Prop} {V : List Md.Ver} {B : List Md.Br} {q g : Nat}
theorem sat_kt : Sat (KtAt a c V B q g * F) w ↔ ∃ es, Ca.Cat es V B ∧ Sat (TrAt c es q g * (pts a (.cells #[.pointer (some ⟨c.tr, 0, none⟩)] 82 (0, 0)) * F)) w := by
  have e0 : KtAt a c V B q g * F = (ex fun es : {es : List Ky.En // Ca.Cat es V B} => pts a (.cells #[.pointer (some ⟨c.tr, 0, none⟩)] 82 (0, 0)) * TrAt c es.1 q g) * F := rfl
  rw [e0, sat_ex]
  constructor
  · rintro ⟨⟨es, h⟩, k⟩; exact ⟨es, h, k.of_eq (by ac_rfl)⟩
  · rintro ⟨es, h, k⟩; exact ⟨⟨es, h⟩, k.of_eq (by ac_rfl)⟩
theorem en_fill {b : Nat} {k x : ByteArray} {y0 y1 : Value} (H : Sat (pts b (.cells #[y0, y1] 50 (0, 0)) * F) w) :
    Sat (pts b (.cells #[.string k, .string x] 50 (0, 0)) * F) ((w.setCell ⟨b, 0, none⟩ (.string k)).setCell ⟨b, 1, none⟩ (.string x)) := (H.cell 0 (.string k)).cell 1 (.string x)
set_option maxRecDepth 100000 in
set_option maxHeartbeats 4000000 in
/-- What stands under a key. -/
theorem cget_any {es : List Ky.En} {k val : ByteArray} {d : Bool} {none' e : Int} (hg : g ≤ 240) (hgt : Hid ((d = true ∧ Ky.get es k = some val) ∨ (d = false ∧ val = ⟨#[]⟩ ∧ Ky.get es k = none))) (he : Hid (e = if d = true then 0 else none'))
    (H : Sat (TrAt c es q g * (pts a (.cells #[.pointer (some ⟨c.tr, 0, none⟩)] 82 (0, 0)) * F)) w)
    (hR : ∀ w', Sat (TrAt c es q g * (pts a (.cells #[.pointer (some ⟨c.tr, 0, none⟩)] 82 (0, 0)) * F)) w' → Io w w' → R (.returned (.tuple #[.agg #[.string k, .string val], .int .i64 e])) w') :
    Calls Tryz.prog 55 #[.pointer (some ⟨a, 0, none⟩), .string k, .int .i64 none'] w R := by
  have HH := Lib.hid hR
  have HG := Lib.hid hg
  have H0 := H.new (.cells #[.string ⟨#[]⟩, .string ⟨#[]⟩] 50)
  have I0 := (Io.refl w).alloc (.cells #[.string ⟨#[]⟩, .string ⟨#[]⟩] 50)
  have hx := he.out
  clear hR hg he H
  go_enter Tryz.func55, Tryz.ntmps55
  go_upto_region 1 with fail
  generalize w.alloc (.cells #[.string ⟨#[]⟩, .string ⟨#[]⟩] 50) = w0 at *
  generalize w.heap.size = br at *
  have S0 := (nd1 H0.right.right).1
  cases d with
  | true =>
    obtain rfl : e = 0 := by rw [hx, if_pos rfl]
    clear hx
    go_wp2_with (go_at_call 66; (with_reducible refine ctget_any HG.out hgt (swap3 H0) ?_); intro w1 H1 I1; have K1 := swap3 H1; have Z := nd2 K1; obtain ⟨c0, c1⟩ := Z; have Y := nd2f K1; obtain ⟨d0, d1⟩ := Y; have K2 := en_fill (k := k) (x := val) K1; have X := nd2 K2; obtain ⟨f0, f1⟩ := X)
    exact bodyPost_ret (v := .tuple #[.agg #[.string k, .string val], .int .i64 0]) (by simp [results, Tryz.results55, go_sem, f0, f1]) rfl (HH.out _ K2.right (((I0.trans I1).setCell ⟨br, 0, none⟩ (.string k)).setCell ⟨br, 1, none⟩ (.string val)))
  | false =>
    obtain rfl : e = none' := by rw [hx, if_neg (by simp)]
    clear hx
    go_wp2_with (go_at_call 66; (with_reducible refine ctget_any HG.out hgt (swap3 H0) ?_); intro w1 H1 I1; have K1 := swap3 H1; have Z := nd2 K1; obtain ⟨c0, c1⟩ := Z; have Y := nd2f K1; obtain ⟨d0, d1⟩ := Y; have K2 := en_fill (k := k) (x := val) K1; have X := nd2 K2; obtain ⟨f0, f1⟩ := X)
    exact bodyPost_ret (v := .tuple #[.agg #[.string k, .string val], .int .i64 e]) (by simp [results, Tryz.results55, go_sem, f0, f1]) rfl (HH.out _ K2.right (((I0.trans I1).setCell ⟨br, 0, none⟩ (.string k)).setCell ⟨br, 1, none⟩ (.string val)))
theorem cget_yes {es : List Ky.En} {k val : ByteArray} (none' : Int) (hg : g ≤ 240) (hgt : Hid (Ky.get es k = some val))
    (H : Sat (TrAt c es q g * (pts a (.cells #[.pointer (some ⟨c.tr, 0, none⟩)] 82 (0, 0)) * F)) w)
    (hR : ∀ w', Sat (TrAt c es q g * (pts a (.cells #[.pointer (some ⟨c.tr, 0, none⟩)] 82 (0, 0)) * F)) w' → Io w w' → R (.returned (.tuple #[.agg #[.string k, .string val], .int .i64 0])) w') :
    Calls Tryz.prog 55 #[.pointer (some ⟨a, 0, none⟩), .string k, .int .i64 none'] w R :=
  cget_any (d := true) hg (Lib.hid (.inl ⟨rfl, hgt.out⟩)) (Lib.hid (by rw [if_pos rfl])) H hR
theorem cget_none {es : List Ky.En} {k : ByteArray} (none' : Int) (hg : g ≤ 240) (hgt : Hid (Ky.get es k = none))
    (H : Sat (TrAt c es q g * (pts a (.cells #[.pointer (some ⟨c.tr, 0, none⟩)] 82 (0, 0)) * F)) w)
    (hR : ∀ w', Sat (TrAt c es q g * (pts a (.cells #[.pointer (some ⟨c.tr, 0, none⟩)] 82 (0, 0)) * F)) w' → Io w w' → R (.returned (.tuple #[.agg #[.string k, .string ⟨#[]⟩], .int .i64 none'])) w') :
    Calls Tryz.prog 55 #[.pointer (some ⟨a, 0, none⟩), .string k, .int .i64 none'] w R :=
  cget_any (d := false) hg (Lib.hid (.inr ⟨rfl, rfl, hgt.out⟩)) (Lib.hid (by rw [if_neg (by simp)])) H hR
end
end Go.Proofs.YtojiffhknddleaaGreatDoor

/-
  catalog: a version, a branch read from their entries; by walks. It proves no statement by itself.
-/
namespace Go.Proofs.YtojiffhknddleaaGreatDoor
open Go.RowKit Go.Lib
set_option linter.unusedSimpArgs false
set_option linter.unusedVariables false
set_option linter.unusedSectionVars false
namespace Ca
theorem add_nil (s : Ky.Nm) : s ++ (⟨#[]⟩ : Ky.Nm) = s := by apply ByteArray.ext; simp
theorem vl_p4 (v : Md.Ver) : vl v = Ky.p4 v.parent ++ (Ky.p4 v.root ++ (Ky.p4 v.edges ++ ⟨#[]⟩)) := by
  unfold vl Ky.p4
  rw [add_nil, tx_append, tx_append, List.append_assoc]
theorem vk_p4 (id : Int) : vk id = pV ++ (Ky.p4 id ++ ⟨#[]⟩) := by rw [add_nil]; rfl
theorem bl_p4 (h : Int) : bl h = Ky.p4 h ++ ⟨#[]⟩ := by rw [add_nil]; rfl
theorem p4_len (n : Int) : (Ky.p4 n).size = 4 := by unfold Ky.p4; rw [tx_size, be_length]
end Ca
section
variable {F : Asn} {w : World} {R : Ending → World → Prop} {p : Nat}
theorem cint_any (n : Int) (hn : 0 ≤ n ∧ n ≤ 4294967295) (rest : ByteArray) (hr : rest.size ≤ 1000) (H : Sat (IsRd p ⟨Ky.p4 n ++ rest, 0⟩ * F) w) (h : ∀ w', Sat (IsRd p ⟨rest, 0⟩ * F) w' → Io w w' → R (.returned (.int .i64 n)) w') :
    Calls Tryz.prog 64 #[.pointer (some ⟨p, 0, none⟩), .int .i64 4] w R := by
  have e : ((n.toNat : Nat) : Int) = n := by omega
  have := rint4_any (R := R) n.toNat rest (by omega) (by omega) (by rw [e]; exact H) (by rw [e]; exact h)
  exact this
theorem cbytes_any {a : ByteArray} (ha : a.size = 1) (rest : ByteArray) (hr : rest.size ≤ 1000) (H : Sat (IsRd p ⟨a ++ rest, 0⟩ * F) w) (h : ∀ s w', Sat (IsRd p ⟨rest, 0⟩ * F) w' → Io w w' → R (.returned (.string s)) w') :
    Calls Tryz.prog 78 #[.pointer (some ⟨p, 0, none⟩), .int .i64 1] w R := by
  refine bytes_any H (by show (a ++ rest).size ≤ 1000000; rw [ByteArray.size_append]; omega) 1 fun w' H' I => h _ w' ?_ I
  have := bR_at (a := a) (b := rest) (n := 1) ha.symm
  rw [show ((1 : Nat) : Int) = 1 from rfl] at this
  rw [this] at H'
  exact H'
theorem cend_any (H : Sat (IsRd p ⟨⟨#[]⟩, 0⟩ * F) w) (h : ∀ w', Sat (IsRd p ⟨⟨#[]⟩, 0⟩ * F) w' → Io w w' → R (.returned (.int .i64 0)) w') :
    Calls Tryz.prog 65 #[.pointer (some ⟨p, 0, none⟩)] w R := end_any H h
theorem ver_set {b : Nat} {i pa ro ed : Int} (H : Sat (pts b (.cells #[.int .i64 i, .int .i64 0, .int .i64 0, .int .i64 0] 30 (0, 0)) * F) w) :
    Sat (pts b (.cells #[.int .i64 i, .int .i64 pa, .int .i64 ro, .int .i64 ed] 30 (0, 0)) * F) (((w.setCell ⟨b, 1, none⟩ (.int .i64 pa)).setCell ⟨b, 2, none⟩ (.int .i64 ro)).setCell ⟨b, 3, none⟩ (.int .i64 ed)) := ((H.cell 1 (.int .i64 pa)).cell 2 (.int .i64 ro)).cell 3 (.int .i64 ed)
theorem ver_fill {b : Nat} {i pa ro ed : Int} {y0 y1 y2 y3 : Value} (H : Sat (pts b (.cells #[y0, y1, y2, y3] 30 (0, 0)) * F) w) :
    Sat (pts b (.cells #[.int .i64 i, .int .i64 pa, .int .i64 ro, .int .i64 ed] 30 (0, 0)) * F) ((((w.setCell ⟨b, 0, none⟩ (.int .i64 i)).setCell ⟨b, 1, none⟩ (.int .i64 pa)).setCell ⟨b, 2, none⟩ (.int .i64 ro)).setCell ⟨b, 3, none⟩ (.int .i64 ed)) := (((H.cell 0 (.int .i64 i)).cell 1 (.int .i64 pa)).cell 2 (.int .i64 ro)).cell 3 (.int .i64 ed)
theorem cb_drop {A B C : Asn} (H : Sat (A * (B * (C * F))) w) : Sat (A * (B * F)) w := (H.of_eq (show _ = C * (A * (B * F)) from by ac_rfl)).right
theorem cv_drop {A B C D : Asn} (H : Sat (A * (B * (C * (D * F)))) w) : Sat (A * (B * (C * F))) w := (H.of_eq (show _ = D * (A * (B * (C * F))) from by ac_rfl)).right
theorem cv_1 {A B C D : Asn} (H : Sat (A * (B * (C * (D * F)))) w) : Sat (C * (A * (B * (D * F)))) w := H.of_eq (by ac_rfl)
theorem cv_2 {A B C D : Asn} (H : Sat (C * (A * (B * (D * F)))) w) : Sat (A * (B * (C * (D * F)))) w := H.of_eq (by ac_rfl)
set_option maxRecDepth 100000 in
set_option maxHeartbeats 8000000 in
/-- A version's entry. -/
theorem cver_any (v : Md.Ver) (ok : Ca.OkV v) {k x : ByteArray} (hk : Hid (k = Ca.vk v.id)) (hx : Hid (x = Ca.vl v)) (H : Sat F w)
    (h : ∀ w', Sat F w' → Io w w' → R (.returned (.tuple #[.agg #[.int .i64 v.id, .int .i64 v.parent, .int .i64 v.root, .int .i64 v.edges], .int .i64 0])) w') :
    Calls Tryz.prog 54 #[.agg #[.string k, .string x]] w R := by
  obtain ⟨i, pa, ro, ed⟩ := v
  obtain ⟨ok1, ok2, ok3, ok4⟩ := ok
  simp only at ok1 ok2 ok3 ok4 hk hx h
  have HH := Lib.hid h
  have HK : Hid (k = Ca.pV ++ (Ky.p4 i ++ ⟨#[]⟩)) := Lib.hid (by rw [hk.out, Ca.vk_p4])
  have HX : Hid (x = Ky.p4 pa ++ (Ky.p4 ro ++ (Ky.p4 ed ++ ⟨#[]⟩))) := Lib.hid (by rw [hx.out, Ca.vl_p4])
  have O1 := Lib.hid ok1
  have O2 : Hid (0 ≤ pa ∧ pa ≤ 4294967295) := Lib.hid (by omega)
  have O3 := Lib.hid ok3
  have O4 := Lib.hid ok4
  have n2 : pa ≤ 1048576 := ok2.2
  have O5 : Hid (0 ≤ i ∧ i ≤ 4294967295) := Lib.hid (by unfold Ca.okId at ok1; omega)
  have D1 : Hid (true = decide (Ca.okId i)) := Lib.hid (decide_eq_true ok1).symm
  obtain ⟨kk, hkk⟩ : ∃ kk, kk = Ca.kk i := ⟨_, rfl⟩
  have HKK := Lib.hid hkk
  have Z0 : Hid ((⟨#[]⟩ : ByteArray).size ≤ 1000) := Lib.hid (by decide)
  have Z1 : Hid ((Ky.p4 ed ++ (⟨#[]⟩ : ByteArray)).size ≤ 1000) := Lib.hid (by rw [Ca.add_nil, Ca.p4_len]; omega)
  have Z2 : Hid ((Ky.p4 ro ++ (Ky.p4 ed ++ (⟨#[]⟩ : ByteArray))).size ≤ 1000) := Lib.hid (by rw [Ca.add_nil, ByteArray.size_append, Ca.p4_len, Ca.p4_len]; omega)
  have Z3 : Hid ((Ky.p4 i ++ (⟨#[]⟩ : ByteArray)).size ≤ 1000) := Lib.hid (by rw [Ca.add_nil, Ca.p4_len]; omega)
  have ZV : Hid (Ca.pV.size = 1) := Lib.hid rfl
  have H1 := (H.new (.cells #[.string k, .string x] 50)).new (.cells #[.int .i64 0, .int .i64 0, .int .i64 0, .int .i64 0] 30)
  have I1 := ((Io.refl w).alloc (.cells #[.string k, .string x] 50)).alloc (.cells #[.int .i64 0, .int .i64 0, .int .i64 0, .int .i64 0] 30)
  rw [World.size_alloc] at H1
  clear h hk hx ok1 ok2 ok3 ok4 hkk H
  go_enter Tryz.func54, Tryz.ntmps54
  go_upto_region 1 with fail
  generalize (w.alloc (.cells #[.string k, .string x] 50)).alloc (.cells #[.int .i64 0, .int .i64 0, .int .i64 0, .int .i64 0] 30) = w1 at *
  generalize w.heap.size = bx at *
  have H1d := H1.drew
  have I1d := I1.drew
  have S0 := nd2 H1d.right
  clear H1 I1
  go_region_held3 (fun W => W.cell? ⟨bx, 0, none⟩ = some (.string k) ∧ W.cell? ⟨bx, 1, none⟩ = some (.string x)) (with_reducible (first | exact S0 | exact S1 | exact S2)) (first
    | (go_at_call 62; (with_reducible refine read_new H1d k ?_); intro p1 w2 H2 I2; have S1 := nd2 H2.right.right)
    | (go_at_call 62; (with_reducible refine read_new H2 x ?_); intro p2 w3 H3 I3; have S2 := nd2 H3.right.right.right; have K3 := swap3 H3; have J3 := (I1d.trans I2).trans I3)
    | (go_at_call 62; (with_reducible refine read_new H1d x ?_); intro p2 w2 H2b I2; have S1 := nd2 H2b.right.right)
    | (go_at_call 62; (with_reducible refine read_new H2b k ?_); intro p1 w3 H3 I3; have S2 := nd2 H3.right.right.right; have K3 := H3; have J3 := (I1d.trans I2).trans I3))
  all_goals
    have K4 := cv_drop K3
    rw [HK.out, HX.out] at K4
    clear K3 S0 S1 S2 HK HX
    go_upto_region 5 with (first
      | (go_at_call 78; (with_reducible refine cbytes_any ZV.out _ Z3.out K4 ?_); intro s w4 H4 I4)
      | (go_at_call 64; (with_reducible refine cint_any i O5.out _ Z0.out H4 ?_); intro w5 H5 I5; have H6 := cv_1 (H5.new (.cells #[.int .i64 i, .int .i64 0, .int .i64 0, .int .i64 0] 30)); have I6 := I5.alloc (.cells #[.int .i64 i, .int .i64 0, .int .i64 0, .int .i64 0] 30))
      | (go_at_call 64; (with_reducible refine cint_any pa O2.out _ Z2.out H6 ?_); intro w7 H7 I7)
      | (go_at_call 64; (with_reducible refine cint_any ro O3.out _ Z1.out H7 ?_); intro w8 H8 I8)
      | (go_at_call 64; (with_reducible refine cint_any ed O4.out _ Z0.out H8 ?_); intro w9 H9 I9; have K9 := cv_2 H9; have Z := nd4 K9; obtain ⟨a0, a1, a2, a3⟩ := Z; have Y := nd4f K9; obtain ⟨b0, b1, b2, b3⟩ := Y)
      | fail)
    have K10 := ver_set (pa := pa) (ro := ro) (ed := ed) K9
    have J10 := (((((J3.trans I4).trans I6).trans I7).trans I8).trans I9)
    have J10 := ((J10.setCell ⟨w5.heap.size, 1, none⟩ (.int .i64 pa)).setCell ⟨w5.heap.size, 2, none⟩ (.int .i64 ro)).setCell ⟨w5.heap.size, 3, none⟩ (.int .i64 ed)
    clear K4 J3 H4 I4 H5 I5 H6 I6 H7 I7 H8 I8 H9 I9 K9 a0 a1 a2 a3 b0 b1 b2 b3
    generalize ((w9.setCell ⟨w5.heap.size, 1, none⟩ (.int .i64 pa)).setCell ⟨w5.heap.size, 2, none⟩ (.int .i64 ro)).setCell ⟨w5.heap.size, 3, none⟩ (.int .i64 ed) = w10 at *
    generalize w5.heap.size = bv at *
    have Z := nd4 K10
    obtain ⟨a0, a1, a2, a3⟩ := Z
    go_upto_region 8 with (first
      | (go_at_call 36; (with_reducible refine ckey_any i HKK D1 K10 ?_); intro w11 H11 I11)
      | (go_at_call 65; (with_reducible refine cend_any (swap3 H11) ?_); intro w12 H12 I12; have K12 := swap3 H12)
      | (go_at_call 65; (with_reducible refine cend_any (cv_1 K12) ?_); intro w13 H13 I13; have K13 := cv_2 H13; have Z := nd4 K13; obtain ⟨c0, c1, c2, c3⟩ := Z; have Y := nd4f K13.right.right.right; obtain ⟨d0, d1, d2, d3⟩ := Y; have X := nd4 K13.right.right.right; obtain ⟨e0, e1, e2, e3⟩ := X)
      | fail)
    have K14 := ver_fill (i := i) (pa := pa) (ro := ro) (ed := ed) K13.right.right.right
    have J14 := ((((J10.trans I11).trans I12).trans I13).setCell ⟨bx + 1, 0, none⟩ (.int .i64 i)).setCell ⟨bx + 1, 1, none⟩ (.int .i64 pa)
    have J14 := (J14.setCell ⟨bx + 1, 2, none⟩ (.int .i64 ro)).setCell ⟨bx + 1, 3, none⟩ (.int .i64 ed)
    have FIN := Lib.hid (HH.out _ K14.right J14)
    have Q := nd4 K14
    obtain ⟨f0, f1, f2, f3⟩ := Q
    go_wp2_with fail
    have hag := Tryz.isAgg30
    have hsz := Tryz.sizeOf30
    exact bodyPost_ret (v := .tuple #[.agg #[.int .i64 i, .int .i64 pa, .int .i64 ro, .int .i64 ed], .int .i64 0]) (by simp [results, Tryz.results54, go_sem, f0, f1, f2, f3]) rfl FIN.out
theorem trim_bk (n : Ky.Nm) : (⟨(Lib.trimPrefix (Ca.bk n).data.toList [72]).toArray⟩ : ByteArray) = n := by
  have hl : (Ca.bk n).data.toList = 72 :: n.data.toList := by
    have := Ca.bk_list n
    rw [ByteArray.toList_eq, ByteArray.toList_eq] at this
    exact this
  have h1 : Lib.hasPrefix (72 :: n.data.toList) [72] = true := List.isPrefixOf_iff_prefix.2 ⟨n.data.toList, rfl⟩
  unfold Lib.trimPrefix
  rw [hl, h1]
  apply nm_ext
  rw [ByteArray.toList_eq, ByteArray.toList_eq]
  simp
theorem ctrim_any {k n : ByteArray} (hk : Hid (k = Ca.bk n)) (h : R (.returned (.string n)) w) : Calls Tryz.prog 63 #[.string k, .string ⟨#[72]⟩] w R := by
  obtain rfl := hk.out
  refine (Tryz.strings_TrimPrefix (Ca.bk n) ⟨#[72]⟩ w).mono fun e w' he => ?_
  obtain ⟨rfl, rfl⟩ := he
  have e2 : (⟨#[72]⟩ : ByteArray).data.toList = [72] := rfl
  rw [e2, trim_bk]
  exact h
theorem br_fill {b : Nat} {n : ByteArray} {hd : Int} {y0 y1 : Value} (H : Sat (pts b (.cells #[y0, y1] 65 (0, 0)) * F) w) :
    Sat (pts b (.cells #[.string n, .int .i64 hd] 65 (0, 0)) * F) ((w.setCell ⟨b, 0, none⟩ (.string n)).setCell ⟨b, 1, none⟩ (.int .i64 hd)) := (H.cell 0 (.string n)).cell 1 (.int .i64 hd)
set_option maxRecDepth 100000 in
set_option maxHeartbeats 8000000 in
/-- A branch's entry. -/
theorem cbr_any (b : Md.Br) (ok : Ca.OkB b) {k x : ByteArray} (hk : Hid (k = Ca.bk b.name)) (hx : Hid (x = Ca.bl b.head)) (H : Sat F w)
    (h : ∀ w', Sat F w' → Io w w' → R (.returned (.tuple #[.agg #[.string b.name, .int .i64 b.head], .int .i64 0])) w') :
    Calls Tryz.prog 41 #[.agg #[.string k, .string x]] w R := by
  obtain ⟨n, hd⟩ := b
  obtain ⟨ok1, ok2⟩ := ok
  simp only at ok1 ok2 hk hx h
  have HH := Lib.hid h
  have HX : Hid (x = Ky.p4 hd ++ ⟨#[]⟩) := Lib.hid (by rw [hx.out, Ca.bl_p4])
  have O1 : Hid (0 ≤ hd ∧ hd ≤ 4294967295) := Lib.hid (by unfold Ca.okId at ok2; omega)
  have D1 : Hid (true = Md.nameOk n) := Lib.hid ok1.symm
  have Z0 : Hid ((⟨#[]⟩ : ByteArray).size ≤ 1000) := Lib.hid (by decide)
  have ZN : Hid (n.size ≤ 9223372036854775807) := Lib.hid (by have := Ca.nameOk_size ok1; omega)
  have H1 := (H.new (.cells #[.string k, .string x] 50)).new (.cells #[.string ⟨#[]⟩, .int .i64 0] 65)
  have I1 := ((Io.refl w).alloc (.cells #[.string k, .string x] 50)).alloc (.cells #[.string ⟨#[]⟩, .int .i64 0] 65)
  rw [World.size_alloc] at H1
  clear h hx ok1 ok2 H
  go_enter Tryz.func41, Tryz.ntmps41
  go_upto_region 1 with fail
  generalize (w.alloc (.cells #[.string k, .string x] 50)).alloc (.cells #[.string ⟨#[]⟩, .int .i64 0] 65) = w1 at *
  generalize w.heap.size = bx at *
  have Z := nd2 H1.right
  obtain ⟨q0, q1⟩ := Z
  go_upto_region 3 with (first
    | (go_at_call 62; (with_reducible refine read_new H1 x ?_); intro p w2 H2 I2; have H3 := cb_drop H2; have Z := nd2 H2.right.right; obtain ⟨y0, y1⟩ := Z; rw [HX.out] at H3)
    | (go_at_call 63; (with_reducible refine ctrim_any hk ?_))
    | (go_at_call 64; (with_reducible refine cint_any hd O1.out _ Z0.out H3 ?_); intro w4 H4 I4; have H5 := H4.new (.cells #[.string n, .int .i64 hd] 65); have I5 := I4.alloc (.cells #[.string n, .int .i64 hd] 65))
    | fail)
  generalize w4.alloc (.cells #[.string n, .int .i64 hd] 65) = w5 at *
  generalize w4.heap.size = bv at *
  have Z := nd2 H5
  obtain ⟨a0, a1⟩ := Z
  go_upto_region 5 with (first
    | (go_at_call 65; (with_reducible refine cend_any (swap3 H5) ?_); intro w6 H6 I6; have K6 := swap3 H6; have Z := nd2 K6; obtain ⟨c0, c1⟩ := Z)
    | (go_at_call 13; (with_reducible refine name_any n ZN.out D1 K6 ?_); intro w7 H7 I7; have Z := nd2 H7; obtain ⟨d0, d1⟩ := Z; have Y := nd2f H7.right.right; obtain ⟨f0, f1⟩ := Y; have X := nd2 H7.right.right; obtain ⟨e0, e1⟩ := X)
    | fail)
  have K8 := br_fill (n := n) (hd := hd) H7.right.right
  have J8 := (((((I1.trans I2).trans I5).trans I6).trans I7).setCell ⟨bx + 1, 0, none⟩ (.string n)).setCell ⟨bx + 1, 1, none⟩ (.int .i64 hd)
  have FIN := Lib.hid (HH.out _ K8.right J8)
  have Q := nd2 K8
  obtain ⟨g0, g1⟩ := Q
  go_wp2_with fail
  exact bodyPost_ret (v := .tuple #[.agg #[.string n, .int .i64 hd], .int .i64 0]) (by simp [results, Tryz.results41, go_sem, g0, g1]) rfl FIN.out
end
end Go.Proofs.YtojiffhknddleaaGreatDoor
