/-
  catalog.New, law 19's fresh and its works, by walks. It proves no statement by itself.
-/
import Derived.Test.YtojiffhknddleaaGreatDoorV46
import Derived.Test.YtojiffhknddleaaGreatDoorV38
namespace Go.Proofs.YtojiffhknddleaaGreatDoor
open Go.RowKit Go.Lib
set_option linter.unusedSimpArgs false
set_option linter.unusedVariables false
set_option linter.unusedSectionVars false
section
variable {a : Nat} {c : Cq} {F : Asn} {w : World} {R : Ending → World → Prop} {V : List Md.Ver} {B : List Md.Br} {q g : Nat}
set_option maxRecDepth 100000 in
set_option maxHeartbeats 2000000 in
theorem knew_any (H : Sat (TrAt c [] q g * F) w)
    (hR : ∀ a w', Sat (KtAt a c [] [] q g * F) w' → Io w w' → R (.returned (.pointer (some ⟨a, 0, none⟩))) w') :
    Calls Tryz.prog 35 #[.pointer (some ⟨c.tr, 0, none⟩)] w R := by
  have H1 := H.new (.cells #[.pointer (some ⟨c.tr, 0, none⟩)] 82)
  have HH := Lib.hid (hR w.heap.size _ (sat_kt.2 ⟨[], Ca.cat_nil, H1.of_eq (show _ = TrAt c [] q g * (pts w.heap.size (.cells #[.pointer (some ⟨c.tr, 0, none⟩)] 82 (0, 0)) * F) from by ac_rfl)⟩) ((Io.refl w).alloc _))
  clear hR
  go_enter Tryz.func35, Tryz.ntmps35
  go_wp2_with fail
  exact HH.out
theorem kdisk_n {n : Nat} (hn : Hid (n ≤ 3000)) (H : Sat F w) (h : ∀ p w', Sat (IsDk p (Dk.new n) * F) w' → Io w w' → R (.returned (.pointer (some ⟨p, 0, none⟩))) w') :
    Calls Tryz.prog 34 #[.int .i64 (n : Int)] w R := by
  have hn0 := hn.out
  refine new_any (n : Int) (by omega) (by omega) H fun p w' H' I => h p w' ?_ I
  have en : (min (max (n : Int) 0) 16384).toNat = n := by omega
  rw [en] at H'
  exact H'
set_option maxRecDepth 100000 in
set_option maxHeartbeats 4000000 in
/-- A NEW CATALOGUE. -/
theorem lcat_any {n : Nat} (hn : n ≤ 3000) (H : Sat F w)
    (hR : ∀ a c w', c.k.n = n → Sat (KtAt a c [] [] 60 0 * F) w' → Io w w' → R (.returned (.tuple #[.pointer (some ⟨a, 0, none⟩), .pointer (some ⟨c.tr, 0, none⟩)])) w') :
    Calls Tryz.prog 9 #[.int .i64 (n : Int)] w R := by
  have HH := Lib.hid hR
  have HN := Lib.hid hn
  clear hR hn
  have n1 : (n : Int) ≤ 3000 := by have := HN.out; omega
  have n0 : (0 : Int) ≤ n := by omega
  go_enter Tryz.func9, Tryz.ntmps9
  go_wp2_with (first
    | (go_at_call 34; (with_reducible refine kdisk_n HN H ?_); intro p w1 H1 I1)
    | (go_at_call 33; (with_reducible refine pf_new H1 ?_); intro q w2 H2 I2)
    | (go_at_call 32; (with_reducible refine alnew_any HN.out H2 ?_); intro t b w3 H3 I3)
    | (go_at_call 31; (with_reducible refine ctnew_any (k := ⟨t, b, q, p, n⟩) H3 ?_); intro tr w4 H4 I4; have H5 := tr_first (q := 60) (g := 0) H4)
    | (go_at_call 35; (with_reducible refine knew_any (c := ⟨tr, ⟨t, b, q, p, n⟩⟩) H5 ?_); intro a w6 H6 I6))
  exact HH.out a ⟨tr, ⟨t, b, q, p, n⟩⟩ w6 rfl H6 ((((I1.trans I2).trans I3).trans I4).trans I6)
theorem kroom {c : Cq} {n q g : Nat} (hc : c.k.n = n) (h : 30 + Tb.most q g < n) : 30 + (Tb.most q g : Int) < c.k.room := by
  unfold Tq.room
  rw [hc]
  omega
namespace Ca
def xmain : Ky.Nm := ⟨#[109, 97, 105, 110]⟩
def exV : List Md.Ver := [⟨1, 0, 0, 0⟩]
def exB : List Md.Br := [⟨xmain, 1⟩]
theorem ex_put : vput [] ⟨1, 0, 0, 0⟩ = exV := by decide +kernel
theorem ex_okv : OkV ⟨1, 0, 0, 0⟩ := by constructor <;> decide
theorem ex_mk : Md.mk exV [] ⟨#[109, 97, 105, 110]⟩ 1 = (0, exB) := by decide +kernel
theorem ex_vat : vat exV 1 = (⟨1, 0, 0, 0⟩, 0) := by decide +kernel
theorem ex_hat : hat exB ⟨#[109, 97, 105, 110]⟩ = (1, 0) := by decide +kernel
theorem ex_vat2 : vat exV 2 = (v0, 190) := by decide +kernel
theorem ex_drp : Md.drp exV exB 1 = (194, exV) := by decide +kernel
theorem ex_mk2 : Md.mk exV exB ⟨#[109, 97, 105, 110]⟩ 1 = (192, exB) := by decide +kernel
theorem ex_mk3 : Md.mk exV exB ⟨#[77, 97, 105, 110]⟩ 1 = (193, exB) := by decide +kernel
theorem ex_mv : mv exV exB ⟨#[120]⟩ 1 = (191, exB) := by decide +kernel
end Ca
theorem kx_put (hc : Hid (c.k.n = 40)) (H : Sat (KtAt a c [] [] 60 0 * F) w) (hR : ∀ w', Sat (KtAt a c Ca.exV [] 79 1 * F) w' → Io w w' → R (.returned (.int .i64 0)) w') :
    Calls Tryz.prog 10 #[.pointer (some ⟨a, 0, none⟩), .agg #[.int .i64 1, .int .i64 0, .int .i64 0, .int .i64 0]] w R := by
  refine kput_yes ⟨1, 0, 0, 0⟩ Ca.ex_okv (by have := hc.out; omega) (by omega) (by omega) (Lib.hid (kroom hc.out (by decide +kernel))) H ?_
  rw [Ca.ex_put]
  exact hR
theorem kx_make (hc : Hid (c.k.n = 40)) (H : Sat (KtAt a c Ca.exV [] 79 1 * F) w) (hR : ∀ w', Sat (KtAt a c Ca.exV Ca.exB 98 2 * F) w' → Io w w' → R (.returned (.int .i64 0)) w') :
    Calls Tryz.prog 11 #[.pointer (some ⟨a, 0, none⟩), .string ⟨#[109, 97, 105, 110]⟩, .int .i64 1] w R :=
  kmake_any _ 1 (Lib.hid Ca.ex_mk) (Lib.hid (by decide)) (by decide) (by have := hc.out; omega) (by omega) (by omega) (Lib.hid (kroom hc.out (by decide +kernel))) H hR
theorem kx_ver1 (H : Sat (KtAt a c Ca.exV Ca.exB 98 2 * F) w) (hR : ∀ w', Sat (KtAt a c Ca.exV Ca.exB 98 2 * F) w' → Io w w' → R (.returned (.tuple #[.agg #[.int .i64 1, .int .i64 0, .int .i64 0, .int .i64 0], .int .i64 0])) w') :
    Calls Tryz.prog 26 #[.pointer (some ⟨a, 0, none⟩), .int .i64 1] w R :=
  cversion_any 1 (Lib.hid Ca.ex_vat) (by omega) H hR
theorem kx_ver2 (H : Sat (KtAt a c Ca.exV Ca.exB 98 2 * F) w) (hR : ∀ w', Sat (KtAt a c Ca.exV Ca.exB 98 2 * F) w' → Io w w' → R (.returned (.tuple #[.agg #[.int .i64 0, .int .i64 0, .int .i64 0, .int .i64 0], .int .i64 190])) w') :
    Calls Tryz.prog 26 #[.pointer (some ⟨a, 0, none⟩), .int .i64 2] w R :=
  cversion_any 2 (Lib.hid Ca.ex_vat2) (by omega) H hR
theorem kx_head (H : Sat (KtAt a c Ca.exV Ca.exB 98 2 * F) w) (hR : ∀ w', Sat (KtAt a c Ca.exV Ca.exB 98 2 * F) w' → Io w w' → R (.returned (.tuple #[.int .i64 1, .int .i64 0])) w') :
    Calls Tryz.prog 27 #[.pointer (some ⟨a, 0, none⟩), .string ⟨#[109, 97, 105, 110]⟩] w R :=
  chd_any _ (Lib.hid Ca.ex_hat) (Lib.hid (by decide)) (by omega) H hR
theorem kx_branches (H : Sat (KtAt a c Ca.exV Ca.exB 98 2 * F) w) (hR : ∀ b cc w', Sat (KtAt a c Ca.exV Ca.exB 98 2 * F) w' → Io w w' → R (.returned (.tuple #[.slice b 1 cc, .int .i64 0])) w') :
    Calls Tryz.prog 12 #[.pointer (some ⟨a, 0, none⟩)] w R := by
  refine branches_any (by omega) (by decide) H fun v w' H' I => ?_
  obtain ⟨b, cc, rfl⟩ := rowOf_shl H'
  exact hR b cc w' H'.right I
theorem kx_drop (hc : Hid (c.k.n = 40)) (H : Sat (KtAt a c Ca.exV Ca.exB 98 2 * F) w) (hR : ∀ w', Sat (KtAt a c Ca.exV Ca.exB 98 2 * F) w' → Io w w' → R (.returned (.int .i64 194)) w') :
    Calls Tryz.prog 16 #[.pointer (some ⟨a, 0, none⟩), .int .i64 1] w R :=
  kdrop_any 1 (Lib.hid Ca.ex_drp) (by decide) (by have := hc.out; omega) (by omega) (by omega) (Lib.hid (kroom hc.out (by decide +kernel))) H hR
theorem kx_make2 (hc : Hid (c.k.n = 40)) (H : Sat (KtAt a c Ca.exV Ca.exB 98 2 * F) w) (hR : ∀ w', Sat (KtAt a c Ca.exV Ca.exB 117 3 * F) w' → Io w w' → R (.returned (.int .i64 192)) w') :
    Calls Tryz.prog 11 #[.pointer (some ⟨a, 0, none⟩), .string ⟨#[109, 97, 105, 110]⟩, .int .i64 1] w R :=
  kmake_any _ 1 (Lib.hid Ca.ex_mk2) (Lib.hid (by decide)) (by decide) (by have := hc.out; omega) (by omega) (by omega) (Lib.hid (kroom hc.out (by decide +kernel))) H hR
theorem kx_make3 (hc : Hid (c.k.n = 40)) (H : Sat (KtAt a c Ca.exV Ca.exB 117 3 * F) w) (hR : ∀ w', Sat (KtAt a c Ca.exV Ca.exB 136 4 * F) w' → Io w w' → R (.returned (.int .i64 193)) w') :
    Calls Tryz.prog 11 #[.pointer (some ⟨a, 0, none⟩), .string ⟨#[77, 97, 105, 110]⟩, .int .i64 1] w R :=
  kmake_any _ 1 (Lib.hid Ca.ex_mk3) (Lib.hid (by decide)) (by decide) (by have := hc.out; omega) (by omega) (by omega) (Lib.hid (kroom hc.out (by decide +kernel))) H hR
theorem kx_move (hc : Hid (c.k.n = 40)) (H : Sat (KtAt a c Ca.exV Ca.exB 136 4 * F) w) (hR : ∀ w', Sat (KtAt a c Ca.exV Ca.exB 155 5 * F) w' → Io w w' → R (.returned (.int .i64 191)) w') :
    Calls Tryz.prog 19 #[.pointer (some ⟨a, 0, none⟩), .string ⟨#[120]⟩, .int .i64 1] w R :=
  kmove_any _ 1 (Lib.hid Ca.ex_mv) (Lib.hid (by decide)) (by decide) (by have := hc.out; omega) (by omega) (by omega) (Lib.hid (kroom hc.out (by decide +kernel))) H hR
set_option maxRecDepth 100000 in
set_option maxHeartbeats 16000000 in
/-- THE DOCUMENT's EXAMPLE. -/
theorem works19_any (H : Sat F w) (h : ∀ w', Sat F w' → Io w w' → R (.returned (.bool true)) w') : Calls Tryz.prog 8 #[] w R := by
  have HH := Lib.hid h
  clear h
  have EQ := fun W => eql_ver (⟨1, 0, 0, 0⟩ : Md.Ver) (⟨1, 0, 0, 0⟩ : Md.Ver) W
  simp only [decide_true] at EQ
  go_enter Tryz.func8, Tryz.ntmps8
  go_upto_region 10 with (first
    | (go_at_call 9; (refine lcat_any (n := 40) (by decide) H ?_); intro a c w1 hn H1 I1; have HC := Lib.hid hn; clear hn)
    | (go_at_call 10; (with_reducible refine kx_put HC H1 ?_); intro w2 H2 I2)
    | (go_at_call 11; (with_reducible refine kx_make HC H2 ?_); intro w3 H3 I3)
    | (go_at_call 26; (with_reducible refine kx_ver1 H3 ?_); intro w4 H4 I4; have H5 := H4.new (.cells #[.int .i64 1, .int .i64 0, .int .i64 0, .int .i64 0] 30); have I5 := I4.alloc (.cells #[.int .i64 1, .int .i64 0, .int .i64 0, .int .i64 0] 30); have H5b := swap3 H5)
    | (go_at_call 27; (with_reducible refine kx_head H5b ?_); intro w6 H6 I6)
    | (go_at_call 26; (with_reducible refine kx_ver2 H6 ?_); intro w7 H7 I7; have H8 := (H7.new (.cells #[.int .i64 0, .int .i64 0, .int .i64 0, .int .i64 0] 30)).right; have I8 := I7.alloc (.cells #[.int .i64 0, .int .i64 0, .int .i64 0, .int .i64 0] 30))
    | (go_at_call 12; (with_reducible refine kx_branches H8 ?_); intro b9 c9 w9 H9 I9)
    | fail)
  have Z := nd4 H9.right
  obtain ⟨z0, z1, z2, z3⟩ := Z
  have II : Io w w9 := ((((I1.trans I2).trans I3).trans I5).trans I6).trans (I8.trans I9)
  clear I1 I2 I3 I4 I5 I6 I7 I8 I9 H1 H2 H3 H4 H5 H5b H6 H7 H8
  go_wp2_with (first
    | (go_at_call 16; (with_reducible refine kx_drop HC H9 ?_); intro w10 H10 I10)
    | (go_at_call 11; (with_reducible refine kx_make2 HC H10 ?_); intro w11 H11 I11)
    | (go_at_call 11; (with_reducible refine kx_make3 HC H11 ?_); intro w12 H12 I12)
    | (go_at_call 19; (with_reducible refine kx_move HC H12 ?_); intro w13 H13 I13)
    | fail)
  exact HH.out _ H13.right.right ((((II.trans I10).trans I11).trans I12).trans I13)
end
end Go.Proofs.YtojiffhknddleaaGreatDoor

/-
  Law 19's acts: rows of them; law 19's over, by its walk. It proves no statement by itself.
-/
namespace Go.Proofs.YtojiffhknddleaaGreatDoor
open Go.RowKit Go.Lib
set_option linter.unusedSimpArgs false
set_option linter.unusedVariables false
set_option linter.unusedSectionVars false
structure Act19 where
  k : Int
  v : Md.Ver
  n : Int
  s : ByteArray
instance : Inhabited Act19 := ⟨⟨0, ⟨0, 0, 0, 0⟩, 0, ⟨#[]⟩⟩⟩
section
variable {F : Asn} {w : World} {R : Ending → World → Prop}
end
end Go.Proofs.YtojiffhknddleaaGreatDoor
