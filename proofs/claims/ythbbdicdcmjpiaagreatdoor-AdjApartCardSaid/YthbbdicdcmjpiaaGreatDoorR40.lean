/-
  adj.Parse, and the document's Key and Parse, by walks. It proves no statement by itself.
-/
import Derived.Test.YthbbdicdcmjpiaaGreatDoorR39
import Derived.Test.YthbbdicdcmjpiaaGreatDoorLShelf
namespace Go.Proofs.YthbbdicdcmjpiaaGreatDoor
open Go.RowKit Go.Lib
set_option linter.unusedSimpArgs false
set_option linter.unusedVariables false
set_option linter.unusedSectionVars false
namespace Aj
open Ky
/-- Does a key begin as edges' keys do? -/
def isA (s : Nm) : Bool := Lib.hasPrefix s.data.toList pA.data.toList
def cut (s : Nm) : Nm := ⟨(Lib.trimPrefix s.data.toList pA.data.toList).toArray⟩
theorem isA_cut {s : Nm} (h : isA s = true) : s = pA ++ cut s ∧ 1 ≤ s.size ∧ (cut s).size = s.size - 1 := by
  have h1 : [65] <+: s.data.toList := List.isPrefixOf_iff_prefix.1 h
  obtain ⟨r, hr⟩ := h1
  have hl : s.size = r.length + 1 := by
    have : s.data.toList.length = s.size := rfl
    rw [← this, ← hr]; simp
  have hc : cut s = ⟨r.toArray⟩ := by
    unfold cut Lib.trimPrefix
    have h2 : Lib.hasPrefix s.data.toList pA.data.toList = true := h
    rw [h2]
    simp only [if_true]
    rw [← hr]
    rfl
  refine ⟨?_, by omega, by rw [hc]; show r.toArray.size = _; simp; omega⟩
  rw [hc]
  apply nm_ext
  rw [ByteArray.toList_eq, ByteArray.toList_eq, ByteArray.data_append, Array.toList_append, ← hr]
  rfl
theorem cut_ks (s : Nm) : isA (pA ++ s) = true ∧ cut (pA ++ s) = s := by
  have h : isA (pA ++ s) = true := by
    unfold isA
    apply List.isPrefixOf_iff_prefix.2
    refine ⟨s.data.toList, ?_⟩
    rw [ByteArray.data_append, Array.toList_append]
  refine ⟨h, ?_⟩
  obtain ⟨h1, _⟩ := isA_cut h
  have h2 := congrArg ByteArray.toList h1
  rw [ByteArray.toList_eq, ByteArray.toList_eq, ByteArray.data_append, ByteArray.data_append, Array.toList_append, Array.toList_append] at h2
  have h3 := List.append_cancel_left h2
  apply nm_ext
  rw [ByteArray.toList_eq, ByteArray.toList_eq, h3]
end Aj
section
variable {F : Asn} {w : World} {R : Ending → World → Prop}
theorem cut2_any (s : ByteArray) {r : ByteArray} {b : Bool} (hb : Hid (Aj.isA s = b)) (hr : Hid (Aj.cut s = r)) (h : R (.returned (.tuple #[.string r, .bool b])) w) : Calls Tryz.prog 48 #[.string s, .string ⟨#[65]⟩] w R := by
  refine (Tryz.strings_CutPrefix s ⟨#[65]⟩ w).mono ?_
  rintro e w' ⟨rfl, rfl⟩
  have h1 : Lib.hasPrefix s.data.toList (⟨#[65]⟩ : ByteArray).data.toList = b := hb.out
  have h2 : (⟨(Lib.trimPrefix s.data.toList (⟨#[65]⟩ : ByteArray).data.toList).toArray⟩ : ByteArray) = r := hr.out
  rw [h1, h2]
  exact h
theorem eparse_yes (H : Sat F w) (s : ByteArray) (hs : Hid (s.size ≤ 9223372036854775807)) {x y : Int} (he : Hid (prsE s = 0)) (hx : Hid (prsU s = x)) (hy : Hid (prsV s = y)) (h : ∀ w', Sat F w' → Io w w' → R (.returned (.tuple #[.int .i64 x, .int .i64 y, .int .i64 0])) w') :
    Calls Tryz.prog 49 #[.string s] w R := parse_any H s hs.out (by rw [he.out, if_pos rfl, if_pos rfl, hx.out, hy.out]; exact h)
set_option maxRecDepth 100000 in
set_option maxHeartbeats 4000000 in
/-- AN EDGE's ENTRY IS READ. -/
theorem ajparse_yes {u v : Int} {t : Bool} {k val : ByteArray} (hk : Hid (k = Aj.ks u v)) (hv : Hid (val = Aj.vt t)) (h0 : Hid (Md.wrong u v = 0)) (H : Sat F w) (h : ∀ w', Sat F w' → Io w w' → R (.returned (.tuple #[.int .i64 u, .int .i64 v, .bool t, .bool true])) w') :
    Calls Tryz.prog 20 #[.agg #[.string k, .string val]] w R := by
  have HH := Lib.hid h
  obtain ⟨c1, c2⟩ := Aj.cut_ks (keyS u v)
  rw [← Aj.ks_eq h0.out, ← hk.out] at c1 c2
  obtain ⟨p0, p1, p2⟩ := prs_key (Aj.wrong_keyE h0.out)
  obtain ⟨r, hr⟩ : ∃ r, keyS u v = r := ⟨_, rfl⟩
  have hz : r.size = 8 := by rw [← hr]; exact Aj.keyS_size (Aj.wrong_keyE h0.out)
  rw [hr] at c2 p0 p1 p2
  have C1 := Lib.hid c1
  have C2 := Lib.hid c2
  have P0 := Lib.hid p0
  have P1 := Lib.hid p1
  have P2 := Lib.hid p2
  have HZ : Hid (r.size ≤ 9223372036854775807) := Lib.hid (by omega)
  have huv : (u == v) = false := beq_eq_false_iff_ne.2 (Aj.wrong_zero.1 h0.out).2.2
  clear h c1 c2 p0 p1 p2 hz hr hk h0
  cases t with
  | true =>
    have ev : val = ⟨#[116]⟩ := hv.out
    subst ev
    clear hv
    have H1 := H.new (.cells #[.string k, .string ⟨#[116]⟩] 49)
    have I1 := (Io.refl w).alloc (.cells #[.string k, .string ⟨#[116]⟩] 49)
    obtain ⟨q0, q1⟩ := nd2 H1
    go_enter Tryz.func20, Tryz.ntmps20
    go_wp2_with (first
      | (go_at_call 48; (with_reducible refine cut2_any k C1 C2 ?_))
      | (go_at_call 49; (with_reducible refine eparse_yes H1 r HZ P0 P1 P2 ?_); intro w2 H2 I2; obtain ⟨q0, q1⟩ := nd2 H2))
    go_quiet (fail)
    go_wp2_with fail
    exact bodyPost_ret (v := .tuple #[.int .i64 u, .int .i64 v, .bool true, .bool true]) (by simp [results, Tryz.results20, go_sem]) rfl (HH.out _ (H2.right.drewN _) ((I1.trans I2).drewN _))
  | false =>
    have ev : val = ⟨#[110]⟩ := hv.out
    subst ev
    clear hv
    have H1 := H.new (.cells #[.string k, .string ⟨#[110]⟩] 49)
    have I1 := (Io.refl w).alloc (.cells #[.string k, .string ⟨#[110]⟩] 49)
    obtain ⟨q0, q1⟩ := nd2 H1
    go_enter Tryz.func20, Tryz.ntmps20
    go_wp2_with (first
      | (go_at_call 48; (with_reducible refine cut2_any k C1 C2 ?_))
      | (go_at_call 49; (with_reducible refine eparse_yes H1 r HZ P0 P1 P2 ?_); intro w2 H2 I2; obtain ⟨q0, q1⟩ := nd2 H2))
    go_quiet (fail)
    go_wp2_with fail
    exact bodyPost_ret (v := .tuple #[.int .i64 u, .int .i64 v, .bool false, .bool true]) (by simp [results, Tryz.results20, go_sem]) rfl (HH.out _ (H2.right.drewN _) ((I1.trans I2).drewN _))
end
end Go.Proofs.YthbbdicdcmjpiaaGreatDoor

/-
  adj.entries, by a walk. It proves no statement by itself.
-/
namespace Go.Proofs.YthbbdicdcmjpiaaGreatDoor
open Go.RowKit Go.Lib
set_option linter.unusedSimpArgs false
set_option linter.unusedVariables false
set_option linter.unusedSectionVars false
namespace Aj
open Ky
abbrev Tr := Int × Int × Bool
/-- What an entry says. -/
def dec (x : En) : Tr := (prsU (cut x.1), prsV (cut x.1), decide (x.2 = vt true))
/-- An edge's entry. -/
def Good (x : En) : Prop := ∃ u v t, Md.wrong u v = 0 ∧ x = (ks u v, vt t)
theorem vt_inj {t : Bool} : (vt t = vt true) ↔ t = true := by
  cases t
  · constructor
    · intro h; exact absurd (congrArg ByteArray.data h) (by decide)
    · intro h; cases h
  · simp
theorem dec_good {u v : Int} {t : Bool} (h : Md.wrong u v = 0) : dec (ks u v, vt t) = (u, v, t) := by
  obtain ⟨c1, c2⟩ := cut_ks (keyS u v)
  rw [← ks_eq h] at c1 c2
  obtain ⟨p0, p1, p2⟩ := prs_key (wrong_keyE h)
  unfold dec
  simp only [c2, p1, p2]
  congr 2
  have := vt_inj (t := t)
  cases t <;> simp_all
theorem Good.eq {x : En} (h : Good x) : Md.wrong (dec x).1 (dec x).2.1 = 0 ∧ x = (ks (dec x).1 (dec x).2.1, vt (dec x).2.2) := by
  obtain ⟨u, v, t, h1, rfl⟩ := h
  rw [dec_good h1]
  exact ⟨h1, rfl⟩
end Aj
/-- WHAT IS DONE WITH EACH EDGE: the state s is held by A s. -/
def EachOk {α : Type} (A : α → Asn) (B : Nat → α → Prop) (gi : Nat) (ci : Array Value) (st : α → Aj.Tr → α) : Prop :=
  ∀ {F : Asn} {w : World} {R : Ending → World → Prop} (s : α) (u v : Int) (t : Bool), B 1 s → Sat (A s * F) w →
    (∀ w', Sat (A (st s (u, v, t)) * F) w' → Io w w' → R (.returned (.tuple #[])) w') → Calls Tryz.prog gi (#[.int .i64 u, .int .i64 v, .bool t] ++ ci) w R
/-- How many more may come. -/
structure RoomE {α : Type} (B : Nat → α → Prop) (st : α → Aj.Tr → α) : Prop where
  less : ∀ n s, B (n + 1) s → B n s
  next : ∀ n s x, B (n + 1) s → B n (st s x)
theorem RoomE.few {α : Type} {B : Nat → α → Prop} {st : α → Aj.Tr → α} (h : RoomE B st) {n m : Nat} {s : α} (hb : B (n + m) s) : B n s := by
  induction m with
  | zero => exact hb
  | succ m ih => exact ih (h.less _ _ hb)
section
variable {α : Type} {A : α → Asn} {B : Nat → α → Prop} {gi : Nat} {ci : Array Value} {st : α → Aj.Tr → α} {a : Nat} {c : Cq} {F : Asn} {w : World} {R : Ending → World → Prop} {es : List Ky.En} {q g : Nat}
theorem dec_eq {x : Ky.En} {u v : Int} {t : Bool} (h : Aj.dec x = (u, v, t)) (hg : Aj.Good x) : Md.wrong u v = 0 ∧ x.1 = Aj.ks u v ∧ x.2 = Aj.vt t := by
  obtain ⟨h1, h2⟩ := hg.eq
  rw [h] at h1 h2
  exact ⟨h1, congrArg Prod.fst h2, congrArg Prod.snd h2⟩
set_option maxRecDepth 100000 in
set_option maxHeartbeats 16000000 in
/-- THE EDGES BETWEEN TWO KEYS. -/
theorem aentries_any (eg : ∀ args w, (callFunc gi args).run Tryz.prog w = .ok (.enter gi args) w) (hB : RoomE B st) (hy : EachOk A B gi ci st) (fr ub : Ky.Nm) {s0 : α} (hg : g ≤ 240) (hl : es.length ≤ 100000) (hub : ub.size ≤ 1000000) (hgood : ∀ x ∈ Tb.scan fr ub es, Aj.Good x) (hb : B (Tb.scan fr ub es).length s0)
    (H : Sat (AjAt a c es q g * (A s0 * F)) w)
    (hR : ∀ w', Sat (AjAt a c es q g * (A ((Tb.scan fr ub es).foldl (fun s x => st s (Aj.dec x)) s0) * F)) w' → Io w w' → R (.returned (.int .i64 0)) w') :
    Calls Tryz.prog 45 #[.pointer (some ⟨a, 0, none⟩), .string fr, .string ub, .func (.func gi) #[] ci] w R := by
  have HH := Lib.hid hR
  have HY : Hid (EachOk A B gi ci st) := Lib.hid hy
  have HBB := Lib.hid hB
  have HL := Lib.hid hl
  have HU := Lib.hid hub
  obtain ⟨l, hll⟩ : ∃ l, l = Tb.scan fr ub es := ⟨_, rfl⟩
  have HLL := Lib.hid hll
  rw [← hll] at HH hgood hb
  have HG := Lib.hid hgood
  have HB0 := Lib.hid hb
  have hlen : l.length ≤ 100000 := by
    rw [hll, Tb.scan_eq]
    have h1 := (List.takeWhile_sublist (Tb.under ub) (l := Tb.frm fr es)).length_le
    unfold Tb.frm at h1 ⊢
    rw [List.length_drop] at h1
    omega
  have n1 : (l.length : Int) ≤ 100000 := by omega
  have HT := AjAt.tr H
  have v0 := AjAt.cell HT
  clear hR hy hB hl hub hll hgood hb H hlen
  go_enter Tryz.func45, Tryz.ntmps45
  go_upto_region 2 with (go_at_call 26; (with_reducible refine ctscan_any fr ub hg HL.out HU.out HT ?_); intro v w2 H2 I2)
  rw [← HLL.out] at H2
  have hrd := Reads.of_row (emp_r H2.left) (by omega)
  have HV0 := Lib.hid hrd
  obtain ⟨b0, n0, c0, hq⟩ := rowOf_form3 H2
  subst hq
  obtain rfl : n0 = l.length := rowOf_ln H2
  have HVG := Lib.hid (fun k hk => readsE_get HV0.out k hk)
  have H3 := H2.of_eq (show _ = A s0 * (RowE (.slice b0 l.length c0) l * (AjAt a c es q g * F)) from by unfold AjAt RowE; ac_rfl)
  clear hrd HT v0 H2
  go_wp2_with fail
  obtain ⟨T, hT⟩ : ∃ T, T = l.foldl (fun s x => st s (Aj.dec x)) s0 := ⟨_, rfl⟩
  rw [← hT] at HH
  have HT := Lib.hid hT
  clear hT
  go_loopw [32] (fun x wr => ∃ (j : Nat) (s' : α), j ≤ l.length ∧ x = .int .i64 (j : Int) ∧ Hid (T = (l.drop j).foldl (fun s x => st s (Aj.dec x)) s' ∧ B (l.drop j).length s') ∧ Sat (A s' * (RowE (.slice b0 l.length c0) l * (AjAt a c es q g * F))) wr ∧ Io w wr) (fun x _ => l.length - (RowKit.intOf x).toNat)
  case atStart => exact ⟨0, s0, by omega, rfl, Lib.hid (by rw [List.drop_zero]; exact ⟨HT.out, HB0.out⟩), H3, I2⟩
  case round =>
    obtain ⟨j, s', hj, rfl, hs, Hk, Ik⟩ := hrel
    clear H3 I2
    by_cases hlt : j < l.length
    · have hlti : (j : Int) < (l.length : Int) := by omega
      have j0 : (0 : Int) ≤ (j : Int) := by omega
      obtain ⟨b, off, xk, xv, rfl, hx, hc⟩ := HVG.out j hlt
      obtain ⟨g0, g1⟩ := hc wr (emp_r Hk.right.left)
      have hdr := List.drop_eq_getElem_cons hlt
      have hgx := HG.out _ (List.getElem_mem hlt)
      rw [hx] at hdr hgx
      obtain ⟨u, v, t, hdec⟩ : ∃ u v t, Aj.dec (xk, xv) = (u, v, t) := ⟨_, _, _, rfl⟩
      obtain ⟨e1, e2, e3⟩ := dec_eq hdec hgx
      have E1 := Lib.hid e1
      have E2 : Hid (xk = Aj.ks u v) := Lib.hid e2
      have E3 : Hid (xv = Aj.vt t) := Lib.hid e3
      obtain ⟨gs, gb⟩ := hs.out
      rw [hdr] at gs gb
      rw [List.foldl_cons, hdec] at gs
      rw [List.length_cons] at gb
      have GS := Lib.hid (And.intro gs gb)
      have K2 := (Hk.new (.cells #[.string xk, .string xv] 49))
      have J2 := Ik.alloc (.cells #[.string xk, .string xv] 49)
      obtain ⟨q0, q1⟩ := nd2 K2
      have K3 := K2.right
      have HB1 : Hid (B 1 s') := Lib.hid (HBB.out.few (m := (l.drop (j + 1)).length) (by rw [Nat.add_comm]; exact GS.out.2))
      clear hc hx hdr hs gs gb e1 e2 e3 hgx hdec
      go_wp2_with (first
        | (go_at_call 20; (with_reducible refine ajparse_yes E2 E3 E1 K3 ?_); intro w4 H4 I4)
        | (go_at_fn gi; refine HY.out s' u v t HB1.out H4 ?_; intro w5 H5 I5))
      go_roundw
      case rel => exact ⟨j + 1, _, by omega, by go_num, Lib.hid ⟨GS.out.1, HBB.out.next _ _ _ GS.out.2⟩, H5, (J2.trans I4).trans I5⟩
      case measure => simp [RowKit.intOf]; omega
    · obtain rfl : j = l.length := by omega
      have hge : ¬ (l.length : Int) < (l.length : Int) := by omega
      obtain ⟨gs, gb⟩ := hs.out
      rw [List.drop_length] at gs
      simp only [List.foldl_nil] at gs
      have fin := HH.out wr (by rw [gs]; exact (Hk.of_eq (show _ = (AjAt a c es q g * (A s' * F)) * RowE (.slice b0 l.length c0) l from by unfold RowE AjAt; ac_rfl)).left) Ik
      have FIN := Lib.hid fin
      clear fin gs gb hs HVG HV0 HH
      go_wp2_with fail
      exact FIN.out
end
end Go.Proofs.YthbbdicdcmjpiaaGreatDoor

/-
  adj.Near, Edges, by walks. It proves no statement by itself.
-/
namespace Go.Proofs.YthbbdicdcmjpiaaGreatDoor
open Go.RowKit Go.Lib
set_option linter.unusedSimpArgs false
set_option linter.unusedVariables false
set_option linter.unusedSectionVars false
abbrev Nr := Int × Bool
def encW (x : Nr) : List Value := [.int .i64 x.1, .bool x.2]
theorem encW_ok : Enc encW 2 := ⟨fun _ => rfl, fun x u hu => by simp [encW] at hu; rcases hu with rfl | rfl <;> rfl⟩
theorem Tryz.rowW : RowTy Tryz.prog 63 73 2 16 := ⟨Tryz.underlying63, ⟨.agg #[.int .i64 0, .bool false], rfl, by kernel_rfl⟩, by omega⟩
abbrev RowW (v : Value) (l : List Nr) : Asn := RowOf 73 2 encW v l
namespace Aj
open Ky
def lowK (u : Int) : Nm := pA ++ keyS u 0
def upK (u : Int) : Nm := if u + 1 < 1048576 then pA ++ keyS (u + 1) 0 else pB
def nst (l : List Nr) (x : Tr) : List Nr := l ++ [(x.2.1, x.2.2)]
/-- What is beside a vertex. -/
def near (es : List En) (u : Int) : List Nr := (Tb.scan (lowK u) (upK u) es).map fun x => ((dec x).2.1, (dec x).2.2)
theorem near_fold (l : List En) (acc : List Nr) : l.foldl (fun s x => nst s (dec x)) acc = acc ++ l.map fun x => ((dec x).2.1, (dec x).2.2) := by
  induction l generalizing acc with
  | nil => simp
  | cons x l ih => rw [List.foldl_cons, ih]; simp [nst]
def eroom (n : Nat) (acc : List Nr) : Prop := acc.length + n ≤ 100000
theorem eroom_ok : RoomE eroom nst where
  less := fun n s h => by unfold eroom at *; omega
  next := fun n s x h => by unfold eroom nst at *; rw [List.length_append]; simp only [List.length_singleton]; omega
/-- The edges' step. -/
def est (l : List Pr) (x : Tr) : List Pr := if x.1 < x.2.1 then l ++ [(x.1, x.2.1)] else l
def edges (es : List En) : List Pr := ((Tb.scan pA pB es).filter fun x => decide ((dec x).1 < (dec x).2.1)).map fun x => ((dec x).1, (dec x).2.1)
theorem edges_fold (l : List En) (acc : List Pr) : l.foldl (fun s x => est s (dec x)) acc = acc ++ (l.filter fun x => decide ((dec x).1 < (dec x).2.1)).map fun x => ((dec x).1, (dec x).2.1) := by
  induction l generalizing acc with
  | nil => simp
  | cons x l ih =>
    rw [List.foldl_cons, ih]
    unfold est
    by_cases h : (dec x).1 < (dec x).2.1
    · simp [h]
    · simp [h]
def proom (n : Nat) (acc : List Pr) : Prop := acc.length + n ≤ 100000
theorem proom_ok : RoomE proom est where
  less := fun n s h => by unfold proom at *; omega
  next := fun n s x h => by
    unfold proom est at *
    split
    · rw [List.length_append]; simp only [List.length_singleton]; omega
    · omega
end Aj
def NearBox (bo : Nat) (l : List Nr) : Asn := ex fun v : Value => pts bo (.cells #[v] 63 (0, 0)) * RowW v l
section
variable {a : Nat} {c : Cq} {F : Asn} {w : World} {R : Ending → World → Prop} {es : List Ky.En} {q g : Nat}
theorem sat_near {bo : Nat} {l : List Nr} : Sat (NearBox bo l * F) w ↔ ∃ v, Sat (pts bo (.cells #[v] 63 (0, 0)) * (RowW v l * F)) w := by
  have e0 : NearBox bo l * F = (ex fun v : Value => pts bo (.cells #[v] 63 (0, 0)) * RowW v l) * F := rfl
  rw [e0, sat_ex]
  constructor
  · rintro ⟨v, h⟩; exact ⟨v, h.of_eq (by ac_rfl)⟩
  · rintro ⟨v, h⟩; exact ⟨v, h.of_eq (by ac_rfl)⟩
set_option maxRecDepth 100000 in
set_option maxHeartbeats 8000000 in
theorem near_each {bo : Nat} : EachOk (NearBox bo) Aj.eroom 59 #[.pointer (some ⟨bo, 0, none⟩)] Aj.nst := by
  intro F w R acc u v t hb H hR
  obtain ⟨vv, H0⟩ := sat_near.1 H
  have HH := Lib.hid hR
  have HBD : Hid (acc.length ≤ 99999) := Lib.hid (by unfold Aj.eroom at hb; omega)
  have HP := H0.of_eq (show _ = RowW vv acc * (pts bo (.cells #[vv] 63 (0, 0)) * F) from by ac_rfl)
  obtain ⟨z0, z1⟩ := nd1 HP.right
  clear hR hb H H0
  go_enter Tryz.func59, Tryz.ntmps59
  go_wp2_with (at_builtin; refine wpList_append_rec Tryz.rowW encW_ok rfl (.tmp 7) (.tmp 11) rfl rfl HP (by have := HBD.out; omega) (v, t) rfl (by simp) ?_; intro v3 w3 H3 I3; have H4 := H3.of_eq (show _ = pts bo (.cells #[vv] 63 (0, 0)) * (RowW v3 (acc ++ [(v, t)]) * F) from by unfold RowW; ac_rfl); have Z := nd1 H4; obtain ⟨z0, z1⟩ := Z; obtain ⟨a3, n3, c3, hq⟩ := rowOf_form3 H3; subst hq)
  have H5 := H4.cell 0 (.slice a3 n3 c3)
  go_end0
  exact HH.out _ (sat_near.2 ⟨.slice a3 n3 c3, H5⟩) (I3.setCell _ _)
theorem callNear (args : Array Value) (w : World) : (callFunc 59 args).run Tryz.prog w = .ok (.enter 59 args) w := enters_of Tryz.func59 (by kernel_rfl) rfl args w
theorem Aj.keyE_vtx {u : Int} (h : 0 ≤ u ∧ u < 1048576) : keyE u 0 = 0 := by
  unfold keyE verE; simp [h.1, h.2]
theorem Aj.keyE_no {u : Int} (h : ¬ (0 ≤ u ∧ u < 1048576)) : keyE u 0 = 30 := by
  unfold keyE verE; rw [if_neg h]; simp
theorem near_len {u : Int} : (Aj.near es u).length ≤ es.length := by
  unfold Aj.near
  rw [List.length_map, Tb.scan_eq]
  have h1 := (List.takeWhile_sublist (Tb.under (Aj.upK u)) (l := Tb.frm (Aj.lowK u) es)).length_le
  unfold Tb.frm at h1 ⊢
  rw [List.length_drop] at h1
  omega
theorem near_box {X : Asn} (H : Sat (X * F) w) : Sat (X * (NearBox w.heap.size [] * F)) (w.alloc (.cells #[.slice none 0 0] 63)) := by
  have H1 := H.new (.cells #[.slice none 0 0] 63)
  have H2 := (rowOf_nil (enc := encW) (sz := 2) (e := 73) H1).of_eq (show _ = pts w.heap.size (.cells #[.slice none 0 0] 63 (0, 0)) * (RowW (.slice none 0 0) [] * (X * F)) from by unfold RowW; ac_rfl)
  exact (sat_near.2 ⟨_, H2⟩).of_eq (by ac_rfl)
/-- Near's call of entries. -/
theorem near_entries {bo : Nat} {u : Int} {k1 k2 : ByteArray} (hk1 : Hid (k1 = Aj.lowK u)) (hk2 : Hid (k2 = Aj.upK u)) (hu : Hid (u < 1048576)) (hg : g ≤ 240) (hl : Hid (es.length ≤ 100000)) (hgood : Hid (∀ x ∈ Tb.scan (Aj.lowK u) (Aj.upK u) es, Aj.Good x))
    (H : Sat (AjAt a c es q g * (NearBox bo [] * F)) w)
    (hR : ∀ v w', Sat (pts bo (.cells #[v] 63 (0, 0)) * (RowW v (Aj.near es u) * (AjAt a c es q g * F))) w' → Io w w' → R (.returned (.int .i64 0)) w') :
    Calls Tryz.prog 45 #[.pointer (some ⟨a, 0, none⟩), .string k1, .string k2, .func (.func 59) #[] #[.pointer (some ⟨bo, 0, none⟩)]] w R := by
  obtain rfl := hk1.out
  obtain rfl := hk2.out
  have hub : (Aj.upK u).size ≤ 1000000 := by
    unfold Aj.upK
    split
    · rename_i h
      rw [ByteArray.size_append]
      have h1 : (keyS (u + 1) 0).size ≤ 8 := by
        unfold keyS
        split
        · rw [tx_size, keyL_length]; omega
        · decide
      have h2 : Aj.pA.size = 1 := rfl
      omega
    · decide
  have hln := near_len (es := es) (u := u)
  have hl0 := hl.out
  refine aentries_any callNear Aj.eroom_ok near_each (Aj.lowK u) (Aj.upK u) (s0 := []) hg hl.out hub hgood.out (by
    unfold Aj.near at hln
    rw [List.length_map] at hln
    unfold Aj.eroom
    simp only [List.length_nil]
    omega) H fun w' H' I => ?_
  rw [Aj.near_fold] at H'
  have e : ([] : List Nr) ++ (Tb.scan (Aj.lowK u) (Aj.upK u) es).map (fun x => ((Aj.dec x).2.1, (Aj.dec x).2.2)) = Aj.near es u := by rw [List.nil_append]; rfl
  rw [e] at H'
  obtain ⟨v, H2⟩ := sat_near.1 (H'.of_eq (show _ = NearBox bo (Aj.near es u) * (AjAt a c es q g * F) from by ac_rfl))
  exact hR v w' H2 I
set_option maxRecDepth 100000 in
set_option maxHeartbeats 8000000 in
/-- WHO IS BESIDE a vertex. -/
theorem near_any {u : Int} (hu : 0 ≤ u ∧ u < 1048576) (hg : g ≤ 240) (hl : es.length ≤ 100000) (hgood : ∀ x ∈ Tb.scan (Aj.lowK u) (Aj.upK u) es, Aj.Good x)
    (H : Sat (AjAt a c es q g * F) w)
    (hR : ∀ v w', Sat (RowW v (Aj.near es u) * (AjAt a c es q g * F)) w' → Io w w' → R (.returned (.tuple #[v, .int .i64 0])) w') :
    Calls Tryz.prog 29 #[.pointer (some ⟨a, 0, none⟩), .int .i64 u] w R := by
  have HH := Lib.hid hR
  have HG := Lib.hid hgood
  have HL := Lib.hid hl
  obtain ⟨k1, hk1⟩ : ∃ k, keyS u 0 = k := ⟨_, rfl⟩
  have K1 := Lib.hid hk1
  have E1 : Hid (keyE u 0 = 0) := Lib.hid (Aj.keyE_vtx hu)
  have K0 : Hid ((⟨#[65]⟩ : ByteArray) ++ k1 = Aj.lowK u) := Lib.hid (by unfold Aj.lowK; rw [hk1]; rfl)
  obtain ⟨k2, hk2⟩ : ∃ k, keyS (u + 1) 0 = k := ⟨_, rfl⟩
  have K2 := Lib.hid hk2
  obtain ⟨e2, he2⟩ : ∃ e, keyE (u + 1) 0 = e := ⟨_, rfl⟩
  have E2 := Lib.hid he2
  have hu0 := hu.1
  have hu1 := hu.2
  have HU := Lib.hid hu1
  clear hR hgood hl hk1 hk2 he2 hu
  go_enter Tryz.func29, Tryz.ntmps29
  by_cases hm : u + 1 < 1048576
  · obtain rfl : e2 = 0 := by rw [← E2.out]; exact Aj.keyE_vtx ⟨by omega, hm⟩
    have KU : Hid ((⟨#[65]⟩ : ByteArray) ++ k2 = Aj.upK u) := Lib.hid (by unfold Aj.upK; rw [if_pos hm, K2.out]; rfl)
    have z1 : k1.size = 8 := by rw [← K1.out]; exact Aj.keyS_size E1.out
    have z2 : k2.size = 8 := by rw [← K2.out]; exact Aj.keyS_size E2.out
    go_wp2_with (first
      | (go_at_call 47; (with_reducible refine ekey_w H u 0 K1 E1 ?_); intro w2 H2 I2)
      | (go_at_call 47; (with_reducible refine ekey_w H2 (u + 1) 0 K2 E2 ?_); intro w3 H3 I3)
      | (go_at_call 45; have H4 := near_box H3; have I4 := I3.alloc (.cells #[.slice none 0 0] 63); (with_reducible refine near_entries K0 KU HU hg HL HG H4 ?_); intro v w5 H5 I5; have Z := nd1 H5; obtain ⟨y0, y1⟩ := Z))
    exact HH.out v _ (H5.of_eq (show _ = (RowW v (Aj.near es u) * (AjAt a c es q g * F)) * pts w3.heap.size (.cells #[v] 63 (0, 0)) from by unfold RowW; ac_rfl)).left ((I2.trans I4).trans I5)
  · obtain rfl : e2 = 30 := by rw [← E2.out]; exact Aj.keyE_no (by omega)
    have KU : Hid ((⟨#[66]⟩ : ByteArray) = Aj.upK u) := Lib.hid (by unfold Aj.upK; rw [if_neg hm]; rfl)
    have z1 : k1.size = 8 := by rw [← K1.out]; exact Aj.keyS_size E1.out
    go_wp2_with (first
      | (go_at_call 47; (with_reducible refine ekey_w H u 0 K1 E1 ?_); intro w2 H2 I2)
      | (go_at_call 47; (with_reducible refine ekey_w H2 (u + 1) 0 K2 E2 ?_); intro w3 H3 I3)
      | (go_at_call 45; have H4 := near_box H3; have I4 := I3.alloc (.cells #[.slice none 0 0] 63); (refine near_entries K0 KU HU hg HL HG H4 ?_); intro v w5 H5 I5; have Z := nd1 H5; obtain ⟨y0, y1⟩ := Z))
    exact HH.out v _ (H5.of_eq (show _ = (RowW v (Aj.near es u) * (AjAt a c es q g * F)) * pts w3.heap.size (.cells #[v] 63 (0, 0)) from by unfold RowW; ac_rfl)).left ((I2.trans I4).trans I5)
end
end Go.Proofs.YthbbdicdcmjpiaaGreatDoor
