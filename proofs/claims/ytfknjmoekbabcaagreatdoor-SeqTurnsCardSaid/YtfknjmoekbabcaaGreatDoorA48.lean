/-
  A part of a proof. It proves no statement by itself.
-/
import Derived.Test.YtfknjmoekbabcaaGreatDoorA46
set_option linter.unusedSimpArgs false
set_option linter.unusedVariables false
set_option linter.unusedSectionVars false
set_option maxRecDepth 100000
set_option maxHeartbeats 64000000
namespace Go.Proofs.YtfknjmoekbabcaaGreatDoor
open Go.RowKit Go.Lib
open Sq (Tk Nd Mp LL)
def encI (x : Int) : List Value := [.int .i64 x]
theorem z2d : Enc encI 1 := ⟨fun _ => rfl, fun x u hu => by simp [encI] at hu; subst hu; rfl⟩
theorem zxp {F : Asn} {v : Value} {l : List Int} (h : Reads encI F v l) : ∃ a c, v = .slice a l.length c ∧ (l.length : Int) ≤ 9223372036854775807 := by
 obtain ⟨a, c, h1, h2, _⟩ := h
 exact ⟨a, c, h1, by omega⟩
theorem zxq {F : Asn} {a : Option Addr} {n c : Nat} {l : List Int} (hl : Reads encI F (.slice a n c) l) (k : Nat) (hk : k < l.length) : ∃ b off x, a = some ⟨b, off, none⟩ ∧ l[k] = x ∧ ∀ w, Sat F w → w.cell? ⟨b, off + k, none⟩ = some (.int .i64 x) := by
 obtain ⟨b, off, h1, h2⟩ := hl.get z2d k hk
 exact ⟨b, off, _, h1, rfl, fun w hw => by have := h2 w hw 0 _ (by omega) rfl; rwa [Nat.mul_one, Nat.add_zero] at this⟩
theorem zik {g c n : Nat} {l : List Tk} {F : Asn} {w : World} {x1 x2 : Int} (H : Sat (zaw (.slice (some ⟨g, 0, none⟩) n c) l * F) w) (k : Nat) (h : l[k]? = some (x1, x2)) :
  w.cell? ⟨g, k * 2, none⟩ = some (.int .i64 x1) ∧ w.cell? ⟨g, k * 2 + 1, none⟩ = some (.int .i64 x2) := by
 obtain ⟨hk, e⟩ := List.getElem?_eq_some_iff.1 h
 exact ⟨za3 zca H k hk 0 (by omega) _ (by rw [e]; rfl), za3 zca H k hk 1 (by omega) _ (by rw [e]; rfl)⟩
theorem znt {g c n : Nat} {l : List Tk} {F : Asn} {w : World} {x1 x2 : Int} (H : Sat (zaw (.slice (some ⟨g, 0, none⟩) n c) l * F) w) (h : l[0]? = some (x1, x2)) :
  w.cell? ⟨g, 0, none⟩ = some (.int .i64 x1) ∧ w.cell? ⟨g, 1, none⟩ = some (.int .i64 x2) := zik H 0 h
theorem zld {α : Type} {enc : α → List Value} {sz : Nat} (he : Enc enc sz) {e : TypeId} {g n c : Nat} {l : List α} {F : Asn} {w : World} (H : Sat (RowOf e sz enc (.slice (some ⟨g, 0, none⟩) n c) l * F) w) (hl : l.length ≤ 1000000) {k m : Nat} (hk : k ≤ l.length) (hm : l.length = m) (c' : Nat) : Reads enc (RowOf e sz enc (.slice (some ⟨g, 0, none⟩) n c) l * F) (.slice (some ⟨g, k * sz, none⟩) (m - k) c') (l.drop k) := by
 subst hm
 have hn : n = l.length := by
  obtain ⟨_, ⟨h0, _⟩ | ⟨g', cap, cur, e1, _⟩⟩ := za5.1 H
  ·cases h0
  ·cases e1; rfl
 subst hn
 refine ⟨_, c', by rw [List.length_drop], by rw [List.length_drop]; omega, .inr ⟨g, k * sz, rfl, fun w' hw' j u hu => zii hw' (k * sz + j) u ?_⟩⟩
 have : cellsOf enc l = cellsOf enc (l.take k) ++ cellsOf enc (l.drop k) := by rw [← zba, List.take_append_drop]
 rw [this, List.getElem?_append_right (by rw [cellsOf_length he, List.length_take, Nat.min_eq_left hk]; omega), cellsOf_length he, List.length_take, Nat.min_eq_left hk, Nat.add_sub_cancel_left]
 exact hu
theorem zlc {α : Type} {enc : α → List Value} {sz : Nat} (he : Enc enc sz) {e : TypeId} {g n c : Nat} {l : List α} {F : Asn} {w : World} (H : Sat (RowOf e sz enc (.slice (some ⟨g, 0, none⟩) n c) l * F) w) (hl : l.length ≤ 1000000) {k : Nat} (hk : k ≤ l.length) (c' : Nat) : Reads enc (RowOf e sz enc (.slice (some ⟨g, 0, none⟩) n c) l * F) (.slice (some ⟨g, 0, none⟩) k c') (l.take k) := by
 have hn : n = l.length := by
  obtain ⟨_, ⟨h0, _⟩ | ⟨g', cap, cur, e1, _⟩⟩ := za5.1 H
  ·cases h0
  ·cases e1; rfl
 subst hn
 refine ⟨_, c', by rw [List.length_take, Nat.min_eq_left hk], by rw [List.length_take]; omega, .inr ⟨g, 0, rfl, fun w' hw' j u hu => ?_⟩⟩
 rw [Nat.zero_add]
 refine zii hw' j u ?_
 have : cellsOf enc l = cellsOf enc (l.take k) ++ cellsOf enc (l.drop k) := by rw [← zba, List.take_append_drop]
 rw [this]
 obtain ⟨hj, _⟩ := List.getElem?_eq_some_iff.1 hu
 rw [List.getElem?_append_left hj]
 exact hu
namespace Sq
def tks : Nat → List Tk
 | 0 => []
 | n + 1 => tks n ++ [((n : Int), 2 * (n : Int))]
theorem zfq : ∀ n, (tks n).length = n
 | 0 => rfl
 | n + 1 => by rw [tks, List.length_append, zfq n]; rfl
theorem zui : ∀ {n : Nat} {x : Tk}, x ∈ tks n → ∃ j : Nat, j < n ∧ x = ((j : Int), 2 * (j : Int))
 | 0, x, h => by simp [tks] at h
 | n + 1, x, h => by
  rw [tks, List.mem_append, List.mem_singleton] at h
  rcases h with h | h
  ·obtain ⟨j, h1, h2⟩ := zui h
   exact ⟨j, by omega, h2⟩
  ·exact ⟨n, by omega, h⟩
theorem zuh (n : Nat) : ((n : Int), 2 * (n : Int)) ∉ tks n := fun h => by
 obtain ⟨j, h1, h2⟩ := zui h
 simp only [Prod.mk.injEq] at h2
 omega
theorem zy8 {n : Nat} (hn : n ≤ 60) : ∀ x ∈ tks n, OkT x := fun x h => by
 obtain ⟨j, h1, rfl⟩ := zui h
 exact ⟨⟨by show (0 : Int) ≤ j; omega, by show (j : Int) < 1048576; omega⟩, by show (0 : Int) ≤ 2 * j; omega, by show 2 * (j : Int) < 1048576; omega⟩
theorem zy7 {n : Nat} (hn : n < 60) : OkT ((n : Int), 2 * (n : Int)) := zy8 (n := n + 1) (by omega) _ (by rw [tks]; simp)
theorem zqr : ∀ n, (tks n).Nodup
 | 0 => by simp [tks]
 | n + 1 => by
  rw [tks, List.nodup_append]
  refine ⟨zqr n, by simp, fun a ha b hb e => ?_⟩
  rw [List.mem_singleton] at hb
  subst hb; subst e
  exact zuh n ha
theorem zqs {n : Nat} (h : 0 < n) : (tks n)[0]? = some (0, 0) := by
 obtain ⟨m, rfl⟩ : ∃ m, n = m + 1 := ⟨n - 1, by omega⟩
 clear h
 induction m with
 | zero => rfl
 | succ m ih => rw [tks, List.getElem?_append_left (by rw [zfq]; omega)]; exact ih
def LT (n : Nat) : LL := if n = 0 then [] else [tks n]
theorem zy3 {n : Nat} (hn : n < 60) : zh1 (LT n) ((n : Int), 2 * (n : Int)) = (0, LT n ++ [[((n : Int), 2 * (n : Int))]]) := z6w (zy7 hn) (by
 unfold LT
 split
 ·simp
 ·rw [List.flatten_cons, List.flatten_nil, List.append_nil]
  exact zuh n)
theorem zy4 {n : Nat} (h0 : 0 < n) (hn : n < 60) : zfh (LT n ++ [[((n : Int), 2 * (n : Int))]]) (0, 0) ((n : Int), 2 * (n : Int)) = (0, LT (n + 1)) := by
 have e1 : LT n = [tks n] := if_neg (by omega)
 have e2 : LT (n + 1) = [tks n ++ [((n : Int), 2 * (n : Int))]] := if_neg (by omega)
 rw [e1, e2]
 have h1 : ((0, 0) : Tk) ∈ tks n := List.mem_of_getElem? (zqs h0)
 exact z1i h1 (zy8 (n := n) (by omega) _ h1) (zy7 hn) (zuh n)
theorem z4w {i : Nat} (h : i = 0) : LT i ++ [[((i : Int), 2 * (i : Int))]] = LT (i + 1) := by subst h; rfl
theorem lt_len (n : Nat) : (LT n).flatten.length = n := by
 unfold LT
 split
 ·rename_i h; rw [h]; rfl
 ·rw [List.flatten_cons, List.flatten_nil, List.append_nil, zfq]
theorem xbh (n : Nat) (k : Tk) : (LT n ++ [[k]]).flatten.length = n + 1 := by rw [List.flatten_append, List.length_append, lt_len]; rfl
theorem zpb {W : List Tk} {x : Tk} (hx : x ∈ W) (ok : OkT x) : zds [W] x = 0 ∧ rowOf [W] x = W := by
 have ha : there [W] x := zfs (by simp) hx
 exact ⟨z98.2 ⟨ok, ha⟩, by unfold rowOf; rw [zf0 hx]; rfl⟩
end Sq
section
variable {F : Asn} {w : World} {R : Ending → World → Prop}
theorem ze2 {c : Cq} (hc : Hid (c.k.n = 3000)) {k : Nat} (hk : k ≤ 122) : Hid (zda c 60 0 k) := L_ ⟨by have := hc.out; omega, by omega, by omega, by
 have h1 : Tb.most (60 + 40 * k) (0 + k) ≤ Tb.most (60 + 40 * 122) (0 + 122) := ziu (by omega) (by omega)
 have h2 : 30 + Tb.most (60 + 40 * 122) (0 + 122) < 3000 := by decide +kernel
 have := hc.out
 omega⟩
theorem xam {A B C : Asn} (H : Sat (A * (B * (C * F))) w) : Sat (B * (A * (C * F))) w := H.of_eq (by ac_rfl)
theorem zv8 {A B : Asn} {v : Value} {l : List Tk} (H : Sat (A * (B * (zaw v l * F))) w) : Sat (zaw v l * (A * (B * F))) w := H.of_eq (by unfold zaw; ac_rfl)
theorem zfp {A : Asn} {g n c b cc : Nat} {tk : TypeId} {l : List Tk} {x y w1 w2 : Int} (hx : l[0]? = some (x, y)) (h : l[cc]? = some (w1, w2)) (H : Sat (A * (pts b (.cells #[.int .i64 x, .int .i64 y] tk (0, 0)) * (zaw (.slice (some ⟨g, 0, none⟩) n c) l * F))) w) :
  (w.cell? ⟨b, 0, none⟩ = some (.int .i64 x) ∧ w.cell? ⟨b, 1, none⟩ = some (.int .i64 y)) ∧ (w.cell? ⟨g, cc * 2, none⟩ = some (.int .i64 w1) ∧ w.cell? ⟨g, cc * 2 + 1, none⟩ = some (.int .i64 w2)) :=
 ⟨tk2 H.right, zik H.right.right cc h⟩
theorem zy5 {A B C : Asn} {v : Value} {l : List Tk} (H : Sat (A * (B * (zaw v l * (C * F)))) w) : Sat (zaw v l * (A * (B * (C * F)))) w := H.of_eq (by unfold zaw; ac_rfl)
theorem zy6 {A B C D : Asn} {v : Value} {l : List Tk} (H : Sat (A * (zaw v l * (B * (C * (D * F))))) w) : Sat (B * (zaw v l * F)) w := (H.of_eq (show _ = (A * (C * D)) * (B * (zaw v l * F)) from by unfold zaw; ac_rfl)).right
theorem z9q {A B : Asn} {v : Value} {l : List Tk} (H : Sat (zaw v l * (A * (B * F))) w) : Sat (A * (zaw v l * F)) w := (H.of_eq (show _ = B * (A * (zaw v l * F)) from by unfold zaw; ac_rfl)).right
theorem zou {A : Asn} {g n c b : Nat} {tk : TypeId} {l : List Tk} {x y w1 w2 : Int} (h : l[0]? = some (w1, w2)) (H : Sat (A * (pts b (.cells #[.int .i64 x, .int .i64 y] tk (0, 0)) * (zaw (.slice (some ⟨g, 0, none⟩) n c) l * F))) w) :
  (w.cell? ⟨b, 0, none⟩ = some (.int .i64 x) ∧ w.cell? ⟨b, 1, none⟩ = some (.int .i64 y)) ∧ (w.cell? ⟨g, 0, none⟩ = some (.int .i64 w1) ∧ w.cell? ⟨g, 1, none⟩ = some (.int .i64 w2)) :=
 ⟨tk2 H.right, znt H.right.right h⟩
theorem zo0 (n : Int) {l : List Int} {v : Value} (hv : Reads encI F v l) (H : Sat F w) (h : ∀ w', Sat F w' → Io w w' → R (.returned (.bool true)) w') :
  Calls Tryz.prog 5 #[.int .i64 n, v] w R := by
 have HH := L_ h
 obtain ⟨a0, c0, rfl, hm'⟩ := zxp hv
 have HV := L_ (fun k hk => zxq hv k hk)
 clear h hv
 go_enter Tryz.func5, Tryz.ntmps5
 go_upto_region 4 with (first
  | (go_at_call 9; (with_reducible refine zua H ?_); intro w1 H1 I1)
  | fail)
 by_cases hn1 : n < 1
 ·have FIN := L_ (HH.out _ H1 I1)
  clear HV
  go_wp2_with fail
  exact FIN.out
 ·by_cases hn2 : (60 : Int) < n
  ·have FIN := L_ (HH.out _ H1 I1)
   clear HV
   go_wp2_with fail
   exact FIN.out
  ·by_cases hl : (20 : Int) < (l.length : Int)
   ·have FIN := L_ (HH.out _ H1 I1)
    clear HV
    go_wp2_with fail
    exact FIN.out
   ·obtain ⟨N, rfl⟩ : ∃ N : Nat, n = N := ⟨n.toNat, by omega⟩
    have hN0 : (1 : Int) ≤ (N : Int) := by omega
    have hN1 : (N : Int) ≤ 60 := by omega
    have HN : Hid (1 ≤ N ∧ N ≤ 60) := L_ (by omega)
    go_upto_region 7 with (first
     | (go_at_call 10; (with_reducible refine zrx (s := 3000) (L_ (by decide)) (L_ (by decide)) H1 ?_); intro c w3 hn H3 I3; have HC := L_ (show c.k.n = 3000 from hn.out); clear hn)
     | (go_at_call 11; (refine zwf (c := c) (O := []) (L_ ⟨by constructor <;> simp, by simp⟩) H3 ?_); intro s w4 H4 I4)
     | fail)
    have J3 := (I1.trans I3).trans I4
    have S3 : Sat (SqL (Sx.at s c [] 60 0 0) (Sq.LT 0) * (zaw (.slice none 0 0) (Sq.tks 0) * F)) w4 := by
     rw [Sx.z3e]
     exact zaj (zbd H4)
    clear H H1 H3 H4 I1 I3 I4 hn1 hn2
    go_wp2_with fail
    go_loopw [7, 8] (fun vw0 vi wr => ∃ (i : Nat) (vw : Value), vw = vw0 ∧ i ≤ N ∧ vi = .int .i64 (i : Int) ∧ Sat (SqL (Sx.at s c [] 60 0 i) (Sq.LT i) * (zaw vw (Sq.tks i) * F)) wr ∧ Io w wr) (fun _ vi _ => 70 - (RowKit.intOf vi).toNat)
    case atStart => exact ⟨0, _, rfl, by omega, rfl, S3, J3⟩
    case round =>
     obtain ⟨i, vw, rfl, hi, rfl, Hk, Ik⟩ := hrel
     clear S3 J3
     have hi0 : (0 : Int) ≤ (i : Int) := by omega
     have hi60 : (i : Int) ≤ 60 := by omega
     by_cases hlt : (i : Int) < (N : Int)
     ·have HI : Hid (i + 1 ≤ 122) := L_ (by omega)
      have HLT : Hid (i < N) := L_ (by omega)
      have HM := L_ (Sq.zy3 (show i < 60 by have := HN.out; omega))
      have HLN : Hid ((Sq.LT i ++ [[((i : Int), 2 * (i : Int))]]).flatten.length ≤ 250) := L_ (by rw [Sq.xbh]; omega)
      clear hi
      by_cases h0 : i = 0
      ·have HZ := L_ h0
       have hip : ¬ (0 : Int) < (i : Int) := by omega
       have hin : ¬ 0 < i := by omega
       have hid : decide (0 < i) = false := decide_eq_false hin
       obtain ⟨a9, c9, hvw⟩ : ∃ a9 c9, vw = .slice a9 (Sq.tks i).length c9 := zz2 (zaj Hk)
       rw [Sq.zfq] at hvw
       subst hvw
       clear h0
       have H2 := xam (Hk.new (.cells #[.int .i64 (i : Int), .int .i64 (2 * (i : Int))] 29))
       have I2 := io1 H2 Ik
       go_upto_region 12 with fail
       generalize wr.alloc _ = w2 at *
       generalize wr.heap.size = b9 at *
       clear Hk Ik
       have Kd := H2.drew
       have Jd := I2.drew
       clear H2 I2
       have S0 := tk2 Kd.right
       refine rh Kd (fun W Kd => tk2 Kd.right) fun hHeld => ?_
       refine tk ?_ ?_ [0, 1] ?_ hHeld ?_; rotate_left 2; exact tt
       refine rd [2] (rc fun K hK => ?_)
       go_simp
       go_at_call 13; (refine zh2 (k := i) (i : Int) (2 * (i : Int)) HM (ze2 HC HI.out) Kd ?_); intro w5 H5 I5; have S5 := tk2 H5.right
       refine hK.out _ _ (by exact S5) fun hHeld => ?_
       clear hK K
       try simp only [sp]
       refine tk ?_ ?_ [3, 4, 5, 6, 7, 8, 9, 10, 11, 12, 13, 14, 15, 16] ?_ hHeld ?_; rotate_left 2; exact tt
       refine wpAnyH_done (by kernel_rfl) ?_ _
       clear hip hin hid
       clear S0 hHeld
       obtain ⟨y0, y1⟩ := tk2 H5.right
       have K14 := zv8 H5
       go_wp2_with (at_builtin; refine za4 zq6 zca rfl (.tmp 62) (.tmp 64) rfl rfl K14 (by rw [Sq.zfq]; have := HI.out; omega) ((i : Int), 2 * (i : Int)) rfl rfl ?_; intro v3 w7 H7 I7)
       go_roundw
       case rel => exact ⟨i + 1, _, rfl, by have := HLT.out; omega, by go_num, z9q (by rw [Sq.z4w HZ.out] at H7; exact H7), (Jd.trans I5).trans I7⟩
       case measure => simp [RowKit.intOf]; omega
      ·have h0 : 0 < i := Nat.pos_of_ne_zero h0
       have hip : (0 : Int) < (i : Int) := by omega
       have HJ := L_ (Sq.zy4 h0 (show i < 60 by have := HLT.out; have := HN.out; omega))
       have HF := L_ (Sq.zqs h0)
       obtain ⟨g, cv, hvw⟩ : ∃ g cv, vw = .slice (some ⟨g, 0, none⟩) (Sq.tks i).length cv := zcp (zaj Hk) (by rw [Sq.zfq]; exact h0)
       rw [Sq.zfq] at hvw
       subst hvw
       have H2 := xam (Hk.new (.cells #[.int .i64 (i : Int), .int .i64 (2 * (i : Int))] 29))
       have I2 := io1 H2 Ik
       go_upto_region 12 with fail
       generalize wr.alloc _ = w2 at *
       generalize wr.heap.size = b9 at *
       clear Hk Ik
       have Kd := H2.drew
       have Jd := I2.drew
       clear H2 I2
       have S0 := zou HF.out Kd
       refine rh Kd (fun W Kd => zou HF.out Kd) fun hHeld => ?_
       refine tk ?_ ?_ [0, 1] ?_ hHeld ?_; rotate_left 2; exact tt
       refine rd [2] (rc fun K hK => ?_)
       go_simp
       go_at_call 13; (refine zh2 (k := i) (i : Int) (2 * (i : Int)) HM (ze2 HC HI.out) Kd ?_); intro w5 H5 I5; have S5 := zou HF.out H5
       refine hK.out _ _ (by exact S5) fun hHeld => ?_
       clear hK K
       try simp only [sp]
       refine tk ?_ ?_ [3, 4, 5, 6, 7, 8, 9, 10, 11, 12] ?_ hHeld ?_; rotate_left 2; exact tt
       refine rd [13] (rc fun K hK => ?_)
       go_simp
       go_at_call 14; (refine zpn (k := i + 1) 0 0 (i : Int) (2 * (i : Int)) HJ HLN (ze2 HC HI.out) H5 ?_); intro w6 H6 I6; have S6 := zou HF.out H6
       refine hK.out _ _ (by exact S6) fun hHeld => ?_
       clear hK K
       try simp only [sp]
       refine tk ?_ ?_ [14, 15, 16] ?_ hHeld ?_; rotate_left 2; exact tt
       refine wpAnyH_done (by kernel_rfl) ?_ _
       clear S0 hHeld
       obtain ⟨y0, y1⟩ := tk2 H6.right
       have K14 := zv8 H6
       go_wp2_with (at_builtin; refine za4 zq6 zca rfl (.tmp 62) (.tmp 64) rfl rfl K14 (by rw [Sq.zfq]; have := HI.out; omega) ((i : Int), 2 * (i : Int)) rfl rfl ?_; intro v3 w7 H7 I7)
       go_roundw
       case rel => exact ⟨i + 1, _, rfl, by have := HLT.out; omega, by go_num, z9q H7, ((Jd.trans I5).trans I6).trans I7⟩
       case measure => simp [RowKit.intOf]; omega
     ·obtain rfl : i = N := by omega
      have S4 : ∃ W : List Tk, W.length = i ∧ W.Nodup ∧ (∀ y ∈ W, Sq.OkT y) ∧ Sat (SqL (Sx.at s c [] 60 0 i) [W] * (zaw vw W * F)) wr := ⟨Sq.tks i, Sq.zfq i, Sq.zqr i, Sq.zy8 HN.out.2, by have e : Sq.LT i = [Sq.tks i] := if_neg (by have := HN.out; omega); rw [← e]; exact Hk⟩
      have zv4 : Hid (i ≤ 122) := L_ (by have := HN.out; omega)
      clear Hk hi
      go_wp2_with fail
      go_loopw [7, 10] (fun vw0 vi wr => ∃ (k : Nat) (W : List Tk) (vw : Value), vw = vw0 ∧ k ≤ l.length ∧ vi = .int .i64 (k : Int) ∧ Hid (W.length = i ∧ W.Nodup ∧ ∀ y ∈ W, Sq.OkT y) ∧ Sat (SqL (Sx.at s c [] 60 0 i) [W] * (zaw vw W * F)) wr ∧ Io w wr) (fun _ vi _ => l.length - (RowKit.intOf vi).toNat)
      case atStart =>
       obtain ⟨W, h1, h2, h3, h4⟩ := S4
       exact ⟨0, W, _, rfl, by omega, rfl, L_ ⟨h1, h2, h3⟩, h4, Ik⟩
      case round =>
       clear S4 Ik
       obtain ⟨k, W, vw, rfl, hk, rfl, hW, Hk, Ik⟩ := hrel
       by_cases hlt2 : k < l.length
       ·have zt7 : (k : Int) < (l.length : Int) := by omega
        have hk0 : (0 : Int) ≤ (k : Int) := by omega
        obtain ⟨b1, o1, xc, rfl, hxc, hcell⟩ := HV.out k hlt2
        have q0 := hcell _ Hk.right.right
        obtain ⟨cc, hcc, hcn⟩ : ∃ cc : Nat, min (max xc 0) ((i : Int) - 1) = (cc : Int) ∧ cc < i := ⟨(min (max xc 0) ((i : Int) - 1)).toNat, by have := HN.out; omega, by have := HN.out; omega⟩
        obtain ⟨g, cv, hvw⟩ : ∃ g cv, vw = .slice (some ⟨g, 0, none⟩) W.length cv := zcp (zaj Hk) (by have := hW.out.1; have := HN.out; omega)
        rw [hW.out.1] at hvw
        subst hvw
        obtain ⟨⟨f1, f2⟩, hf⟩ : ∃ f, W[0]? = some f := ⟨W[0]'(by have := hW.out.1; have := HN.out; omega), List.getElem?_eq_getElem _⟩
        obtain ⟨⟨w1, w2⟩, hw⟩ : ∃ f, W[cc]? = some f := ⟨W[cc]'(by have := hW.out.1; omega), List.getElem?_eq_getElem _⟩
        have HF := L_ hf
        have HW2 := L_ hw
        have HWL : Hid (W.length = i ∧ cc < i) := L_ ⟨hW.out.1, hcn⟩
        have hcc0 : (0 : Int) ≤ (cc : Int) := by omega
        have hcci : (cc : Int) < (i : Int) := by omega
        have HCN := L_ hcn
        have hcv : i ≤ cv := by
         have h := zaj Hk
         unfold zaw RowOf at h
         rw [hW.out.1] at h
         exact (zk6 h).1
        have hcap : ¬ cv = cc := by omega
        have hcle : cc ≤ cv := by omega
        clear hcv
        obtain ⟨y0, y1⟩ := znt (zaj Hk) hf
        have H2 := xam (Hk.new (.cells #[.int .i64 f1, .int .i64 f2] 29))
        have I2 := io1 H2 Ik
        clear hcell hxc hf hw hcn
        go_upto_region 20 with fail
        generalize wr.alloc _ = wz at *
        generalize wr.heap.size = b9 at *
        clear y0 y1 q0 Hk Ik
        have Kd := H2.drew
        have Jd := I2.drew
        clear H2 I2
        have WC : Hid (W[cc]'(by have := HWL.out; omega) = (w1, w2)) := L_ (List.getElem?_eq_some_iff.1 HW2.out).2
        have WF : Hid (W[0]'(by have := HWL.out; omega) = (f1, f2)) := L_ (List.getElem?_eq_some_iff.1 HF.out).2
        have HLN : Hid (([W] : LL).flatten.length ≤ 250) := L_ (by have := HWL.out; have := HN.out; simp; omega)
        by_cases hz : cc = 0
        ·have HS : Hid (Sq.zpi [W] (w1, w2) 0 = (0, [W])) := L_ (by have e : (w1, w2) = W[0]'(by have := HWL.out; omega) := (by rw [← WC.out]; congr 1); rw [e]; exact Sq.z2i hW.out.2.2 hW.out.2.1 _)
         have hcp : ¬ (0 : Int) < (cc : Int) := by omega
         have hcq : ¬ 0 < cc := by omega
         have hcd : decide (0 < cc) = false := decide_eq_false hcq
         have ET : Hid (W.drop cc ++ W.take cc = W) := L_ (by rw [hz]; simp)
         clear hz
         have S0 := zfp HF.out HW2.out Kd
         refine rh Kd (fun W Kd => zfp HF.out HW2.out Kd) fun hHeld => ?_
         refine tk ?_ ?_ [0, 1, 2, 3, 4] ?_ hHeld ?_; rotate_left 2; exact tt
         refine rd [5] (rc fun K hK => ?_)
         go_simp
         go_at_call 15; (refine zpl (k := i) w1 w2 HS HLN (ze2 HC zv4.out) Kd ?_); intro w5 H5 I5; have S5 := zfp HF.out HW2.out H5
         refine hK.out _ _ (by exact S5) fun hHeld => ?_
         clear hK K
         try simp only [sp]
         refine tk ?_ ?_ [6, 7, 8, 9, 10, 11, 12, 13, 14, 15, 16, 17, 18, 19, 20] ?_ hHeld ?_; rotate_left 2; exact tt
         refine wpAnyH_done (by kernel_rfl) ?_ _
         clear hcp hcq hcd
         have H5 : Sat (SqL (Sx.at s c [] 60 0 i) [W.drop cc ++ W.take cc] * (pts b9 (.cells #[.int .i64 f1, .int .i64 f2] 29 (0, 0)) * (zaw (.slice (some ⟨g, 0, none⟩) i cv) W * F))) w5 := by rw [ET.out]; exact H5
         clear S0 hHeld
         have K14 := zv8 H5
         have JJ := Jd.trans I5
         clear H5 Kd Jd
         have K15 := zbd (sz := 2) (enc := zlx) (e := 29) K14
         have hW := L_ hW.out
         go_upto_region 26 with (first
          | (at_builtin; refine zae zq6 zca rfl (.tmp 104) (.tmp 107) rfl rfl K15 (by simp) (by have := HWL.out; rw [List.length_drop]; omega) rfl (zld zca K14 (by have := HWL.out; omega) (by have := HWL.out; omega) HWL.out.1 _) ?_; intro v6 w7 H7 I7)
          | (at_builtin; refine zae zq6 zca rfl (.tmp 109) (.tmp 112) rfl rfl H7 (by have := HWL.out; simp; omega) (by have := HWL.out; rw [List.length_take]; omega) rfl (zlc zca H7.right (by have := HWL.out; omega) (by have := HWL.out; omega) _) ?_; intro v7 w8 H8 I8)
          | fail)
         have H8 := H8
         obtain ⟨W2, hW2⟩ : ∃ W2, W2 = W.drop cc ++ W.take cc := ⟨_, rfl⟩
         rw [List.nil_append, ← hW2] at H8
         have HP : Hid (W2.length = i ∧ W2.Nodup ∧ (∀ y ∈ W2, Sq.OkT y) ∧ (f1, f2) ∈ W2) := L_ (by
          have hp : List.Perm W2 W := by rw [hW2]; exact List.perm_append_comm.trans (by rw [List.take_append_drop])
          exact ⟨hp.length_eq.trans hW.out.1, hp.nodup_iff.2 hW.out.2.1, fun y hy => hW.out.2.2 y (hp.mem_iff.1 hy), hp.mem_iff.2 (List.mem_of_getElem? HF.out)⟩)
         have HE := L_ hW2
         obtain ⟨g2, cv2, hv7⟩ : ∃ g2 cv2, v7 = .slice (some ⟨g2, 0, none⟩) W2.length cv2 := zcp H8 (by have := HP.out.1; have := HN.out; omega)
         rw [HP.out.1] at hv7
         subst hv7
         have H9 : Sat (SqL (Sx.at s c [] 60 0 i) [W2] * (pts b9 (.cells #[.int .i64 f1, .int .i64 f2] 29 (0, 0)) * (zaw (.slice (some ⟨g2, 0, none⟩) i cv2) W2 * (zaw (.slice (some ⟨g, 0, none⟩) i cv) W * F)))) w8 := H8.of_eq (by rw [hW2]; unfold zaw; ac_rfl)
         have J9 := (JJ.trans I7).trans I8
         clear H7 H8 I7 I8 JJ K14 K15 I5 H5 S5 hW2 hcap hcle
         obtain ⟨hh, hh1, hh2⟩ : ∃ hh : Nat, (i : Int).tdiv 2 = (hh : Int) ∧ hh < i := ⟨i / 2, by rw [Int.tdiv_eq_ediv_of_nonneg (by omega)]; omega, by have := HN.out; omega⟩
         have hh0 : (0 : Int) ≤ (hh : Int) := by omega
         have hh3 : (hh : Int) < (i : Int) := by omega
         obtain ⟨⟨m1, m2⟩, hm⟩ : ∃ f, W2[hh]? = some f := ⟨W2[hh]'(by have := HP.out.1; omega), List.getElem?_eq_getElem _⟩
         obtain ⟨y0, y1⟩ := zik (zy5 H9) hh hm
         have OA := Sq.zpb (List.mem_of_getElem? hm) (HP.out.2.2.1 _ (List.mem_of_getElem? hm))
         have OB := Sq.zpb HP.out.2.2.2 (HP.out.2.2.1 _ HP.out.2.2.2)
         have HLS : Hid (Sq.zds [W2] (m1, m2) = 0 ∧ Sq.lst [W2] (m1, m2) = W2) := L_ ⟨OA.1, (Sq.zpk OA.1).trans OA.2⟩
         have HLH : Hid (Sq.zds [W2] (f1, f2) = 0) := L_ OB.1
         have HRW := L_ OB.2
         have HLN3 : Hid (([W2] : LL).flatten.length ≤ 250) := L_ (by have := HP.out.1; have := HN.out; simp; omega)
         clear OA OB hm hh2
         go_upto_region 27 with (go_at_call 17; (refine zpm (k := i) m1 m2 HLS HLN3 (ze2 HC zv4.out) H9 ?_); intro v9 w9 H10 I10)
         have H11 : Sat (SqL (Sx.at s c [] 60 0 i) [W2] * (pts b9 (.cells #[.int .i64 f1, .int .i64 f2] 29 (0, 0)) * (zaw v9 W2 * (zaw (.slice (some ⟨g2, 0, none⟩) i cv2) W2 * (zaw (.slice (some ⟨g, 0, none⟩) i cv) W * F))))) w9 := H10.of_eq (by unfold zaw; ac_rfl)
         have J11 := J9.trans I10
         clear y0 y1 H9 H10 J9 I10 hh1
         obtain ⟨y0, y1⟩ := tk2 H11.right
         go_upto_region 28 with (go_at_call 18; (refine zry (k := i) f1 f2 HLH HLN3 (ze2 HC zv4.out) H11 ?_); intro q w12 hq H12 I12)
         have H13 : Sat (zaw v9 W2 * (zaw (.slice (some ⟨g2, 0, none⟩) i cv2) W2 * (SqL (Sx.at s c [] 60 0 i) [W2] * (pts b9 (.cells #[.int .i64 f1, .int .i64 f2] 29 (0, 0)) * (zaw (.slice (some ⟨g, 0, none⟩) i cv) W * F))))) w12 := H12.of_eq (by unfold zaw; ac_rfl)
         have J13 := J11.trans I12
         clear y0 y1 H11 H12 J11 I12
         have HB : Hid (W2.length ≤ 1000000) := L_ (by have := HP.out.1; have := HN.out; omega)
         go_upto_region 29 with (go_at_call 19; (refine zhf (l := W2) (m := W2) (d := true) (Reads.zau H13 HB.out) ((Reads.zau H13.right HB.out).with) (L_ (decide_eq_true rfl).symm) H13 ?_); intro w14 H14 I14)
         have hqq : 1 ≤ q ∧ q ≤ (Sq.rowOf [W2] (f1, f2)).length ∧ Sq.least q ≤ (Sq.rowOf [W2] (f1, f2)).length := by
          first | exact hq.out.2 rfl | exact hq.out.2 trivial
         rw [HRW.out, HP.out.1] at hqq
         have HQ : Hid (1 ≤ q ∧ q ≤ 1000 ∧ Sq.least q ≤ 1000) := L_ (by have := HN.out; omega)
         obtain ⟨lq, hlq⟩ : ∃ lq, lq = Sq.least q := ⟨_, rfl⟩
         have hql : ¬ (i : Int) < (lq : Int) := by omega
         have HLQ := L_ hlq
         clear hlq hqq
         go_wp2_with (go_at_call 20; (refine zr0 q HQ H14 ?_); rw [← HLQ.out]; intro w15 H15 I15)
         go_roundw
         case rel => exact ⟨k + 1, W2, _, rfl, by omega, by go_num, L_ ⟨HP.out.1, HP.out.2.1, HP.out.2.2.1⟩, zy6 H15, (J13.trans I14).trans I15⟩
         case measure => simp [RowKit.intOf]; omega
        ·have hz : 0 < cc := Nat.pos_of_ne_zero hz
         have HS : Hid (Sq.zpi [W] (w1, w2) 0 = (0, [W.take cc, W.drop cc])) := L_ (by rw [← WC.out]; exact Sq.cut_at hW.out.2.2 hW.out.2.1 hz _)
         have HJ : Hid (Sq.zfh [W.take cc, W.drop cc] (w1, w2) (f1, f2) = (0, [W.drop cc ++ W.take cc])) := L_ (by rw [← WC.out, ← WF.out]; exact Sq.z1f hW.out.2.2 hW.out.2.1 hz (by have := HWL.out; omega))
         have HLN2 : Hid (([W.take cc, W.drop cc] : LL).flatten.length ≤ 250) := L_ (by have := HWL.out; have := HN.out; simp; omega)
         have hcp : (0 : Int) < (cc : Int) := by omega
         have S0 := zfp HF.out HW2.out Kd
         refine rh Kd (fun W Kd => zfp HF.out HW2.out Kd) fun hHeld => ?_
         refine tk ?_ ?_ [0, 1, 2, 3, 4] ?_ hHeld ?_; rotate_left 2; exact tt
         refine rd [5] (rc fun K hK => ?_)
         go_simp
         go_at_call 15; (refine zpl (k := i) w1 w2 HS HLN (ze2 HC zv4.out) Kd ?_); intro w5 H5 I5; have S5 := zfp HF.out HW2.out H5
         refine hK.out _ _ (by exact S5) fun hHeld => ?_
         clear hK K
         try simp only [sp]
         refine tk ?_ ?_ [6, 7, 8, 9, 10, 11, 12, 13, 14, 15, 16] ?_ hHeld ?_; rotate_left 2; exact tt
         refine rd [17] (rc fun K hK => ?_)
         go_simp
         go_at_call 14; (refine zpn (k := i) w1 w2 f1 f2 HJ HLN2 (ze2 HC zv4.out) H5 ?_); intro w6 H6 I6; have S6 := zfp HF.out HW2.out H6
         refine hK.out _ _ (by exact S6) fun hHeld => ?_
         clear hK K
         try simp only [sp]
         refine tk ?_ ?_ [18, 19, 20] ?_ hHeld ?_; rotate_left 2; exact tt
         refine wpAnyH_done (by kernel_rfl) ?_ _
         clear S0 hHeld
         have K14 := zv8 H6
         have JJ := (Jd.trans I5).trans I6
         clear H6 Kd Jd
         have K15 := zbd (sz := 2) (enc := zlx) (e := 29) K14
         have hW := L_ hW.out
         go_upto_region 26 with (first
          | (at_builtin; refine zae zq6 zca rfl (.tmp 104) (.tmp 107) rfl rfl K15 (by simp) (by have := HWL.out; rw [List.length_drop]; omega) rfl (zld zca K14 (by have := HWL.out; omega) (by have := HWL.out; omega) HWL.out.1 _) ?_; intro v6 w7 H7 I7)
          | (at_builtin; refine zae zq6 zca rfl (.tmp 109) (.tmp 112) rfl rfl H7 (by have := HWL.out; simp; omega) (by have := HWL.out; rw [List.length_take]; omega) rfl (zlc zca H7.right (by have := HWL.out; omega) (by have := HWL.out; omega) _) ?_; intro v7 w8 H8 I8)
          | fail)
         have H8 := H8
         obtain ⟨W2, hW2⟩ : ∃ W2, W2 = W.drop cc ++ W.take cc := ⟨_, rfl⟩
         rw [List.nil_append, ← hW2] at H8
         have HP : Hid (W2.length = i ∧ W2.Nodup ∧ (∀ y ∈ W2, Sq.OkT y) ∧ (f1, f2) ∈ W2) := L_ (by
          have hp : List.Perm W2 W := by rw [hW2]; exact List.perm_append_comm.trans (by rw [List.take_append_drop])
          exact ⟨hp.length_eq.trans hW.out.1, hp.nodup_iff.2 hW.out.2.1, fun y hy => hW.out.2.2 y (hp.mem_iff.1 hy), hp.mem_iff.2 (List.mem_of_getElem? HF.out)⟩)
         have HE := L_ hW2
         obtain ⟨g2, cv2, hv7⟩ : ∃ g2 cv2, v7 = .slice (some ⟨g2, 0, none⟩) W2.length cv2 := zcp H8 (by have := HP.out.1; have := HN.out; omega)
         rw [HP.out.1] at hv7
         subst hv7
         have H9 : Sat (SqL (Sx.at s c [] 60 0 i) [W2] * (pts b9 (.cells #[.int .i64 f1, .int .i64 f2] 29 (0, 0)) * (zaw (.slice (some ⟨g2, 0, none⟩) i cv2) W2 * (zaw (.slice (some ⟨g, 0, none⟩) i cv) W * F)))) w8 := H8.of_eq (by rw [hW2]; unfold zaw; ac_rfl)
         have J9 := (JJ.trans I7).trans I8
         clear H7 H8 I7 I8 JJ K14 K15 I5 H5 S5 hW2 hcap hcle
         obtain ⟨hh, hh1, hh2⟩ : ∃ hh : Nat, (i : Int).tdiv 2 = (hh : Int) ∧ hh < i := ⟨i / 2, by rw [Int.tdiv_eq_ediv_of_nonneg (by omega)]; omega, by have := HN.out; omega⟩
         have hh0 : (0 : Int) ≤ (hh : Int) := by omega
         have hh3 : (hh : Int) < (i : Int) := by omega
         obtain ⟨⟨m1, m2⟩, hm⟩ : ∃ f, W2[hh]? = some f := ⟨W2[hh]'(by have := HP.out.1; omega), List.getElem?_eq_getElem _⟩
         obtain ⟨y0, y1⟩ := zik (zy5 H9) hh hm
         have OA := Sq.zpb (List.mem_of_getElem? hm) (HP.out.2.2.1 _ (List.mem_of_getElem? hm))
         have OB := Sq.zpb HP.out.2.2.2 (HP.out.2.2.1 _ HP.out.2.2.2)
         have HLS : Hid (Sq.zds [W2] (m1, m2) = 0 ∧ Sq.lst [W2] (m1, m2) = W2) := L_ ⟨OA.1, (Sq.zpk OA.1).trans OA.2⟩
         have HLH : Hid (Sq.zds [W2] (f1, f2) = 0) := L_ OB.1
         have HRW := L_ OB.2
         have HLN3 : Hid (([W2] : LL).flatten.length ≤ 250) := L_ (by have := HP.out.1; have := HN.out; simp; omega)
         clear OA OB hm hh2
         go_upto_region 27 with (go_at_call 17; (refine zpm (k := i) m1 m2 HLS HLN3 (ze2 HC zv4.out) H9 ?_); intro v9 w9 H10 I10)
         have H11 : Sat (SqL (Sx.at s c [] 60 0 i) [W2] * (pts b9 (.cells #[.int .i64 f1, .int .i64 f2] 29 (0, 0)) * (zaw v9 W2 * (zaw (.slice (some ⟨g2, 0, none⟩) i cv2) W2 * (zaw (.slice (some ⟨g, 0, none⟩) i cv) W * F))))) w9 := H10.of_eq (by unfold zaw; ac_rfl)
         have J11 := J9.trans I10
         clear y0 y1 H9 H10 J9 I10 hh1
         obtain ⟨y0, y1⟩ := tk2 H11.right
         go_upto_region 28 with (go_at_call 18; (refine zry (k := i) f1 f2 HLH HLN3 (ze2 HC zv4.out) H11 ?_); intro q w12 hq H12 I12)
         have H13 : Sat (zaw v9 W2 * (zaw (.slice (some ⟨g2, 0, none⟩) i cv2) W2 * (SqL (Sx.at s c [] 60 0 i) [W2] * (pts b9 (.cells #[.int .i64 f1, .int .i64 f2] 29 (0, 0)) * (zaw (.slice (some ⟨g, 0, none⟩) i cv) W * F))))) w12 := H12.of_eq (by unfold zaw; ac_rfl)
         have J13 := J11.trans I12
         clear y0 y1 H11 H12 J11 I12
         have HB : Hid (W2.length ≤ 1000000) := L_ (by have := HP.out.1; have := HN.out; omega)
         go_upto_region 29 with (go_at_call 19; (refine zhf (l := W2) (m := W2) (d := true) (Reads.zau H13 HB.out) ((Reads.zau H13.right HB.out).with) (L_ (decide_eq_true rfl).symm) H13 ?_); intro w14 H14 I14)
         have hqq : 1 ≤ q ∧ q ≤ (Sq.rowOf [W2] (f1, f2)).length ∧ Sq.least q ≤ (Sq.rowOf [W2] (f1, f2)).length := by
          first | exact hq.out.2 rfl | exact hq.out.2 trivial
         rw [HRW.out, HP.out.1] at hqq
         have HQ : Hid (1 ≤ q ∧ q ≤ 1000 ∧ Sq.least q ≤ 1000) := L_ (by have := HN.out; omega)
         obtain ⟨lq, hlq⟩ : ∃ lq, lq = Sq.least q := ⟨_, rfl⟩
         have hql : ¬ (i : Int) < (lq : Int) := by omega
         have HLQ := L_ hlq
         clear hlq hqq
         go_wp2_with (go_at_call 20; (refine zr0 q HQ H14 ?_); rw [← HLQ.out]; intro w15 H15 I15)
         go_roundw
         case rel => exact ⟨k + 1, W2, _, rfl, by omega, by go_num, L_ ⟨HP.out.1, HP.out.2.1, HP.out.2.2.1⟩, zy6 H15, (J13.trans I14).trans I15⟩
         case measure => simp [RowKit.intOf]; omega
       ·obtain rfl : k = l.length := by omega
        have hge : ¬ (l.length : Int) < (l.length : Int) := by omega
        have HF := Hk.right.right
        clear HV Hk
        go_wp2_with fail
        exact HH.out _ HF Ik
end
end Go.Proofs.YtfknjmoekbabcaaGreatDoor
