/-
  The document's lists: which versions may be, Put, Move, whatever is put or moved, by walks. It proves no statement by itself.
-/
import Derived.Test.YtojiffhknddleaaGreatDoorU49
import Derived.Test.YtojiffhknddleaaGreatDoorU42
import Derived.Test.YtojiffhknddleaaGreatDoorU43
namespace Go.Proofs.YtojiffhknddleaaGreatDoor
open Go.RowKit
open Go.Lib
open Md (Nm St)
set_option linter.unusedSimpArgs false
set_option linter.unusedVariables false
set_option linter.unusedSectionVars false
namespace Ca
def vpre (V : List Md.Ver) (v : Md.Ver) (k : Nat) : List Md.Ver × Bool := ((V.take k).filter fun x => decide (x.id ≠ v.id)).foldl (vist v) ([], false)
theorem vpre_zero (V : List Md.Ver) (v : Md.Ver) : vpre V v 0 = ([], false) := rfl
theorem vpre_step {V : List Md.Ver} {v : Md.Ver} {k : Nat} (hk : k < V.length) : vpre V v (k + 1) = if V[k].id = v.id then vpre V v k else vist v (vpre V v k) V[k] := by
  unfold vpre
  rw [List.take_succ_eq_append_getElem hk, List.filter_append, List.foldl_append]
  by_cases e : V[k].id = v.id
  · simp [e]
  · simp [e]
theorem vpre_all (V : List Md.Ver) (v : Md.Ver) : vput V v = vfin v (vpre V v V.length) := by unfold vpre vput; rw [List.take_length]
theorem vist_l2 (v : Md.Ver) (s : List Md.Ver × Bool) (x : Md.Ver) : (vist v s x).1.length ≤ s.1.length + 2 := by
  unfold vist
  split
  · simp
  · simp
theorem vpre_len (V : List Md.Ver) (v : Md.Ver) : ∀ k, (vpre V v k).1.length ≤ 2 * k
  | 0 => by rw [vpre_zero]; simp
  | k + 1 => by
    have ih := vpre_len V v k
    by_cases hk : k < V.length
    · rw [vpre_step hk]
      split
      · omega
      · have := vist_l2 v (vpre V v k) V[k]
        omega
    · have e : vpre V v (k + 1) = vpre V v k := by unfold vpre; rw [List.take_of_length_le (by omega), List.take_of_length_le (by omega)]
      rw [e]
      omega
end Ca
section
variable {F : Asn} {w : World} {R : Ending → World → Prop} {l : Nat} {vv vb : Value} {V : List Md.Ver} {B : List Md.Br}
set_option maxRecDepth 100000 in
set_option maxHeartbeats 4000000 in
theorem rmay_all (x1 x2 x3 x4 : Int) {d : Bool} (hd : Hid (d = true ↔ Ca.OkV ⟨x1, x2, x3, x4⟩)) (H : Sat F w) (h : ∀ w', Sat F w' → Io w w' → R (.returned (.bool d)) w') :
    Calls Tryz.prog 42 #[.agg #[.int .i64 x1, .int .i64 x2, .int .i64 x3, .int .i64 x4]] w R := by
  have HP := H.new (.cells #[.int .i64 x1, .int .i64 x2, .int .i64 x3, .int .i64 x4] 30)
  have IP := (Io.refl w).alloc (.cells #[.int .i64 x1, .int .i64 x2, .int .i64 x3, .int .i64 x4] 30)
  have FIN := Lib.hid (h _ HP.right IP)
  have NO : Hid (¬ Ca.OkV ⟨x1, x2, x3, x4⟩ → d = false) := Lib.hid (fun n => by
    cases d with
    | false => rfl
    | true => exact absurd (hd.out.1 rfl) n)
  have YES : Hid (Ca.OkV ⟨x1, x2, x3, x4⟩ → d = true) := Lib.hid hd.out.2
  have q0 := Sat.read HP.left.at 0
  have q1 := Sat.read HP.left.at 1
  have q2 := Sat.read HP.left.at 2
  have q3 := Sat.read HP.left.at 3
  simp only [List.getElem?_toArray, List.getElem?_cons_zero, List.getElem?_cons_succ] at q0 q1 q2 q3
  clear h hd
  go_enter Tryz.func42, Tryz.ntmps42
  by_cases a1 : (1 : Int) ≤ x1
  case neg =>
    obtain rfl := NO.out fun o => a1 o.id.1
    go_wp2_with fail
    exact FIN.out
  by_cases a2 : x1 ≤ (1048576 : Int)
  case neg =>
    obtain rfl := NO.out fun o => a2 o.id.2
    go_wp2_with fail
    exact FIN.out
  by_cases a3 : (0 : Int) ≤ x2
  case neg =>
    obtain rfl := NO.out fun o => a3 o.parent.1
    go_wp2_with fail
    exact FIN.out
  by_cases a4 : x2 ≤ (1048576 : Int)
  case neg =>
    obtain rfl := NO.out fun o => a4 o.parent.2
    go_wp2_with fail
    exact FIN.out
  by_cases a5 : (0 : Int) ≤ x3
  case neg =>
    obtain rfl := NO.out fun o => a5 o.root.1
    go_wp2_with fail
    exact FIN.out
  by_cases a6 : x3 ≤ (4294967295 : Int)
  case neg =>
    obtain rfl := NO.out fun o => a6 o.root.2
    go_wp2_with fail
    exact FIN.out
  by_cases a7 : (0 : Int) ≤ x4
  case neg =>
    obtain rfl := NO.out fun o => a7 o.edges.1
    go_wp2_with fail
    exact FIN.out
  by_cases a8 : x4 ≤ (4294967295 : Int)
  case neg =>
    obtain rfl := NO.out fun o => a8 o.edges.2
    go_wp2_with fail
    exact FIN.out
  obtain rfl := YES.out ⟨⟨a1, a2⟩, ⟨a3, a4⟩, ⟨a5, a6⟩, ⟨a7, a8⟩⟩
  go_wp2_with fail
  exact FIN.out
theorem put_drop {P : Asn} (H : Sat (LAt l vv vb V B * (P * F)) w) : Sat (LAt l vv vb V B * F) w := (H.of_eq (show _ = P * (LAt l vv vb V B * F) from by ac_rfl)).right
set_option maxRecDepth 100000 in
set_option maxHeartbeats 8000000 in
theorem rput_all (i p r e : Int) (hV : V.length ≤ 100000) {er : Int} {V' : List Md.Ver} (hp : Hid ((Ca.OkV ⟨i, p, r, e⟩ ∧ er = 0 ∧ V' = Ca.vput V ⟨i, p, r, e⟩) ∨ (¬ Ca.OkV ⟨i, p, r, e⟩ ∧ er = 1 ∧ V' = V))) (H : Sat (LAt l vv vb V B * F) w)
    (h : ∀ vv' w', Sat (LAt l vv' vb V' B * F) w' → Io w w' → R (.returned (.int .i64 er)) w') :
    Calls Tryz.prog 15 #[lptr l, .agg #[.int .i64 i, .int .i64 p, .int .i64 r, .int .i64 e]] w R := by
  obtain ⟨⟨a, c, rfl⟩, _⟩ := LAt.shape H
  have HC := Lib.hid (fun G W (hW : Sat (LAt l (.slice a V.length c) vb V B * G) W) => LAt.cells hW)
  have HV := Lib.hid (fun k hk => dreadsV_get (LAt.readV H (by omega)) k hk)
  have HH := Lib.hid h
  clear h
  have HP := H.new (.cells #[.int .i64 i, .int .i64 p, .int .i64 r, .int .i64 e] 30)
  have IP := (Io.refl w).alloc (.cells #[.int .i64 i, .int .i64 p, .int .i64 r, .int .i64 e] 30)
  have HQ := Lib.hid (fun G (b : Nat) W (hW : Sat (pts b (.cells #[.int .i64 i, .int .i64 p, .int .i64 r, .int .i64 e] 30 (0, 0)) * G) W) => (⟨Sat.read hW.left.at 0, Sat.read hW.left.at 1, Sat.read hW.left.at 2, Sat.read hW.left.at 3⟩ : W.cell? ⟨b, 0, none⟩ = some (.int .i64 i) ∧ W.cell? ⟨b, 1, none⟩ = some (.int .i64 p) ∧ W.cell? ⟨b, 2, none⟩ = some (.int .i64 r) ∧ W.cell? ⟨b, 3, none⟩ = some (.int .i64 e)))
  obtain ⟨q0, q1, q2, q3⟩ := HQ.out _ _ _ HP
  go_enter Tryz.func15, Tryz.ntmps15
  rcases hp.out with ⟨ok, h1, h2⟩ | ⟨no, rfl, h2⟩
  case inr =>
    subst h2
    have HD : Hid (false = true ↔ Ca.OkV ⟨i, p, r, e⟩) := Lib.hid ⟨fun h => Bool.noConfusion h, fun h => absurd h no⟩
    clear no HV
    go_wp2_with (go_at_call 42; (with_reducible refine rmay_all i p r e HD HP ?_); intro w1 H1 I1)
    exact HH.out _ _ H1.right (IP.trans I1)
  have HD : Hid (true = true ↔ Ca.OkV ⟨i, p, r, e⟩) := Lib.hid ⟨fun _ => ok, fun _ => rfl⟩
  have HE : Hid (V' = Ca.vfin ⟨i, p, r, e⟩ (Ca.vpre V ⟨i, p, r, e⟩ V.length)) := Lib.hid (h2.trans (Ca.vpre_all _ _))
  subst h1
  clear ok h2 hp
  go_wp2_with (go_at_call 42; (with_reducible refine rmay_all i p r e HD HP ?_); intro w1 H1 I1)
  clear q0 q1 q2 q3
  generalize w.heap.size = bp at *
  have I1' := IP.trans I1
  have K1 : Sat (RowV (.slice none 0 0) [] * (LAt l (.slice a V.length c) vb V B * (pts bp (.cells #[.int .i64 i, .int .i64 p, .int .i64 r, .int .i64 e] 30 (0, 0)) * F))) w1 := rowOf_nil (H1.of_eq (by ac_rfl))
  clear IP I1 HP H1
  go_loopw [6, 7, 8] (fun y z x wr => ∃ (k : Nat) (o : List Md.Ver) (d : Bool), k ≤ V.length ∧ x = .int .i64 (k : Int) ∧ z = .bool d ∧ Hid (Ca.vpre V ⟨i, p, r, e⟩ k = (o, d)) ∧ Sat (RowV y o * (LAt l (.slice a V.length c) vb V B * (pts bp (.cells #[.int .i64 i, .int .i64 p, .int .i64 r, .int .i64 e] 30 (0, 0)) * F))) wr ∧ Io w wr) (fun _ _ x _ => V.length - (RowKit.intOf x).toNat)
  case atStart => exact ⟨0, [], false, by omega, rfl, rfl, Lib.hid (Ca.vpre_zero _ _), K1, I1'⟩
  case round =>
    obtain ⟨k, o, d, hk, rfl, rfl, ho, Hk, Ik⟩ := hrel
    clear K1 I1'
    obtain ⟨c0, c1⟩ := HC.out _ _ Hk.right
    obtain ⟨q0, q1, q2, q3⟩ := HQ.out _ _ _ Hk.right.right
    have hlen : o.length ≤ 200000 := by have := Ca.vpre_len V ⟨i, p, r, e⟩ k; rw [ho.out] at this; simp only at this; omega
    by_cases hlt : k < V.length
    · have hlti : (k : Int) < (V.length : Int) := by omega
      have hk0 : (0 : Int) ≤ (k : Int) := by omega
      obtain ⟨b, off, x1, x2, x3, x4, rfl, hx, hc⟩ := HV.out k hlt
      obtain ⟨g0, g1, g2, g3⟩ := hc wr (put_drop Hk.right)
      have HS := Lib.hid (Ca.vpre_step (v := ⟨i, p, r, e⟩) hlt)
      have HX := Lib.hid hx
      have HCC := Lib.hid hc
      have Hn := fun n => Hk.drewN n
      have In := fun n => Ik.drewN n
      have HLN : Hid (o.length ≤ 200000) := Lib.hid hlen
      clear hc hx hlen
      by_cases he : x1 = i
      · have b1 : (x1 == i) = true := by simpa using he
        have d1 : decide (x1 = i) = true := decide_eq_true he
        have HT : Hid (Ca.vpre V ⟨i, p, r, e⟩ (k + 1) = (o, d)) := Lib.hid (by have := HS.out; rw [HX.out, if_pos he] at this; rw [this]; exact ho.out)
        subst he
        go_wp2_with fail
        go_quiet (fail)
        go_wp2_with fail
        go_roundw
        case rel => exact ⟨k + 1, o, d, by omega, by go_num, rfl, HT, Hn _, In _⟩
        case measure => simp [RowKit.intOf]; omega
      · have b1 : (x1 == i) = false := by simpa using he
        have d1 : decide (x1 = i) = false := decide_eq_false he
        have HT : Hid (Ca.vpre V ⟨i, p, r, e⟩ (k + 1) = Ca.vist ⟨i, p, r, e⟩ (o, d) ⟨x1, x2, x3, x4⟩) := Lib.hid (by have := HS.out; rw [HX.out, if_neg he] at this; rw [this, ho.out])
        cases d with
        | true =>
          have HT2 : Hid (Ca.vpre V ⟨i, p, r, e⟩ (k + 1) = (o ++ [⟨x1, x2, x3, x4⟩], true)) := Lib.hid (by rw [HT.out]; unfold Ca.vist; rw [if_neg (by simp)])
          go_wp2_with fail
          go_quiet (fail)
          go_wp2_with fail
          go_quiet (fail)
          go_wp2_with (at_builtin; refine wpList_append_rec Tryz.rowV encV4_ok rfl (.tmp 52) (.tmp 60) rfl rfl (Hn _) (by have := HLN.out; omega) ⟨x1, x2, x3, x4⟩ rfl rfl ?_; intro v3 w3 H3 I3)
          go_roundw
          case rel => exact ⟨k + 1, _, true, by omega, by go_num, rfl, HT2, H3, (In _).trans I3⟩
          case measure => simp [RowKit.intOf]; omega
        | false =>
          by_cases hgt : i < x1
          · have d2 : decide (i < x1) = true := decide_eq_true hgt
            have HT2 : Hid (Ca.vpre V ⟨i, p, r, e⟩ (k + 1) = (o ++ [⟨i, p, r, e⟩] ++ [⟨x1, x2, x3, x4⟩], true)) := Lib.hid (by rw [HT.out]; unfold Ca.vist; rw [if_pos ⟨rfl, hgt⟩])
            go_wp2_with fail
            go_quiet (fail)
            go_wp2_with fail
            go_quiet (fail)
            go_wp2_with (at_builtin; first
              | (refine wpList_append_rec Tryz.rowV encV4_ok rfl (.tmp 48) (.tmp 50) rfl rfl (Hn _) (by have := HLN.out; omega) (⟨i, p, r, e⟩ : Md.Ver) rfl rfl ?_; intro v3 w3 H3 I3; obtain ⟨d0, d1⟩ := HC.out _ _ H3.right; obtain ⟨y0, y1, y2, y3⟩ := HCC.out w3 (put_drop H3.right))
              | (refine wpList_append_rec Tryz.rowV encV4_ok rfl (.tmp 52) (.tmp 60) rfl rfl H3 (by have := HLN.out; rw [List.length_append, List.length_singleton]; omega) ⟨x1, x2, x3, x4⟩ rfl rfl ?_; intro v4 w4 H4 I4))
            go_roundw
            case rel => exact ⟨k + 1, _, true, by omega, by go_num, rfl, HT2, H4, ((In _).trans I3).trans I4⟩
            case measure => simp [RowKit.intOf]; omega
          · have d2 : decide (i < x1) = false := decide_eq_false hgt
            have HT2 : Hid (Ca.vpre V ⟨i, p, r, e⟩ (k + 1) = (o ++ [⟨x1, x2, x3, x4⟩], false)) := Lib.hid (by rw [HT.out]; unfold Ca.vist; rw [if_neg (fun h => hgt h.2)])
            go_wp2_with fail
            go_quiet (fail)
            go_wp2_with fail
            go_quiet (fail)
            go_wp2_with (at_builtin; refine wpList_append_rec Tryz.rowV encV4_ok rfl (.tmp 52) (.tmp 60) rfl rfl (Hn _) (by have := HLN.out; omega) ⟨x1, x2, x3, x4⟩ rfl rfl ?_; intro v3 w3 H3 I3)
            go_roundw
            case rel => exact ⟨k + 1, _, false, by omega, by go_num, rfl, HT2, H3, (In _).trans I3⟩
            case measure => simp [RowKit.intOf]; omega
    · obtain rfl : k = V.length := by omega
      have hge : ¬ (V.length : Int) < (V.length : Int) := by omega
      have HLN : Hid (o.length ≤ 200000) := Lib.hid hlen
      rw [ho.out] at HE
      clear HV hlen ho
      cases d with
      | false =>
        obtain rfl : V' = o ++ [⟨i, p, r, e⟩] := by rw [HE.out]; rfl
        clear HE
        go_wp2_with (at_builtin; refine wpList_append_rec Tryz.rowV encV4_ok rfl (.tmp 64) (.tmp 66) rfl rfl Hk (by have := HLN.out; omega) (⟨i, p, r, e⟩ : Md.Ver) rfl rfl ?_; intro v3 w3 H3 I3; obtain ⟨d0, d1⟩ := HC.out _ _ H3.right; obtain ⟨a3, c3, e3⟩ := rowOf_shape H3; generalize (o ++ [(⟨i, p, r, e⟩ : Md.Ver)]) = B2 at *; subst e3; have K3 := put_swap H3; have fr := Sat.free K3.left.at 0; have K4 := lat_set0 K3; have I4 := (Ik.trans I3).setCell ⟨l, 0, none⟩ (.slice a3 B2.length c3))
        exact HH.out _ _ K4 I4
      | true =>
        obtain rfl : V' = o := by rw [HE.out]; rfl
        clear HE
        obtain ⟨a3, c3, e3⟩ := rowOf_shape Hk
        subst e3
        have K3 := put_swap Hk
        have fr := Sat.free K3.left.at 0
        have K4 := lat_set0 K3
        have I4 := Ik.setCell ⟨l, 0, none⟩ (.slice a3 V'.length c3)
        go_wp2_with fail
        exact HH.out _ _ K4 I4
set_option maxRecDepth 100000 in
set_option maxHeartbeats 4000000 in
theorem rmove_all (n : Nm) (head : Int) (hV : V.length ≤ 100000) (hB : B.length ≤ 100000) {e : Int} {B' : List Md.Br} (hm : Hid (Ca.mv V B n head = (e, B'))) (H : Sat (LAt l vv vb V B * F) w)
    (h : ∀ vb' w', Sat (LAt l vv vb' V B' * F) w' → Io w w' → R (.returned (.int .i64 e)) w') :
    Calls Tryz.prog 20 #[lptr l, .string n, .int .i64 head] w R := by
  have m := hm.out
  unfold Ca.mv at m
  by_cases h1 : Md.bplace B n < B.length
  · rw [if_neg (by simpa using h1)] at m
    by_cases h2 : Md.vplace V head < V.length
    · rw [if_neg (by simpa using h2)] at m
      cases m
      exact rmove_any n head hV hB h1 h2 H h
    · rw [if_pos h2] at m
      cases m
      have HH := Lib.hid h
      have hB2 : Hid ((Md.bplace B n : Int) = Md.bnum B n) := Lib.hid (by unfold Md.bnum; rw [if_pos h1])
      have hV3 : Hid ((-1 : Int) = Md.vnum V head) := Lib.hid (by unfold Md.vnum; rw [if_neg h2])
      generalize Md.bplace B n = q at *
      have hq : ¬ (q : Int) < 0 := by omega
      clear h h1 h2 hm
      go_enter Tryz.func20, Tryz.ntmps20
      go_wp2_with (first
        | (go_at_call 46; with_reducible refine rbranch_any n (by omega) H hB2 ?_; intro w1 H1 I1)
        | (go_at_call 44; with_reducible refine rfind_any head (by omega) H1 hV3 ?_; intro w2 H2 I2))
      exact HH.out _ _ H2 (I1.trans I2)
  · rw [if_pos h1] at m
    cases m
    have HH := Lib.hid h
    have hB2 : Hid ((-1 : Int) = Md.bnum B n) := Lib.hid (by unfold Md.bnum; rw [if_neg h1])
    clear h h1 hm
    go_enter Tryz.func20, Tryz.ntmps20
    go_wp2_with (go_at_call 46; with_reducible refine rbranch_any n (by omega) H hB2 ?_; intro w1 H1 I1)
    exact HH.out _ _ H1 I1
end
end Go.Proofs.YtojiffhknddleaaGreatDoor

/-
  Law 19's asked: all that is asked of a catalogue answers as the document's lists do, by its walk. It proves no statement by itself.
-/
namespace Go.Proofs.YtojiffhknddleaaGreatDoor
open Go.RowKit Go.Lib
set_option linter.unusedSimpArgs false
set_option linter.unusedVariables false
set_option linter.unusedSectionVars false
section
variable {a : Nat} {c : Cq} {F : Asn} {w : World} {R : Ending → World → Prop} {V : List Md.Ver} {B : List Md.Br} {q g l : Nat} {vv vb : Value}
theorem ask_in {u x : Value} {P Q : Asn} (H : Sat (RowB u B * (Q * (RowV x V * (P * (LAt l vv vb V B * F))))) w) : Sat (LAt l vv vb V B * (RowB u B * (RowV x V * (Q * (P * F))))) w := H.of_eq (by unfold RowB RowV; ac_rfl)
theorem ask_out {u x : Value} {P Q : Asn} (H : Sat (LAt l vv vb V B * (RowB u B * (RowV x V * (Q * (P * F))))) w) : Sat (Q * (LAt l vv vb V B * F)) w :=
  (H.of_eq (show _ = (RowB u B * (RowV x V * P)) * (Q * (LAt l vv vb V B * F)) from by unfold RowB RowV; ac_rfl)).right
theorem ask_p {u x : Value} {P Q : Asn} (H : Sat (LAt l vv vb V B * (RowB u B * (RowV x V * (Q * (P * F))))) w) : Sat (P * (LAt l vv vb V B * (RowB u B * (RowV x V * (Q * F))))) w :=
  H.of_eq (by unfold RowB RowV; ac_rfl)
theorem ask_ver {u x : Value} {X : Asn} (hV : V.length ≤ 1000) (H : Sat (LAt l vv vb V B * (RowB u B * (RowV x V * X))) w) (h : ∀ w', Sat (LAt l vv vb V B * (RowB u B * (RowV x V * X))) w' → Io w w' → R (.returned (.bool true)) w') :
    Calls Tryz.prog 29 #[x, vv] w R := by
  have e1 : LAt l vv vb V B * (RowB u B * (RowV x V * X)) = RowV x V * (LAt l vv vb V B * (RowB u B * X)) := by unfold RowV RowB; ac_rfl
  exact rsamever_any ((Reads.of_row (H.of_eq e1) (by omega)).imp fun _ h => h.of_eq e1) (LAt.readV H (by omega)) (Lib.hid (decide_eq_true rfl).symm) H h
theorem ask_br {u x : Value} {X : Asn} (hB : B.length ≤ 1000) (H : Sat (LAt l vv vb V B * (RowB u B * (RowV x V * X))) w) (h : ∀ w', Sat (LAt l vv vb V B * (RowB u B * (RowV x V * X))) w' → Io w w' → R (.returned (.bool true)) w') :
    Calls Tryz.prog 30 #[u, vb] w R := by
  have e1 : LAt l vv vb V B * (RowB u B * (RowV x V * X)) = RowB u B * (LAt l vv vb V B * (RowV x V * X)) := by unfold RowV RowB; ac_rfl
  exact rsamebr_any ((Reads.of_row (H.of_eq e1) (by omega)).imp fun _ h => h.of_eq e1) (LAt.readB H (by omega)) (Lib.hid (decide_eq_true rfl).symm) H h
theorem ask_nd4 {b : Nat} {t : TypeId} {v0 v1 v2 v3 : Value} (H : Sat (pts b (.cells #[v0, v1, v2, v3] t (0, 0)) * F) w) : w.cell? ⟨b, 0, none⟩ = some v0 ∧ w.cell? ⟨b, 1, none⟩ = some v1 ∧ w.cell? ⟨b, 2, none⟩ = some v2 ∧ w.cell? ⟨b, 3, none⟩ = some v3 :=
  ⟨Sat.read H.left.at 0, Sat.read H.left.at 1, Sat.read H.left.at 2, Sat.read H.left.at 3⟩
set_option maxRecDepth 100000 in
set_option maxHeartbeats 16000000 in
theorem asked19_any (id : Int) (n : ByteArray) (ZN : Hid (n.size ≤ 1000)) (hg : Hid (g ≤ 240)) (hl : Hid (V.length + B.length ≤ 1000)) (H : Sat (KtAt a c V B q g * (LAt l vv vb V B * F)) w)
    (h : ∀ w', Sat (KtAt a c V B q g * (LAt l vv vb V B * F)) w' → Io w w' → R (.returned (.bool true)) w') :
    Calls Tryz.prog 21 #[.pointer (some ⟨a, 0, none⟩), lptr l, .int .i64 id, .string n] w R := by
  have HH := Lib.hid h
  obtain ⟨⟨a8, c8, rfl⟩, ⟨a9, c9, rfl⟩⟩ := LAt.shape H.right
  have HC := Lib.hid (fun G W (hW : Sat (LAt l (.slice a8 V.length c8) (.slice a9 B.length c9) V B * G) W) => LAt.cells hW)
  have HBB := Lib.hid (fun k hk => dreadsB_get (LAt.readB H.right (by have := hl.out; omega)) k hk)
  have HVV := Lib.hid (fun k hk => dreadsV_get (LAt.readV H.right (by have := hl.out; omega)) k hk)
  obtain ⟨⟨v1, v2, v3, v4⟩, ev, hv⟩ : ∃ v e, Ca.vat V id = (v, e) := ⟨_, _, rfl⟩
  obtain ⟨hd, eh, hh⟩ : ∃ v e, Ca.hat B n = (v, e) := ⟨_, _, rfl⟩
  have HVA := Lib.hid hv
  have HHA := Lib.hid hh
  obtain ⟨kv, hkv⟩ : ∃ k, k = Md.vnum V id := ⟨_, rfl⟩
  obtain ⟨kb, hkb⟩ : ∃ k, k = Md.bnum B n := ⟨_, rfl⟩
  have HKV := Lib.hid hkv
  have HKB := Lib.hid hkb
  obtain ⟨d, hdn⟩ : ∃ d, d = Md.nameOk n := ⟨_, rfl⟩
  have HD := Lib.hid hdn
  have hdd : (d != d) = false := by simp
  have HLV : Hid (V.length ≤ 1000) := Lib.hid (by have := hl.out; omega)
  have HLB : Hid (B.length ≤ 1000) := Lib.hid (by have := hl.out; omega)
  have n1 : (V.length : Int) ≤ 1000 := by have := HLV.out; omega
  have n2 : (B.length : Int) ≤ 1000 := by have := HLB.out; omega
  clear h hv hh hkv hkb hdn
  go_enter Tryz.func21, Tryz.ntmps21
  go_upto_region 2 with (first
    | (go_at_call 26; (with_reducible refine cversion_any id HVA hg.out H ?_); intro w1 H1 I1; have K1 := swap3 (H1.new (.cells #[.int .i64 v1, .int .i64 v2, .int .i64 v3, .int .i64 v4] 30)); have J1 := I1.alloc (.cells #[.int .i64 v1, .int .i64 v2, .int .i64 v3, .int .i64 v4] 30))
    | fail)
  generalize w1.alloc (.cells #[.int .i64 v1, .int .i64 v2, .int .i64 v3, .int .i64 v4] 30) = w2 at *
  generalize w1.heap.size = bv at *
  clear H1 I1 H
  go_upto_region 5 with (first
    | (go_at_call 27; (with_reducible refine chd_any n HHA ZN hg.out K1 ?_); intro w3 H3 I3)
    | (go_at_call 25; (with_reducible refine versions_any hg.out hl.out H3 ?_); intro v5 w4 H4 I4; obtain ⟨a5, c5, hq⟩ := rowOf_shl H4; subst hq; have K4 := swap3 H4)
    | (go_at_call 12; (with_reducible refine branches_any hg.out hl.out K4 ?_); intro v6 w5 H5 I5; obtain ⟨a6, c6, hq⟩ := rowOf_shl H5; subst hq; have K5 := ask_in H5)
    | fail)
  have J5 := ((J1.trans I3).trans I4).trans I5
  clear K1 J1 H3 I3 H4 I4 K4 H5 I5
  go_upto_region 7 with (first
    | (go_at_call 44; (with_reducible refine rfind_any id (by have := HLV.out; omega) K5 HKV ?_); intro w6 H6 I6)
    | (go_at_call 46; (with_reducible refine rbranch_any n (by have := HLB.out; omega) H6 HKB ?_); intro w7 H7 I7)
    | fail)
  have J7 := (J5.trans I6).trans I7
  obtain ⟨y0, y1⟩ := HC.out _ _ H7
  clear K5 J5 H6 I6 I7
  go_upto_region 11 with (first
    | (go_at_call 29; (with_reducible refine ask_ver HLV.out H7 ?_); intro w8 H8 I8; obtain ⟨z0, z1⟩ := HC.out _ _ H8)
    | (go_at_call 30; (with_reducible refine ask_br HLB.out H8 ?_); intro w9 H9 I9)
    | (go_at_call 13; (with_reducible refine name_any n (by have := ZN.out; omega) HD H9 ?_); intro w10 H10 I10)
    | (go_at_call 45; (with_reducible refine rname_any n (by have := ZN.out; omega) HD H10 ?_); intro w11 H11 I11)
    | fail)
  have J11 := (((J7.trans I8).trans I9).trans I10).trans I11
  clear H7 J7 H8 I8 H9 I9 H10 I10 I11 y0 y1 z0 z1
  have P11 := ask_p H11
  have Hn := fun n => H11.drewN n
  have In := fun n => J11.drewN n
  obtain ⟨p0, p1, p2, p3⟩ := ask_nd4 P11
  obtain ⟨y0, y1⟩ := HC.out _ _ H11
  by_cases h1 : Md.vplace V id < V.length
  · obtain ⟨p, hp⟩ : ∃ p, p = Md.vplace V id := ⟨_, rfl⟩
    obtain rfl : kv = (p : Int) := by rw [HKV.out, hp]; unfold Md.vnum; rw [if_pos h1]
    have h1p : p < V.length := by rw [hp]; exact h1
    obtain ⟨b, off, x1, x2, x3, x4, rfl, hx, hc⟩ := HVV.out p h1p
    obtain ⟨rfl, rfl, rfl, rfl, rfl⟩ : v1 = x1 ∧ v2 = x2 ∧ v3 = x3 ∧ v4 = x4 ∧ ev = 0 := by
      have := HVA.out
      unfold Ca.vat at this
      rw [dif_pos h1] at this
      simp only [← hp, hx] at this
      cases this
      exact ⟨rfl, rfl, rfl, rfl, rfl⟩
    obtain ⟨g0, g1, g2, g3⟩ := hc _ (ask_out H11).right
    have p4 : (0 : Int) ≤ (p : Int) := by omega
    have p5 : ¬ (p : Int) < 0 := by omega
    have p6 : (p : Int) < (V.length : Int) := by omega
    have d5 : decide ((p : Int) < 0) = false := decide_eq_false p5
    have d6 : decide ((0 : Int) ≤ (p : Int)) = true := decide_eq_true p4
    have EQ := fun W => neq_ver (⟨v1, v2, v3, v4⟩ : Md.Ver) (⟨v1, v2, v3, v4⟩ : Md.Ver) W
    simp only [decide_true, Bool.not_true] at EQ
    clear hx hc hp h1 h1p
    go_quiet (fail)
    go_upto_region 13 with fail
    have H12 := Hn nq
    have J12 := In nq
    generalize w11.drewN nq = w12 at *
    clear g0 g1 g2 g3 Hn In y0 y1 p0 p1 p2 p3
    obtain ⟨y0, y1⟩ := HC.out _ _ H12
    by_cases h2 : Md.bplace B n < B.length
    · obtain ⟨r, hr⟩ : ∃ r, r = Md.bplace B n := ⟨_, rfl⟩
      obtain rfl : kb = (r : Int) := by rw [HKB.out, hr]; unfold Md.bnum; rw [if_pos h2]
      have h2r : r < B.length := by rw [hr]; exact h2
      obtain ⟨b2, off2, nm, hd2, rfl, hx2, hc2⟩ := HBB.out r h2r
      obtain ⟨rfl, rfl⟩ : hd = hd2 ∧ eh = 0 := by
        have := HHA.out
        unfold Ca.hat at this
        rw [dif_pos h2] at this
        simp only [← hr, hx2] at this
        cases this
        exact ⟨rfl, rfl⟩
      have HC2 := Lib.hid (hc2 _ (ask_out H12).right)
      obtain ⟨f0, f1⟩ := HC2.out
      have r0 : (0 : Int) ≤ (r : Int) := by omega
      have r1 : ¬ (r : Int) < 0 := by omega
      have r2 : (r : Int) < (B.length : Int) := by omega
      have FIN := Lib.hid (HH.out _ (ask_out H12) J12)
      clear hx2 hc2 hr h2 h2r H12 J12 HC2
      go_wp2_with fail
      exact FIN.out
    · obtain rfl : kb = -1 := by rw [HKB.out]; unfold Md.bnum; rw [if_neg h2]
      obtain ⟨rfl, rfl⟩ : hd = 0 ∧ eh = 191 := by
        have := HHA.out
        unfold Ca.hat at this
        rw [dif_neg h2] at this
        cases this
        exact ⟨rfl, rfl⟩
      have FIN := Lib.hid (HH.out _ (ask_out H12) J12)
      clear h2 H12 J12
      go_wp2_with fail
      exact FIN.out
  · obtain rfl : kv = -1 := by rw [HKV.out]; unfold Md.vnum; rw [if_neg h1]
    obtain ⟨rfl, rfl, rfl, rfl, rfl⟩ : v1 = 0 ∧ v2 = 0 ∧ v3 = 0 ∧ v4 = 0 ∧ ev = 190 := by
      have := HVA.out
      unfold Ca.vat at this
      rw [dif_neg h1] at this
      cases this
      exact ⟨rfl, rfl, rfl, rfl, rfl⟩
    have EQ := fun W => neq_ver (⟨0, 0, 0, 0⟩ : Md.Ver) (⟨0, 0, 0, 0⟩ : Md.Ver) W
    simp only [decide_true, Bool.not_true] at EQ
    clear h1
    go_quiet (fail)
    go_upto_region 13 with fail
    have H12 := Hn nq
    have J12 := In nq
    generalize w11.drewN nq = w12 at *
    clear Hn In y0 y1 p0 p1 p2 p3
    obtain ⟨y0, y1⟩ := HC.out _ _ H12
    by_cases h2 : Md.bplace B n < B.length
    · obtain ⟨r, hr⟩ : ∃ r, r = Md.bplace B n := ⟨_, rfl⟩
      obtain rfl : kb = (r : Int) := by rw [HKB.out, hr]; unfold Md.bnum; rw [if_pos h2]
      have h2r : r < B.length := by rw [hr]; exact h2
      obtain ⟨b2, off2, nm, hd2, rfl, hx2, hc2⟩ := HBB.out r h2r
      obtain ⟨rfl, rfl⟩ : hd = hd2 ∧ eh = 0 := by
        have := HHA.out
        unfold Ca.hat at this
        rw [dif_pos h2] at this
        simp only [← hr, hx2] at this
        cases this
        exact ⟨rfl, rfl⟩
      have HC2 := Lib.hid (hc2 _ (ask_out H12).right)
      obtain ⟨f0, f1⟩ := HC2.out
      have r0 : (0 : Int) ≤ (r : Int) := by omega
      have r1 : ¬ (r : Int) < 0 := by omega
      have r2 : (r : Int) < (B.length : Int) := by omega
      have FIN := Lib.hid (HH.out _ (ask_out H12) J12)
      clear hx2 hc2 hr h2 h2r H12 J12 HC2
      go_wp2_with fail
      exact FIN.out
    · obtain rfl : kb = -1 := by rw [HKB.out]; unfold Md.bnum; rw [if_neg h2]
      obtain ⟨rfl, rfl⟩ : hd = 0 ∧ eh = 191 := by
        have := HHA.out
        unfold Ca.hat at this
        rw [dif_neg h2] at this
        cases this
        exact ⟨rfl, rfl⟩
      have FIN := Lib.hid (HH.out _ (ask_out H12) J12)
      clear h2 H12 J12
      go_wp2_with fail
      exact FIN.out
end
end Go.Proofs.YtojiffhknddleaaGreatDoor
