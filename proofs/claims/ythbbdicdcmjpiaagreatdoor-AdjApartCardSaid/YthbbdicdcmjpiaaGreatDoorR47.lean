/-
  The document's lists of entries: which may be, Put, Same, and what is between two keys; by walks. It proves no statement by itself.
-/
import Derived.Test.YthbbdicdcmjpiaaGreatDoorR42
import Derived.Test.YthbbdicdcmjpiaaGreatDoorR44
namespace Go.Proofs.YthbbdicdcmjpiaaGreatDoor
open Go.RowKit Go.Lib
set_option linter.unusedSimpArgs false
set_option linter.unusedVariables false
set_option linter.unusedSectionVars false
namespace Ky
def may (k v : Nm) : Bool := decide (chk k v = 0)
/-- A step of the document's Put; what came, and whether the new one stands there. -/
def ist (key v : Nm) (s : List En × Bool) (x : En) : List En × Bool := if s.2 = false ∧ Md.nlt key x.1 = true then (s.1 ++ [(key, v)] ++ [x], true) else (s.1 ++ [x], s.2)
def ifin (key v : Nm) (s : List En × Bool) : List En := if s.2 = true then s.1 else s.1 ++ [(key, v)]
theorem ist_true (key v : Nm) : ∀ (l : List En) (o : List En), l.foldl (ist key v) (o, true) = (o ++ l, true)
  | [], o => by simp
  | x :: l, o => by
    have e : ist key v (o, true) x = (o ++ [x], true) := by simp [ist]
    rw [List.foldl_cons, e, ist_true key v l]
    simp
theorem ist_ahead (key v : Nm) : ∀ (l : List En) (o : List En), (∀ x ∈ l, Md.nlt key x.1 = false) → l.foldl (ist key v) (o, false) = (o ++ l, false)
  | [], o, _ => by simp
  | x :: l, o, h => by
    have e : ist key v (o, false) x = (o ++ [x], false) := by simp [ist, h x (by simp)]
    rw [List.foldl_cons, e, ist_ahead key v l _ fun y hy => h y (by simp [hy])]
    simp
theorem ist_behind (key v : Nm) (l : List En) (o : List En) (h : ∀ x ∈ l, Md.nlt key x.1 = true) : ifin key v (l.foldl (ist key v) (o, false)) = o ++ [(key, v)] ++ l := by
  cases l with
  | nil => simp [ifin]
  | cons x l =>
    have e : ist key v (o, false) x = (o ++ [(key, v)] ++ [x], true) := by simp [ist, h x (by simp)]
    rw [List.foldl_cons, e, ist_true]
    simp [ifin]
/-- THE DOCUMENT'S Put. -/
theorem put_doc {l : List En} (hr : Right l) (key v : Nm) : ifin key v ((l.filter fun x => decide (x.1 ≠ key)).foldl (ist key v) ([], false)) = put l key v := by
  obtain ⟨E1, Ec, E2, rfl, h1, h2, h3⟩ := split_at hr key
  rw [Tb.put_loc h1 h2 hr]
  have f1 : (E1.filter fun x => decide (x.1 ≠ key)) = E1 := List.filter_eq_self.2 fun x hx => by simpa using nlt_ne (h1 x hx)
  have f2 : (E2.filter fun x => decide (x.1 ≠ key)) = E2 := List.filter_eq_self.2 fun x hx => by simpa using (nlt_ne (h2 x hx)).symm
  have f3 : (Ec.filter fun x => decide (x.1 ≠ key)) = [] := by
    rcases h3 with rfl | ⟨w, rfl⟩
    · rfl
    · simp
  have hp : put Ec key v = [(key, v)] := by
    rcases h3 with rfl | ⟨w, rfl⟩
    · exact put_nil _ _
    · exact put_one _ _ _
  rw [List.filter_append, List.filter_append, f1, f2, f3, hp, List.nil_append, List.foldl_append, ist_ahead key v E1 [] fun x hx => nlt_asym (h1 x hx), List.nil_append, ist_behind key v E2 E1 h2, List.append_assoc]
theorem ist_len (key v : Nm) : ∀ (l : List En) (s : List En × Bool), (l.foldl (ist key v) s).1.length ≤ s.1.length + 2 * l.length
  | [], s => by simp
  | x :: l, s => by
    have := ist_len key v l (ist key v s x)
    have h : (ist key v s x).1.length ≤ s.1.length + 2 := by
      unfold ist
      split <;> simp
    rw [List.foldl_cons, List.length_cons]
    omega
end Ky
/-- `!=` at entries that are the same. -/
theorem neq_entry (k v : ByteArray) (w : World) : (binOp .neq 49 (.agg #[.string k, .string v]) (.agg #[.string k, .string v])).run Tryz.prog w = .ok (.bool false) w := by
  have u3 := Tryz.underlying9
  have hS : Tryz.prog.underlying 49 = some (.struct (Tryz.prog.fieldsOf 49)) := by kernel_rfl
  have hp : Tryz.prog.stoodInHeld 49 = false := by kernel_rfl
  rw [run_neq_struct, show (10000 : Nat) = 9999 + 1 from rfl, run_equalIn_agg w 9999 49 _ _ hS hp]
  simp only [Program.fieldsOf, Tryz.underlying49]
  go_simp
theorem rowE_one {v : Value} {l : List Ky.En} {y : Ky.En} {F : Asn} {w : World} (H : Sat (RowE v (l ++ [y]) * F) w) : ∃ a c, v = .slice a (l.length + 1) c := by
  obtain ⟨a, c, h⟩ := rowOf_shl H
  rw [List.length_append, List.length_singleton] at h
  exact ⟨a, c, h⟩
theorem Sat.mid2 {A B C : Asn} {w : World} (h : Sat (A * (B * C)) w) : Sat (A * C) w := (swap3 h).right
section
variable {F : Asn} {w : World} {R : Ending → World → Prop} {l m : List Ky.En} {v u : Value}
set_option maxRecDepth 100000 in
set_option maxHeartbeats 2000000 in
theorem rmay11_any (key val : ByteArray) (hk : Hid (key.size ≤ 9223372036854775807)) (hv : Hid (val.size ≤ 40)) {d : Bool} (hd : Hid (d = Ky.may key val)) (h : R (.returned (.bool d)) w) :
    Calls Tryz.prog 23 #[.string key, .string val] w R := by
  have HH := Lib.hid h
  have h2 : (val.size : Int) ≤ 40 := by have := hv.out; omega
  have hx := hd.out
  unfold Ky.may Ky.chk at hx
  clear h
  go_enter Tryz.func23, Tryz.ntmps23
  by_cases h1 : 1 ≤ (key.size : Int)
  · by_cases h3 : (key.size : Int) ≤ 16
    · obtain rfl : d = true := by rw [hx, decide_eq_true_eq, if_neg (by omega)]
      clear hx
      go_wp2_with fail
      exact HH.out
    · obtain rfl : d = false := by rw [hx, decide_eq_false_iff_not, if_pos (by omega)]; omega
      clear hx
      go_wp2_with fail
      exact HH.out
  · obtain rfl : d = false := by rw [hx, decide_eq_false_iff_not, if_pos (by omega)]; omega
    clear hx
    go_wp2_with fail
    exact HH.out
set_option maxRecDepth 100000 in
set_option maxHeartbeats 4000000 in
theorem rdel11_any (hv : ReadsE F v l) (hl : l.length ≤ 1000) (key : ByteArray) (H : Sat F w) (h : ∀ v' w', Sat (RowE v' (l.filter fun x => decide (x.1 ≠ key)) * F) w' → Io w w' → R (.returned v') w') :
    Calls Tryz.prog 56 #[v, .string key] w R := by
  obtain ⟨a, c, rfl, hm⟩ := readsE_len hv
  have HV := Lib.hid (fun k hk => readsE_get hv k hk)
  have HH := Lib.hid h
  have HL := Lib.hid hl
  have n1 : (l.length : Int) ≤ 1000 := by omega
  clear h hv hl
  go_enter Tryz.func56, Tryz.ntmps56
  go_wp2_with fail
  go_loopw [5, 6] (fun y x wr => ∃ (k : Nat) (o : List Ky.En), k ≤ l.length ∧ x = .int .i64 (k : Int) ∧ Hid ((l.take k).filter (fun x => decide (x.1 ≠ key)) = o) ∧ Sat (RowE y o * F) wr ∧ Io w wr) (fun _ x _ => l.length - (intOf x).toNat)
  case atStart => exact ⟨0, [], by omega, rfl, Lib.hid rfl, rowOf_nil (enc := encE) (sz := 2) (e := 49) H, Io.refl w⟩
  case round =>
    obtain ⟨k, o, hk, rfl, hs, Hk, Ik⟩ := hrel
    by_cases hlt : k < l.length
    · have hlti : (k : Int) < (l.length : Int) := by omega
      have hk0 : (0 : Int) ≤ (k : Int) := by omega
      obtain ⟨b, off, x1, x2, rfl, hx, hc⟩ := HV.out k hlt
      obtain ⟨c0, c1⟩ := hc wr Hk.right
      have ol : o.length ≤ 1000 := by
        rw [← hs.out]
        have := List.length_filter_le (fun x : Ky.En => decide (x.1 ≠ key)) (l.take k)
        rw [List.length_take] at this
        have := HL.out
        omega
      have OL := Lib.hid ol
      have hn : (l.take (k + 1)).filter (fun x => decide (x.1 ≠ key)) = o ++ (if x1 = key then [] else [(x1, x2)]) := by
        rw [List.take_succ_eq_append_getElem hlt, List.filter_append, hs.out, hx]
        by_cases e : x1 = key <;> simp [e]
      have HN := Lib.hid hn
      clear hc hx hs ol hn H
      by_cases hke : x1 = key
      · subst hke
        have HS : Hid ((l.take (k + 1)).filter (fun x => decide (x.1 ≠ x1)) = o) := Lib.hid (by rw [HN.out]; simp)
        clear HN
        go_wp2_with fail
        go_roundw
        case rel => exact ⟨k + 1, o, by omega, by go_num, HS, Hk, Ik⟩
        case measure => simp [intOf]; omega
      · have HS : Hid ((l.take (k + 1)).filter (fun x => decide (x.1 ≠ key)) = o ++ [(x1, x2)]) := Lib.hid (by rw [HN.out, if_neg hke])
        have hb : (x1.toList == key.toList) = false := beq_eq_false_iff_ne.2 fun e => hke (nm_ext e)
        clear HN
        go_wp2_with (at_builtin; refine wpList_append_rec Tryz.rowE encE_ok rfl (.tmp 20) (.tmp 25) rfl rfl Hk (by have := OL.out; omega) (x1, x2) rfl rfl ?_; intro v3 w3 H3 I3)
        go_roundw
        case rel => exact ⟨k + 1, o ++ [(x1, x2)], by omega, by go_num, HS, H3, Ik.trans I3⟩
        case measure => simp [intOf]; omega
    · obtain rfl : k = l.length := by omega
      have hge : ¬ (l.length : Int) < (l.length : Int) := by omega
      have FIN := Lib.hid (HH.out _ _ (by rw [List.take_length] at hs; rw [hs.out]; exact Hk) Ik)
      clear HV hs
      go_wp2_with fail
      exact FIN.out
set_option maxRecDepth 100000 in
set_option maxHeartbeats 4000000 in
theorem rscan13_any (hv : ReadsE F v l) (hl : l.length ≤ 1000) (fr ub : ByteArray) {o' : List Ky.En} (ho : Hid (o' = l.filter fun x => !Md.nlt x.1 fr && Tb.under ub x)) (H : Sat F w) (h : ∀ v' w', Sat (RowE v' o' * F) w' → Io w w' → R (.returned v') w') :
    Calls Tryz.prog 28 #[v, .string fr, .string ub] w R := by
  obtain rfl := ho.out
  obtain ⟨a, c, rfl, hm⟩ := readsE_len hv
  have HV := Lib.hid (fun k hk => readsE_get hv k hk)
  have HH := Lib.hid h
  have HL := Lib.hid hl
  have n1 : (l.length : Int) ≤ 1000 := by omega
  clear h hv hl ho
  go_enter Tryz.func28, Tryz.ntmps28
  go_wp2_with fail
  go_loopw [7, 8] (fun y x wr => ∃ (k : Nat) (o : List Ky.En), k ≤ l.length ∧ x = .int .i64 (k : Int) ∧ Hid ((l.take k).filter (fun x => !Md.nlt x.1 fr && Tb.under ub x) = o) ∧ Sat (RowE y o * F) wr ∧ Io w wr) (fun _ x _ => l.length - (intOf x).toNat)
  case atStart => exact ⟨0, [], by omega, rfl, Lib.hid rfl, rowOf_nil (enc := encE) (sz := 2) (e := 49) H, Io.refl w⟩
  case round =>
    obtain ⟨k, o, hk, rfl, hs, Hk, Ik⟩ := hrel
    by_cases hlt : k < l.length
    · have hlti : (k : Int) < (l.length : Int) := by omega
      have hk0 : (0 : Int) ≤ (k : Int) := by omega
      obtain ⟨b, off, x1, x2, rfl, hx, hc⟩ := HV.out k hlt
      obtain ⟨c0, c1⟩ := hc wr Hk.right
      have ol : o.length ≤ 1000 := by
        rw [← hs.out]
        have := List.length_filter_le (fun x : Ky.En => !Md.nlt x.1 fr && Tb.under ub x) (l.take k)
        rw [List.length_take] at this
        have := HL.out
        omega
      have OL := Lib.hid ol
      have hn : (l.take (k + 1)).filter (fun x => !Md.nlt x.1 fr && Tb.under ub x) = o ++ (if (!Md.nlt x1 fr && Tb.under ub (x1, x2)) = true then [(x1, x2)] else []) := by
        rw [List.take_succ_eq_append_getElem hlt, List.filter_append, hs.out, hx]
        cases e : (!Md.nlt x1 fr && Tb.under ub (x1, x2)) <;> simp [e]
      have HN := Lib.hid hn
      clear hc hx hs ol hn H
      have yes : ∀ (e : (!Md.nlt x1 fr && Tb.under ub (x1, x2)) = true), Hid ((l.take (k + 1)).filter (fun x => !Md.nlt x.1 fr && Tb.under ub x) = o ++ [(x1, x2)]) := fun e => Lib.hid (by rw [HN.out, if_pos e])
      have no : ∀ (e : ¬ (!Md.nlt x1 fr && Tb.under ub (x1, x2)) = true), Hid ((l.take (k + 1)).filter (fun x => !Md.nlt x.1 fr && Tb.under ub x) = o) := fun e => Lib.hid (by rw [HN.out, if_neg e, List.append_nil])
      cases h1 : Md.nlt x1 fr with
      | true =>
        have h1' : Op.bytesLess x1.toList fr.toList = true := h1
        have HS := no (by simp [h1])
        clear HN yes no h1
        go_wp2_with fail
        go_roundw
        case rel => exact ⟨k + 1, o, by omega, by go_num, HS, Hk, Ik⟩
        case measure => simp [intOf]; omega
      | false =>
        have h1' : Op.bytesLess x1.toList fr.toList = false := h1
        by_cases h0 : ub.size = 0
        · have hb : (ub.toList == []) = true := by
            have : ub = ⟨#[]⟩ := by
              have h2 : ub.data.toList.length = 0 := h0
              exact nm_ext (by rw [ByteArray.toList_eq, ByteArray.toList_eq, List.eq_nil_of_length_eq_zero h2])
            rw [this, ByteArray.toList_eq]; rfl
          have HS := yes (by simp [h1, Tb.under, h0])
          clear HN yes no h1 h0
          go_wp2_with (at_builtin; refine wpList_append_rec Tryz.rowE encE_ok rfl (.tmp 35) (.tmp 40) rfl rfl Hk (by have := OL.out; omega) (x1, x2) rfl rfl ?_; intro v3 w3 H3 I3)
          go_roundw
          case rel => exact ⟨k + 1, o ++ [(x1, x2)], by omega, by go_num, HS, H3, Ik.trans I3⟩
          case measure => simp [intOf]; omega
        · have hb : (ub.toList == []) = false := by
            apply beq_eq_false_iff_ne.2
            intro e
            rw [ByteArray.toList_eq] at e
            have h2 : ub.data.toList.length = ub.size := rfl
            rw [e] at h2
            exact h0 (by simpa using h2.symm)
          cases h2 : Md.nlt x1 ub with
          | true =>
            have h2' : Op.bytesLess x1.toList ub.toList = true := h2
            have HS := yes (by simp [h1, Tb.under, h2])
            clear HN yes no h1 h0 h2
            go_wp2_with (at_builtin; refine wpList_append_rec Tryz.rowE encE_ok rfl (.tmp 35) (.tmp 40) rfl rfl Hk (by have := OL.out; omega) (x1, x2) rfl rfl ?_; intro v3 w3 H3 I3)
            go_roundw
            case rel => exact ⟨k + 1, o ++ [(x1, x2)], by omega, by go_num, HS, H3, Ik.trans I3⟩
            case measure => simp [intOf]; omega
          | false =>
            have h2' : Op.bytesLess x1.toList ub.toList = false := h2
            have HS := no (by simp [h1, Tb.under, h0, h2])
            clear HN yes no h1 h0 h2
            go_wp2_with fail
            go_roundw
            case rel => exact ⟨k + 1, o, by omega, by go_num, HS, Hk, Ik⟩
            case measure => simp [intOf]; omega
    · obtain rfl : k = l.length := by omega
      have hge : ¬ (l.length : Int) < (l.length : Int) := by omega
      have FIN := Lib.hid (HH.out _ _ (by rw [List.take_length] at hs; rw [hs.out]; exact Hk) Ik)
      clear HV hs
      go_wp2_with fail
      exact FIN.out
set_option maxRecDepth 100000 in
set_option maxHeartbeats 4000000 in
/-- Lists that are the same. -/
theorem rsame11_yes (hv : ReadsE F v l) (hu : ReadsE F u l) (H : Sat F w) (h : ∀ w', Sat F w' → Io w w' → R (.returned (.bool true)) w') :
    Calls Tryz.prog 27 #[v, u] w R := by
  obtain ⟨a, c, rfl, hm⟩ := readsE_len hv
  obtain ⟨a', c', rfl, hm'⟩ := readsE_len hu
  have HV := Lib.hid (fun k hk => readsE_get hv k hk)
  have HU := Lib.hid (fun k hk => readsE_get hu k hk)
  have HH := Lib.hid h
  clear h hv hu
  go_enter Tryz.func27, Tryz.ntmps27
  go_wp2_with fail
  go_loopw [5] (fun x wr => ∃ k : Nat, k ≤ l.length ∧ x = .int .i64 (k : Int) ∧ Sat F wr ∧ Io w wr) (fun x _ => l.length - (intOf x).toNat)
  case atStart => exact ⟨0, by omega, rfl, H, Io.refl w⟩
  case round =>
    obtain ⟨k, hk, rfl, Hk, Ik⟩ := hrel
    clear H
    by_cases hlt : k < l.length
    · have hlti : (k : Int) < (l.length : Int) := by omega
      have hk0 : (0 : Int) ≤ (k : Int) := by omega
      obtain ⟨b, off, x1, x2, rfl, hx, hc⟩ := HV.out k hlt
      obtain ⟨b', off', y1, y2, rfl, hy, hc'⟩ := HU.out k hlt
      rw [hx, Prod.mk.injEq] at hy
      obtain ⟨rfl, rfl⟩ := hy
      obtain ⟨c0, c1⟩ := hc wr Hk
      obtain ⟨d0, d1⟩ := hc' wr Hk
      have EQ := fun W => neq_entry x1 x2 W
      clear hc hc' hx
      go_wp2_with fail
      go_quiet (fail)
      have Hn := Hk.drewN nq
      have In := Ik.drewN nq
      go_wp2_with fail
      go_roundw
      case rel => exact ⟨k + 1, by omega, by go_num, Hn, In⟩
      case measure => simp [intOf]; omega
    · obtain rfl : k = l.length := by omega
      have hge : ¬ (l.length : Int) < (l.length : Int) := by omega
      have FIN := Lib.hid (HH.out _ Hk Ik)
      clear HV HU
      go_wp2_with fail
      exact FIN.out
set_option maxRecDepth 100000 in
set_option maxHeartbeats 8000000 in
theorem rput11_any (hr : Ky.Right l) (hv : ReadsE F v l) (hl : l.length ≤ 500) (key val : ByteArray) (H : Sat F w) (h : ∀ v' w', Sat (RowE v' (Ky.put l key val) * F) w' → Io w w' → R (.returned v') w') :
    Calls Tryz.prog 25 #[v, .string key, .string val] w R := by
  obtain ⟨a, c, rfl, hm⟩ := readsE_len hv
  have HH := Lib.hid h
  have HVV := Lib.hid hv
  have HL : Hid (l.length ≤ 1000) := Lib.hid (by omega)
  have hrl := List.length_filter_le (fun x : Ky.En => decide (x.1 ≠ key)) l
  have HP := Lib.hid (Ky.put_doc hr key val)
  obtain ⟨r, hrr⟩ : ∃ r, r = l.filter fun x => decide (x.1 ≠ key) := ⟨_, rfl⟩
  rw [← hrr] at hrl
  have HRR := Lib.hid hrr
  have n1 : (r.length : Int) ≤ 1000 := by omega
  have HRL : Hid (r.length ≤ 500) := Lib.hid (by omega)
  clear h hv hl hrr hr hrl
  go_enter Tryz.func25, Tryz.ntmps25
  go_wp2_with (go_at_call 56; (refine rdel11_any HVV.out HL.out key H ?_); intro vr w1 H1 I1; rw [← HRR.out] at H1; obtain ⟨ar, cr, hq⟩ := rowOf_shl H1; subst hq)
  have HV := Lib.hid (fun k hk => readsE_get (Reads.of_row H1 (by have := HRL.out; omega)) k hk)
  have K1 := rowOf_nil (enc := encE) (sz := 2) (e := 49) H1
  clear H H1
  go_loopw [8, 9, 10] (fun y z x wr => ∃ (k : Nat) (o : List Ky.En) (d : Bool), k ≤ r.length ∧ x = .int .i64 (k : Int) ∧ z = .bool d ∧ Hid ((r.take k).foldl (Ky.ist key val) ([], false) = (o, d)) ∧ Sat (RowE y o * (RowE (.slice ar r.length cr) r * F)) wr ∧ Io w wr) (fun _ _ x _ => r.length - (intOf x).toNat)
  case atStart => exact ⟨0, [], false, by omega, rfl, rfl, Lib.hid rfl, K1, I1⟩
  case round =>
    obtain ⟨k, o, d, hk, rfl, rfl, hs, Hk, Ik⟩ := hrel
    clear K1 I1
    have ol : o.length ≤ 1000 := by
      have h1 := Ky.ist_len key val (r.take k) ([], false)
      rw [hs.out, List.length_take] at h1
      have h2 := HRL.out
      have h0 : (([], false) : List Ky.En × Bool).1.length = 0 := rfl
      rw [h0] at h1
      simp only at h1
      omega
    have OL := Lib.hid ol
    by_cases hlt : k < r.length
    · have hlti : (k : Int) < (r.length : Int) := by omega
      have hk0 : (0 : Int) ≤ (k : Int) := by omega
      obtain ⟨b, off, x1, x2, rfl, hx, hc⟩ := HV.out k hlt
      obtain ⟨c0, c1⟩ := hc wr Hk.right
      have hn : (r.take (k + 1)).foldl (Ky.ist key val) ([], false) = Ky.ist key val (o, d) (x1, x2) := by
        rw [List.take_succ_eq_append_getElem hlt, List.foldl_append, hs.out, hx]
        rfl
      have HN := Lib.hid hn
      have HC := Lib.hid hc
      clear hc hx hs ol hn
      cases d with
      | true =>
        have HS : Hid ((r.take (k + 1)).foldl (Ky.ist key val) ([], false) = (o ++ [(x1, x2)], true)) := Lib.hid (by rw [HN.out]; simp [Ky.ist])
        clear HN
        go_wp2_with (at_builtin; refine wpList_append_rec Tryz.rowE encE_ok rfl (.tmp 37) (.tmp 42) rfl rfl Hk (by have := OL.out; omega) (x1, x2) rfl rfl ?_; intro v3 w3 H3 I3)
        go_roundw
        case rel => exact ⟨k + 1, _, _, by omega, by go_num, rfl, HS, H3, Ik.trans I3⟩
        case measure => simp [intOf]; omega
      | false =>
        cases h1 : Md.nlt key x1 with
        | true =>
          have h2' : Op.bytesLess x1.toList key.toList = false := nlt_asym h1
          have h3' : (x1.toList == key.toList) = false := beq_eq_false_iff_ne.2 fun e => Ky.nlt_ne h1 (nm_ext e).symm
          have HS : Hid ((r.take (k + 1)).foldl (Ky.ist key val) ([], false) = (o ++ [(key, val)] ++ [(x1, x2)], true)) := Lib.hid (by rw [HN.out]; simp [Ky.ist, h1])
          have OL2 : Hid ((o ++ [(key, val)]).length ≤ 2000) := Lib.hid (by rw [List.length_append, List.length_singleton]; have := OL.out; omega)
          clear HN h1
          go_wp2_with (first
            | (at_builtin; refine wpList_append_rec Tryz.rowE encE_ok rfl (.tmp 31) (.tmp 35) rfl rfl Hk (by have := OL.out; omega) (key, val) rfl rfl ?_; intro v3 w3 H3 I3; obtain ⟨a3, c3, hq⟩ := rowE_one H3; subst hq; have Z := HC.out _ H3.right; obtain ⟨d0, d1⟩ := Z)
            | (at_builtin; refine wpList_append_rec Tryz.rowE encE_ok rfl (.tmp 37) (.tmp 42) rfl rfl H3 (by have := OL2.out; omega) (x1, x2) rfl rfl ?_; intro v4 w4 H4 I4))
          go_roundw
          case rel => exact ⟨k + 1, _, _, by omega, by go_num, rfl, HS, H4, (Ik.trans I3).trans I4⟩
          case measure => simp [intOf]; omega
        | false =>
          have HS : Hid ((r.take (k + 1)).foldl (Ky.ist key val) ([], false) = (o ++ [(x1, x2)], false)) := Lib.hid (by rw [HN.out]; simp [Ky.ist, h1])
          cases h2 : Md.nlt x1 key with
          | true =>
            have h2' : Op.bytesLess x1.toList key.toList = true := h2
            clear HN h1 h2
            go_wp2_with (at_builtin; refine wpList_append_rec Tryz.rowE encE_ok rfl (.tmp 37) (.tmp 42) rfl rfl Hk (by have := OL.out; omega) (x1, x2) rfl rfl ?_; intro v3 w3 H3 I3)
            go_roundw
            case rel => exact ⟨k + 1, _, _, by omega, by go_num, rfl, HS, H3, Ik.trans I3⟩
            case measure => simp [intOf]; omega
          | false =>
            have h3' : (x1.toList == key.toList) = true := by rw [nlt_total h2 h1]; simp
            clear HN h1 h2
            go_wp2_with (at_builtin; refine wpList_append_rec Tryz.rowE encE_ok rfl (.tmp 37) (.tmp 42) rfl rfl Hk (by have := OL.out; omega) (x1, x2) rfl rfl ?_; intro v3 w3 H3 I3)
            go_roundw
            case rel => exact ⟨k + 1, _, _, by omega, by go_num, rfl, HS, H3, Ik.trans I3⟩
            case measure => simp [intOf]; omega
    · obtain rfl : k = r.length := by omega
      have hge : ¬ (r.length : Int) < (r.length : Int) := by omega
      have hf := HP.out
      rw [← HRR.out] at hf
      have hs' := hs.out
      rw [List.take_length] at hs'
      rw [hs'] at hf
      clear HV hs ol hs'
      cases d with
      | true =>
        have FIN := Lib.hid (HH.out _ _ (by rw [← hf]; exact Hk.mid2) Ik)
        clear hf
        go_wp2_with fail
        exact FIN.out
      | false =>
        have HF : Hid (o ++ [(key, val)] = Ky.put l key val) := Lib.hid hf
        clear hf
        go_wp2_with (at_builtin; refine wpList_append_rec Tryz.rowE encE_ok rfl (.tmp 46) (.tmp 50) rfl rfl Hk (by have := OL.out; omega) (key, val) rfl rfl ?_; intro v3 w3 H3 I3)
        refine HH.out _ _ ?_ (Ik.trans I3)
        rw [← HF.out]
        exact H3.mid2
end
end Go.Proofs.YthbbdicdcmjpiaaGreatDoor

/-
  Edges' keys beside other keys: a key of another kind put in, what lies below "A" and from "B" on. It proves no statement by itself.
-/
namespace Go.Proofs.YthbbdicdcmjpiaaGreatDoor
open Go.RowKit Go.Lib
set_option linter.unusedSimpArgs false
set_option linter.unusedVariables false
set_option linter.unusedSectionVars false
namespace Aj
open Ky
theorem isA_nlt {k : Nm} (h : isA k = true) : Md.nlt k pA = false ∧ Md.nlt k pB = true := by
  obtain ⟨e, _⟩ := isA_cut h
  have hA : pA.toList = [65] := by rw [ByteArray.toList_eq]; rfl
  have hB : pB.toList = [66] := by rw [ByteArray.toList_eq]; rfl
  have hl := toList_pA (cut k)
  rw [← e] at hl
  unfold Md.nlt
  rw [hl, hA, hB]
  constructor
  · cases hk : (cut k).toList <;> simp [Op.bytesLess]
  · simp [Op.bytesLess]
theorem scan_oth {es : List En} (hr : Right es) {a b : Nm} (h : ∀ x : En, isA x.1 = true → ¬ (Md.nlt x.1 a = false ∧ Tb.under b x = true)) : Tb.scan a b es = Tb.scan a b (oth es) := by
  refine right_ext (right_scan hr) (right_scan (right_oth hr)) fun x => ?_
  rw [mem_scan hr, mem_scan (right_oth hr), mem_oth]
  constructor
  · rintro ⟨h1, h2⟩
    refine ⟨⟨h1, ?_⟩, h2⟩
    cases e : isA x.1 with
    | false => rfl
    | true => exact absurd h2 (h x e)
  · rintro ⟨⟨h1, _⟩, h2⟩; exact ⟨h1, h2⟩
theorem Is.low {es : List En} {A T : List Pr} {M : List En} (s : Is es A T M) : Tb.scan ⟨#[]⟩ ⟨#[65]⟩ es = Tb.scan ⟨#[]⟩ ⟨#[65]⟩ M := by
  rw [scan_oth s.right, s.oth]
  rintro x hx ⟨_, h2⟩
  unfold Tb.under at h2
  have h3 : decide ((⟨#[65]⟩ : Nm).size = 0) = false := rfl
  have h4 : Md.nlt x.1 ⟨#[65]⟩ = false := (isA_nlt hx).1
  rw [h3, h4] at h2
  cases h2
theorem Is.high {es : List En} {A T : List Pr} {M : List En} (s : Is es A T M) : Tb.scan ⟨#[66]⟩ ⟨#[]⟩ es = Tb.scan ⟨#[66]⟩ ⟨#[]⟩ M := by
  rw [scan_oth s.right, s.oth]
  rintro x hx ⟨h1, _⟩
  have h4 : Md.nlt x.1 ⟨#[66]⟩ = true := (isA_nlt hx).2
  rw [h4] at h1
  cases h1
theorem Is.rightM {es : List En} {A T : List Pr} {M : List En} (s : Is es A T M) : Right M := by rw [← s.oth]; exact right_oth s.right
/-- A key that begins with another byte. -/
theorem isA_first {k : Nm} {b : UInt8} {r : List UInt8} (h : k.data.toList = b :: r) : isA k = decide (b = 65) := by
  by_cases e : b = 65
  · subst e
    rw [isA_of (r := r) (by rw [ByteArray.toList_eq]; exact h)]
    simp
  · rw [decide_eq_false e]
    cases hk : isA k with
    | false => rfl
    | true =>
      obtain ⟨e1, _⟩ := isA_cut hk
      have h2 := toList_pA (cut k)
      rw [← e1, ByteArray.toList_eq, h] at h2
      exact absurd (List.cons.inj h2).1 e
end Aj
theorem idx_any {k : ByteArray} {c : UInt8} {r : List UInt8} (hk : k.size ≤ 1000) (hc : k.data.toList = c :: r) (W : World) : (Instr.index 9 (.string k) (.int .i64 0)).run Tryz.prog W = .ok (.int .u8 (c.toNat : Int)) W := by
  have h0 : 0 < k.size := by
    have : k.size = k.data.toList.length := rfl
    rw [this, hc]; simp
  have e := run_index_string (P := Tryz.prog) W 9 k .i64 0 Tryz.underlying9
  rw [dif_pos ⟨by omega, by omega⟩] at e
  have e8 : k[0]'(by omega) = c := by
    have h1 : (k.data.toList)[0]? = some c := by rw [hc]; rfl
    rw [Array.getElem?_toList] at h1
    have h2 : k.data[0]? = some (k.data[0]'(by show 0 < k.size; omega)) := Array.getElem?_eq_getElem _
    rw [h2] at h1
    exact Option.some.inj h1
  rw [e]
  show Result.ok (Value.int IntKind.u8 ((k[0]'(by omega)).toNat : Int)) W = _
  rw [e8]
section
variable {a : Nat} {c : Cq} {F : Asn} {w : World} {R : Ending → World → Prop} {A T : List Pr} {M : List Ky.En} {q g : Nat}
theorem ajm_more {key val : ByteArray} (hc : Ky.chk key val = 0) (ha : Aj.isA key = false) (hk : c.k.n ≤ 3000) (hg : g ≤ 240) (hq : 60 ≤ q) (hroom : Hid (30 + (Tb.most q g : Int) < c.k.room)) (H : Sat (AjM a c A T M q g * F) w)
    (hR : ∀ w', Sat (AjM a c A T (Ky.put M key val) (q + Ky.one (key, val)) (g + 1) * F) w' → Io w w' → R (.returned (.int .i64 0)) w') :
    Calls Tryz.prog 24 #[.pointer (some ⟨c.tr, 0, none⟩), .string key, .string val] w R := by
  obtain ⟨es, s, H⟩ := sat_ajm.1 H
  have hl := Tb.loc_put hc
  refine ctput_any hk hg hq hc hl trivial (AjAt.tr H) fun x w' D I => ?_
  rcases D with ⟨rfl, H'⟩ | ⟨_, h1, _⟩
  · refine hR w' (sat_ajm.2 ⟨_, s.more hc ha, ?_⟩) I
    exact AjAt.mono (Nat.le_refl _) (by omega) (AjAt.of H')
  · have := hroom.out; omega
theorem ajm_low (hg : g ≤ 240) (hA : A.length ≤ 1000) (hM : M.length ≤ 1000) (H : Sat (AjM a c A T M q g * F) w)
    (hR : ∀ v w', Sat (RowE v (Tb.scan ⟨#[]⟩ ⟨#[65]⟩ M) * (AjM a c A T M q g * F)) w' → Io w w' → R (.returned (.tuple #[v, .int .i64 0])) w') :
    Calls Tryz.prog 26 #[.pointer (some ⟨c.tr, 0, none⟩), .string ⟨#[]⟩, .string ⟨#[65]⟩] w R := by
  obtain ⟨es, s, H⟩ := sat_ajm.1 H
  have hl := s.len
  refine ctscan_any ⟨#[]⟩ ⟨#[65]⟩ hg (by omega) (by decide) (AjAt.tr H) fun v w' H' I => ?_
  rw [s.low] at H'
  refine hR v w' ?_ I
  have H2 := AjAt.of (H'.of_eq (show _ = TrAt c es q g * (pts a (.cells #[.pointer (some ⟨c.tr, 0, none⟩)] 86 (0, 0)) * (RowE v (Tb.scan ⟨#[]⟩ ⟨#[65]⟩ M) * F)) from by unfold RowE; ac_rfl))
  exact (sat_ajm.2 ⟨es, s, H2⟩).of_eq (by unfold RowE; ac_rfl)
theorem ajm_high (hg : g ≤ 240) (hA : A.length ≤ 1000) (hM : M.length ≤ 1000) (H : Sat (AjM a c A T M q g * F) w)
    (hR : ∀ v w', Sat (RowE v (Tb.scan ⟨#[66]⟩ ⟨#[]⟩ M) * (AjM a c A T M q g * F)) w' → Io w w' → R (.returned (.tuple #[v, .int .i64 0])) w') :
    Calls Tryz.prog 26 #[.pointer (some ⟨c.tr, 0, none⟩), .string ⟨#[66]⟩, .string ⟨#[]⟩] w R := by
  obtain ⟨es, s, H⟩ := sat_ajm.1 H
  have hl := s.len
  refine ctscan_any ⟨#[66]⟩ ⟨#[]⟩ hg (by omega) (by decide) (AjAt.tr H) fun v w' H' I => ?_
  rw [s.high] at H'
  refine hR v w' ?_ I
  have H2 := AjAt.of (H'.of_eq (show _ = TrAt c es q g * (pts a (.cells #[.pointer (some ⟨c.tr, 0, none⟩)] 86 (0, 0)) * (RowE v (Tb.scan ⟨#[66]⟩ ⟨#[]⟩ M) * F)) from by unfold RowE; ac_rfl))
  exact (sat_ajm.2 ⟨es, s, H2⟩).of_eq (by unfold RowE; ac_rfl)
theorem AjM.rightM (H : Sat (AjM a c A T M q g * F) w) : Ky.Right M := by
  obtain ⟨es, s, H⟩ := sat_ajm.1 H
  exact s.rightM
end
end Go.Proofs.YthbbdicdcmjpiaaGreatDoor

/-
  adj.Parse of any entry, the document's Wrong, Pair, Key, Parse, by walks. It proves no statement by itself.
-/
namespace Go.Proofs.YthbbdicdcmjpiaaGreatDoor
open Go.RowKit Go.Lib
set_option linter.unusedSimpArgs false
set_option linter.unusedVariables false
set_option linter.unusedSectionVars false
section
variable {F : Asn} {w : World} {R : Ending → World → Prop}
end
namespace Aj
open Ky
end Aj
section
variable {F : Asn} {w : World} {R : Ending → World → Prop}
end
end Go.Proofs.YthbbdicdcmjpiaaGreatDoor

/-
  law 17's asked, by its walk. It proves no statement by itself.
-/
namespace Go.Proofs.YthbbdicdcmjpiaaGreatDoor
open Go.RowKit Go.Lib
set_option linter.unusedSimpArgs false
set_option linter.unusedVariables false
set_option linter.unusedSectionVars false
namespace Aj
/-- One beside a vertex, with its mark. -/
def mk (T : List Pr) (u : Int) (x : Int) : Nr := (x, decide (Md.pair u x ∈ T))
end Aj
section
variable {a s : Nat} {c : Cq} {F : Asn} {w : World} {R : Ending → World → Prop} {A T : List Pr} {q g : Nat}
theorem ask_tree {vt : Value} {X Y : Asn} {W : World} (hT : T.length ≤ 1000) (H : Sat (X * (RowP vt T * Y)) W) : ReadsP (X * (RowP vt T * Y)) vt T :=
  let ⟨x, c, h1, h2, h3⟩ := readsP_row (H.of_eq (show _ = RowP vt T * (X * Y) from by unfold RowP; ac_rfl)) (by omega)
  ⟨x, c, h1, h2, h3.imp id fun ⟨b, off, e, k⟩ => ⟨b, off, e, fun w hw => k w (hw.of_eq (show _ = RowP vt T * (X * Y) from by unfold RowP; ac_rfl))⟩⟩
end
end Go.Proofs.YthbbdicdcmjpiaaGreatDoor

/-
  law 17's asked at a vertex, by its walk. It proves no statement by itself.
-/
namespace Go.Proofs.YthbbdicdcmjpiaaGreatDoor
open Go.RowKit Go.Lib
set_option linter.unusedSimpArgs false
set_option linter.unusedVariables false
set_option linter.unusedSectionVars false
section
variable {a s : Nat} {c : Cq} {F : Asn} {w : World} {R : Ending → World → Prop} {A T : List Pr} {q g : Nat}
end
end Go.Proofs.YthbbdicdcmjpiaaGreatDoor

/-
  AdjCounts, by its walk. It proves no statement by itself.
-/
namespace Go.Proofs.YthbbdicdcmjpiaaGreatDoor
open Go.RowKit Go.Lib
set_option linter.unusedSimpArgs false
set_option linter.unusedVariables false
set_option linter.unusedSectionVars false
/-! ### Rows of acts: K, U, V, T. -/
theorem readsA17_len {F : Asn} {v : Value} {l : List Act17} (h : Reads encA17 F v l) : ∃ a c, v = .slice a l.length c ∧ (l.length : Int) ≤ 9223372036854775807 := by
  obtain ⟨a, c, h1, h2, _⟩ := h
  exact ⟨a, c, h1, by omega⟩
theorem readsA17_get {F : Asn} {a : Option Addr} {n c : Nat} {l : List Act17} (hl : Reads encA17 F (.slice a n c) l) (k : Nat) (hk : k < l.length) : ∃ b off x1 x2 x3 x4, a = some ⟨b, off, none⟩ ∧ l[k] = ((x1, x2, x3), x4) ∧ ∀ w, Sat F w →
    w.cell? ⟨b, off + k * 4, none⟩ = some (.int .i64 x1) ∧ w.cell? ⟨b, off + k * 4 + 1, none⟩ = some (.int .i64 x2) ∧ w.cell? ⟨b, off + k * 4 + 2, none⟩ = some (.int .i64 x3) ∧ w.cell? ⟨b, off + k * 4 + 3, none⟩ = some (.bool x4) := by
  obtain ⟨b, off, h1, h2⟩ := hl.get encA17_ok k hk
  refine ⟨b, off, _, _, _, _, h1, rfl, fun w hw => ⟨?_, ?_, ?_, ?_⟩⟩
  · have := h2 w hw 0 _ (by omega) rfl
    simpa using this
  · have := h2 w hw 1 _ (by omega) rfl
    simpa using this
  · have := h2 w hw 2 _ (by omega) rfl
    simpa using this
  · have := h2 w hw 3 _ (by omega) rfl
    simpa using this
section
variable {a : Nat} {c : Cq} {F : Asn} {w : World} {R : Ending → World → Prop} {A T : List Pr} {M : List Ky.En} {q g : Nat}
theorem AjM.ok (H : Sat (AjM a c A T M q g * F) w) : Eg.Srt A ∧ ∀ p ∈ A, 0 ≤ p.1 ∧ p.1 < p.2 ∧ p.2 < 1048576 := by
  obtain ⟨es, s, H⟩ := sat_ajm.1 H
  exact ⟨s.sim.sa, s.sim.ok⟩
theorem most_n {n q g : Nat} (hc : Hid (c.k.n = n)) (h : 30 + Tb.most q g < n) : Hid (30 + (Tb.most q g : Int) < c.k.room) := Lib.hid (by
  have := hc.out
  unfold Tq.room
  rw [this]
  omega)
theorem room_counts {k : Nat} (hc : Hid (c.k.n = 2000)) (hk : k ≤ 80) : Hid (30 + (Tb.most (60 + 24 * k + 12) (2 * k + 1) : Int) < c.k.room) := most_n hc (by
  unfold Tb.most
  have h1 : (2 * k + 1) / 11 + 2 ≤ 16 := by omega
  have h2 := Nat.mul_le_mul (show 60 + 24 * k + 12 ≤ 2000 by omega) h1
  omega)
theorem room_counts2 {k : Nat} (hc : Hid (c.k.n = 2000)) (hk : k ≤ 80) : Hid (30 + (Tb.most (60 + 24 * k) (2 * k) : Int) < c.k.room) := most_n hc (by
  unfold Tb.most
  have h1 : 2 * k / 11 + 2 ≤ 16 := by omega
  have h2 := Nat.mul_le_mul (show 60 + 24 * k ≤ 2000 by omega) h1
  omega)
end
theorem put_le {A : List Pr} {p : Pr} {k : Nat} (h : A.length ≤ k) (e : Int) : (if e = 0 then Eg.put A p else A).length ≤ k + 1 := by
  have := Md.put_len1 A p
  split <;> omega
section
variable {F : Asn} {w : World} {R : Ending → World → Prop}
end
end Go.Proofs.YthbbdicdcmjpiaaGreatDoor
