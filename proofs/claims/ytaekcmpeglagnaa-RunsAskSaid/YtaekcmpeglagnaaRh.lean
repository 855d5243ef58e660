/-
  Runs: Has, Count, rest, by their walks. It proves no statement by itself.
-/
import Derived.Test.YtaekcmpeglagnaaRn
namespace Go.Proofs.Ytaekcmpeglagnaa
open Go.RowKit Go.Lib
set_option linter.unusedSimpArgs false
set_option linter.unusedVariables false

section
variable {F : Asn} {w : World} {R : Ending → World → Prop} {l m : List Rn} {v u : Value}
set_option maxRecDepth 100000 in
theorem has1_any {b : Nat} {n : Int} (x1 x2 : Int) (H : Sat (pts b (.cells #[.int .i64 n] 3 (0, 0)) * F) w) {d : Bool} (hd : Hid (d = decide (x1 ≤ n ∧ n ≤ x2)))
    (h : ∀ w', Sat (pts b (.cells #[.int .i64 n] 3 (0, 0)) * F) w' → Io w w' → R (.returned (.bool d)) w') :
    Calls Try.prog 28 #[.agg #[.int .i64 x1, .int .i64 x2], .pointer (some ⟨b, 0, none⟩)] w R := by
  have c0 := Sat.read H.left.at 0
  simp only [List.getElem?_toArray, List.getElem?_cons_zero] at c0
  have fin := h _ (H.alloc (.cells #[.int .i64 x1, .int .i64 x2] 28)) ((Io.refl w).alloc _)
  have hb := Sat.read (H.alloc (.cells #[.int .i64 x1, .int .i64 x2] 28)).left.at 0
  simp only [List.getElem?_toArray, List.getElem?_cons_zero] at hb
  clear h H
  by_cases h1 : x1 ≤ n
  · by_cases h2 : n ≤ x2
    · obtain rfl : d = true := by rw [hd.out]; exact decide_eq_true ⟨h1, h2⟩
      go_enter Try.func28, Try.ntmps28
      go_wp2_with fail
      exact fin
    · obtain rfl : d = false := by rw [hd.out]; exact decide_eq_false (fun k => h2 k.2)
      go_enter Try.func28, Try.ntmps28
      go_wp2_with fail
      exact fin
  · obtain rfl : d = false := by rw [hd.out]; exact decide_eq_false (fun k => h1 k.1)
    go_enter Try.func28, Try.ntmps28
    go_wp2_with fail
    exact fin
set_option maxRecDepth 100000 in
set_option maxHeartbeats 2000000 in
theorem index_any {b : Nat} {n : Int} (hv : ReadsR F v l) (H : Sat (pts b (.cells #[.int .i64 n] 3 (0, 0)) * F) w) {d : Bool} (hd : Hid (d = decide (Rs.Mem n l)))
    (h : ∀ (i : Int) w', (d = true ∧ 0 ≤ i) ∨ (d = false ∧ i = -1) → Sat (pts b (.cells #[.int .i64 n] 3 (0, 0)) * F) w' → Io w w' → R (.returned (.int .i64 i)) w') :
    Calls Try.prog 36 #[v, .func (.func 28) #[] #[.pointer (some ⟨b, 0, none⟩)]] w R := by
  obtain ⟨a, c, rfl, hm⟩ := readsR_len hv
  have HV := Lib.hid (fun k hk => readsR_get hv k hk)
  have HH := Lib.hid h
  clear h hv
  go_enter Try.func36, Try.ntmps36
  go_wp2_with fail
  go_loopw [8] (fun x wr => ∃ (k : Nat), k ≤ l.length ∧ x = .int .i64 (k : Int) ∧ Hid (¬ Rs.Mem n (l.take k)) ∧ Sat (pts b (.cells #[.int .i64 n] 3 (0, 0)) * F) wr ∧ Io w wr) (fun x _ => l.length - (intOf x).toNat)
  case atStart => exact ⟨0, by omega, rfl, Lib.hid (fun k => Rs.mem_nil _ k), H, Io.refl _⟩
  case round =>
    obtain ⟨k, hk, rfl, hs, Hk, Ik⟩ := hrel
    by_cases hlt : k < l.length
    · have hlti : (k : Int) < (l.length : Int) := by omega
      obtain ⟨b', off, x1, x2, rfl, hx, hc⟩ := HV.out k hlt
      obtain ⟨c0, c1⟩ := hc wr Hk.right
      have ht : Rs.Mem n (l.take (k + 1)) ↔ Rs.Mem n (l.take k) ∨ (x1 ≤ n ∧ n ≤ x2) := by
        rw [List.take_succ_eq_append_getElem hlt, Rs.mem_append, Rs.mem_one, hx]
      obtain ⟨e, he⟩ : ∃ e, Hid (e = decide (x1 ≤ n ∧ n ≤ x2)) := ⟨_, Lib.hid rfl⟩
      clear hc hx
      cases e with
      | true =>
        have hall : Rs.Mem n l := by
          obtain ⟨r, hr, z⟩ := ht.2 (.inr (of_decide_eq_true he.out.symm))
          exact ⟨r, List.mem_of_mem_take hr, z⟩
        obtain rfl : d = true := by rw [hd.out]; exact decide_eq_true hall
        have hk0 : (0 : Int) ≤ (k : Int) := by omega
        clear hs ht hall HV
        go_wp2_with (go_at_call 28; with_reducible refine has1_any x1 x2 Hk he ?_; intro w2 H2 I2)
        exact HH.out _ _ (by simp) H2 (Ik.trans I2)
      | false =>
        have hno : Hid (¬ Rs.Mem n (l.take (k + 1))) := Lib.hid (fun z => (ht.1 z).elim hs.out (of_decide_eq_false he.out.symm))
        clear hs ht
        go_wp2_with (go_at_call 28; with_reducible refine has1_any x1 x2 Hk he ?_; intro w2 H2 I2)
        go_roundw
        case rel => exact ⟨k + 1, by omega, by go_num, hno, H2, Ik.trans I2⟩
        case measure => simp [intOf]; omega
    · obtain rfl : k = l.length := by omega
      have hge : ¬ (l.length : Int) < (l.length : Int) := by omega
      obtain rfl : d = false := by rw [hd.out]; exact decide_eq_false (by have := hs.out; rwa [List.take_length] at this)
      clear HV
      go_wp2_with fail
      exact HH.out _ _ (by simp) Hk Ik
set_option maxRecDepth 100000 in
theorem contains_any {b : Nat} {n : Int} (hv : ReadsR F v l) (H : Sat (pts b (.cells #[.int .i64 n] 3 (0, 0)) * F) w) {d : Bool} (hd : Hid (d = decide (Rs.Mem n l)))
    (h : ∀ w', Sat (pts b (.cells #[.int .i64 n] 3 (0, 0)) * F) w' → Io w w' → R (.returned (.bool d)) w') :
    Calls Try.prog 27 #[v, .func (.func 28) #[] #[.pointer (some ⟨b, 0, none⟩)]] w R := by
  have HH := Lib.hid h
  clear h
  cases d with
  | true =>
    go_enter Try.func27, Try.ntmps27
    go_wp2_with (go_at_call 36; with_reducible refine index_any hv H hd ?_; intro i w2 hi H2 I2; have hi0 : 0 ≤ i := (by rcases hi with ⟨_, h⟩ | ⟨h, _⟩; exact h; cases h); clear hi)
    exact HH.out _ H2 I2
  | false =>
    go_enter Try.func27, Try.ntmps27
    go_wp2_with (go_at_call 36; with_reducible refine index_any hv H hd ?_; intro i w2 hi H2 I2; have hi0 : i = -1 := (by rcases hi with ⟨h, _⟩ | ⟨_, h⟩; cases h; exact h); subst hi0; clear hi)
    exact HH.out _ H2 I2
set_option maxRecDepth 100000 in
set_option maxHeartbeats 1000000 in
theorem has_any (hv : ReadsR F v l) (n : Int) {d : Bool} (hd : Hid (d = decide (Rs.Has l n))) (H : Sat F w) (h : ∀ w', Sat F w' → Io w w' → R (.returned (.bool d)) w') :
    Calls Try.prog 12 #[v, .int .i64 n] w R := by
  have HB := H.new (.cells #[.int .i64 n] 3)
  have IB := (Io.refl w).alloc (.cells #[.int .i64 n] 3)
  have HH := Lib.hid h
  clear h
  by_cases h0 : 0 ≤ n
  · by_cases h1 : n ≤ 4294967295
    · have hd2 : Hid (d = decide (Rs.Mem n l)) := Lib.hid (by
        rw [hd.out, decide_eq_decide]
        exact ⟨fun k => k.2.2, fun k => ⟨h0, h1, k⟩⟩)
      go_enter Try.func12, Try.ntmps12
      go_wp2_with (go_at_call 27; with_reducible refine contains_any hv HB hd2 ?_; intro w2 H2 I2)
      all_goals exact HH.out _ H2.right (IB.trans I2)
    · obtain rfl : d = false := by rw [hd.out]; exact decide_eq_false (fun k => h1 k.2.1)
      go_enter Try.func12, Try.ntmps12
      go_wp2_with fail
      exact HH.out _ HB.right IB
  · obtain rfl : d = false := by rw [hd.out]; exact decide_eq_false (fun k => h0 k.1)
    go_enter Try.func12, Try.ntmps12
    go_wp2_with fail
    exact HH.out _ HB.right IB
set_option maxRecDepth 100000 in
set_option maxHeartbeats 4000000 in
theorem count_any (hv : ReadsR F v l) (hl : l.length ≤ 10000) {n : Int} (hn : Hid (n = Rs.count l)) (H : Sat F w) (h : ∀ w', Sat F w' → Io w w' → R (.returned (.int .i64 n)) w') :
    Calls Try.prog 14 #[v] w R := by
  have HH := Lib.hid h
  have HC := Lib.hid (Rs.canon_norm l)
  have hnl := Rs.norm_len l
  have hn2 : Hid (n = Rs.len (Rs.norm l)) := Lib.hid hn.out
  clear h hn
  go_enter Try.func14, Try.ntmps14
  go_wp2_with (go_at_call 19; with_reducible refine norm_any hv hl H ?_; intro v1 w1 H1 I1; obtain ⟨a, c, rfl, hm⟩ := readsR_len (Reads.of_row H1 (by omega)))
  have rv := Reads.of_row H1 (by omega)
  generalize Rs.norm l = S at *
  have HV := Lib.hid (fun k hk => readsR_get rv k hk)
  clear rv hv
  go_loopw [3, 9] (fun y x wr => ∃ (k : Nat) (t : Int), k ≤ S.length ∧ x = .int .i64 (k : Int) ∧ y = .int .i64 t ∧ Hid (Rs.len (S.take k) = t) ∧ Sat (RowR (.slice a S.length c) S * F) wr ∧ Io w wr) (fun _ x _ => S.length - (intOf x).toNat)
  case atStart => exact ⟨0, 0, by omega, rfl, rfl, Lib.hid rfl, H1, I1⟩
  case round =>
    obtain ⟨k, t, hk, rfl, rfl, hs, Hk, Ik⟩ := hrel
    clear H1 I1
    have hb := Rs.len_bound HC.out k
    rw [hs.out] at hb
    simp only [Rs.most] at hb
    obtain ⟨t0, t1⟩ := hb
    by_cases hlt : k < S.length
    · have hlti : (k : Int) < (S.length : Int) := by omega
      obtain ⟨b, off, x1, x2, rfl, hx, hc⟩ := HV.out k hlt
      obtain ⟨c0, c1⟩ := hc wr Hk
      obtain ⟨y0, y1, y2⟩ := HC.out.1 S[k] (List.getElem_mem hlt)
      rw [hx] at y0 y1 y2
      simp only [Rs.most] at y0 y1 y2
      have HS : Hid (Rs.len (S.take (k + 1)) = t + (x2 - x1 + 1)) := Lib.hid (by rw [Rs.len_take _ _ hlt, hs.out, hx])
      have HB := Hk.alloc (.cells #[.int .i64 x1, .int .i64 x2] 28)
      have IB := Ik.alloc (.cells #[.int .i64 x1, .int .i64 x2] 28)
      clear hc hx hs
      go_wp2_with fail
      go_roundw
      case rel => exact ⟨k + 1, t + (x2 - x1 + 1), by omega, by go_num, by go_num, HS, HB, IB⟩
      case measure => simp [intOf]; omega
    · obtain rfl : k = S.length := by omega
      have hge : ¬ (S.length : Int) < (S.length : Int) := by omega
      have he : n = t := by rw [hn2.out, ← hs.out, List.take_length]
      subst he
      clear HV
      go_wp2_with fail
      exact HH.out _ Hk.right Ik
set_option maxRecDepth 100000 in
set_option maxHeartbeats 4000000 in
theorem rest_any (hv : ReadsR F v l) (hl : l.length ≤ 10000) (H : Sat F w) (h : ∀ v' w', Sat (RowR v' (Rs.rest l) * F) w' → Io w w' → R (.returned v') w') :
    Calls Try.prog 34 #[v] w R := by
  have HH := Lib.hid h
  have HC := Lib.hid (Rs.canon_norm l)
  have hnl := Rs.norm_len l
  have hn2 : Hid (Rs.rest l = Rs.rend ((Rs.norm l).foldl Rs.rstep ([], 0))) := Lib.hid rfl
  clear h
  go_enter Try.func34, Try.ntmps34
  go_wp2_with (go_at_call 19; with_reducible refine norm_any hv hl H ?_; intro v1 w1 H1 I1; obtain ⟨a, c, rfl, hm⟩ := readsR_len (Reads.of_row H1 (by omega)))
  have rv := Reads.of_row H1 (by omega)
  generalize Rs.norm l = S at *
  have HV := Lib.hid (fun k hk => readsR_get rv k hk)
  clear rv hv
  go_loopw [3, 4, 10] (fun y z x wr => ∃ (k : Nat) (o : List Rn) (f : Int), k ≤ S.length ∧ x = .int .i64 (k : Int) ∧ z = .int .i64 f ∧ Hid ((S.take k).foldl Rs.rstep ([], 0) = (o, f)) ∧ Sat (RowR y o * (RowR (.slice a S.length c) S * F)) wr ∧ Io w wr) (fun _ _ x _ => S.length - (intOf x).toNat)
  case atStart => exact ⟨0, [], 0, by omega, rfl, rfl, Lib.hid rfl, row_nilR H1, I1⟩
  case round =>
    obtain ⟨k, o, f, hk, rfl, rfl, hs, Hk, Ik⟩ := hrel
    clear H1 I1
    have hf := Rs.rfold_from (S.take k) ([], 0) (fun r hr => HC.out.1 r (List.mem_of_mem_take hr)) ⟨Int.le_refl _, by decide⟩
    rw [hs.out] at hf
    simp only [Rs.most] at hf
    obtain ⟨f0, f1⟩ := hf
    have ol : o.length ≤ 10000 := by
      have := Rs.rfold_len (S.take k) ([], 0)
      rw [hs.out, List.length_take] at this
      simp at this
      omega
    have OL := Lib.hid ol
    clear ol
    by_cases hlt : k < S.length
    · have hlti : (k : Int) < (S.length : Int) := by omega
      obtain ⟨b, off, x1, x2, rfl, hx, hc⟩ := HV.out k hlt
      obtain ⟨c0, c1⟩ := hc wr Hk.right
      obtain ⟨y0, y1, y2⟩ := HC.out.1 S[k] (List.getElem_mem hlt)
      rw [hx] at y0 y1 y2
      simp only [Rs.most] at y0 y1 y2
      have hs' : (S.take (k + 1)).foldl Rs.rstep ([], 0) = Rs.rstep (o, f) (x1, x2) := by rw [Rs.fold_take _ _ _ _ hlt, hs.out, hx]
      have HB := (Hk.new (.cells #[.int .i64 x1, .int .i64 x2] 28)).of_eq (show _ = RowR u3 o * (pts wr.heap.size (.cells #[.int .i64 x1, .int .i64 x2] 28 (0, 0)) * (RowR (.slice (some ⟨b, off, none⟩) S.length c) S * F)) from by ac_rfl)
      have IB := Ik.alloc (.cells #[.int .i64 x1, .int .i64 x2] 28)
      clear hc hx hs
      by_cases hj : f < x1
      · have HS : Hid ((S.take (k + 1)).foldl Rs.rstep ([], 0) = (o ++ [(f, x1 - 1)], x2 + 1)) := Lib.hid (by rw [hs']; unfold Rs.rstep; simp only [if_pos hj])
        clear hs'
        go_wp2_with (at_builtin; refine wpList_append_rec Try.rowR encR_ok rfl (.tmp 18) (.tmp 24) rfl rfl HB (by have := OL.out; omega) (f, x1 - 1) rfl (by simp) ?_; intro v3 w3 H3 I3; obtain ⟨q0, q1⟩ := box_cells H3.right)
        go_roundw
        case rel => exact ⟨k + 1, _, x2 + 1, by omega, by go_num, by go_num, HS, H3.mid, IB.trans I3⟩
        case measure => simp [intOf]; omega
      · have HS : Hid ((S.take (k + 1)).foldl Rs.rstep ([], 0) = (o, x2 + 1)) := Lib.hid (by rw [hs']; unfold Rs.rstep; simp only [if_neg hj])
        clear hs'
        go_wp2_with fail
        go_roundw
        case rel => exact ⟨k + 1, o, x2 + 1, by omega, by go_num, by go_num, HS, HB.mid, IB⟩
        case measure => simp [intOf]; omega
    · obtain rfl : k = S.length := by omega
      have hge : ¬ (S.length : Int) < (S.length : Int) := by omega
      have he : Rs.rest l = Rs.rend (o, f) := by rw [hn2.out, ← hs.out, List.take_length]
      clear HV
      by_cases hj : f ≤ 4294967295
      · have he2 : Hid (Rs.rest l = o ++ [(f, 4294967295)]) := Lib.hid (he.trans (by unfold Rs.rend; rw [if_pos (show ((o, f) : List Rn × Int).2 ≤ Rs.most from hj)]; rfl))
        clear he
        go_wp2_with (at_builtin; refine wpList_append_rec Try.rowR encR_ok rfl (.tmp 32) (.tmp 35) rfl rfl Hk (by have := OL.out; omega) (f, 4294967295) rfl rfl ?_; intro v3 w3 H3 I3)
        refine HH.out _ _ ?_ (Ik.trans I3)
        rw [he2.out]
        exact H3.mid
      · have he2 : Hid (Rs.rest l = o) := Lib.hid (he.trans (by unfold Rs.rend; rw [if_neg (show ¬ ((o, f) : List Rn × Int).2 ≤ Rs.most from hj)]))
        clear he
        go_wp2_with fail
        refine HH.out _ _ ?_ Ik
        rw [he2.out]
        exact Hk.mid
end
end Go.Proofs.Ytaekcmpeglagnaa
