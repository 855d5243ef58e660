/-
  Rows of whole numbers; the document's has, put, Members, Joined, by their walks. It proves no statement by itself.
-/
import Derived.Test.YtabpgejjnphfcaaGreatQ04
import Derived.Test.YtabpgejjnphfcaaGreatQ05
import Derived.Test.YtabpgejjnphfcaaGreatQ07
import Derived.Test.YtabpgejjnphfcaaGreatQ01
import Derived.Lib.Hide
namespace Go.Proofs.YtabpgejjnphfcaaGreat
open Go.RowKit Go.Lib
set_option linter.unusedSimpArgs false
set_option linter.unusedVariables false

def encI (x : Int) : List Value := [.int .i64 x]
theorem encI_ok : Enc encI 1 := ⟨fun _ => rfl, fun x u hu => by simp [encI] at hu; subst hu; rfl⟩
theorem Tryz.rowI : RowTy Tryz.prog 26 3 1 8 := ⟨Tryz.underlying26, ⟨.int .i64 0, rfl, by kernel_rfl⟩, by omega⟩
abbrev RowI (v : Value) (l : List Int) : Asn := RowOf 3 1 encI v l
abbrev ReadsI (F : Asn) (v : Value) (l : List Int) : Prop := Reads encI F v l
theorem readsI_get {F : Asn} {a : Option Addr} {n c : Nat} {l : List Int} (hl : ReadsI F (.slice a n c) l) (k : Nat) (hk : k < l.length) : ∃ b off x, a = some ⟨b, off, none⟩ ∧ l[k] = x ∧ ∀ w, Sat F w → w.cell? ⟨b, off + k, none⟩ = some (.int .i64 x) := by
  obtain ⟨b, off, h1, h2⟩ := hl.get encI_ok k hk
  refine ⟨b, off, _, h1, rfl, fun w hw => ?_⟩
  have := h2 w hw 0 _ (by omega) rfl
  simpa using this
theorem readsI_len {F : Asn} {v : Value} {l : List Int} (h : ReadsI F v l) : ∃ a c, v = .slice a l.length c ∧ (l.length : Int) ≤ 9223372036854775807 := by
  obtain ⟨a, c, h1, h2, _⟩ := h
  exact ⟨a, c, h1, by omega⟩
theorem row_nilI {F : Asn} {w : World} (H : Sat F w) : Sat (RowI (.slice none 0 0) [] * F) w := rowOf_nil H
theorem row_oneI {F : Asn} {w : World} {b : Nat} {x : Int} (H : Sat (pts b (.cells #[.int .i64 x] 3 (0, 0)) * F) w) : Sat (RowI (.slice (some ⟨b, 0, none⟩) 1 1) [x] * F) w := by
  unfold RowI RowOf
  exact sat_row.2 ⟨rfl, .inr ⟨b, 1, _, rfl, Nat.le_refl _, by unfold maxLen; omega, rfl, rfl, H⟩⟩
theorem mid_asn {A B C : Asn} {w : World} (h : Sat (A * (B * C)) w) : Sat (A * C) w := (h.of_eq (show A * (B * C) = B * (A * C) from by ac_rfl)).right
theorem Gr.pst_len (n : Int) : ∀ (l : List Int) (s : List Int × Bool), (l.foldl (Gr.pst n) s).1.length ≤ s.1.length + 2 * l.length
  | [], s => by simp
  | y :: l, s => by
    rw [List.foldl_cons]
    have h1 := Gr.pst_len n l (Gr.pst n s y)
    have h2 : (Gr.pst n s y).1.length ≤ s.1.length + 2 := by unfold Gr.pst; split <;> simp
    rw [List.length_cons]
    omega
theorem Gr.fold_len (l : List (Int × Int)) (v : Int) (k i : Nat) : ((l.take i).foldl Gr.mst (Gr.itr l v k)).length ≤ l.length + 1 := by
  have h := Gr.fold_few (l := l) (l.take i) (fun p hp => List.mem_of_mem_take hp) (Gr.itr_facts l v k).2.2.1
  have h5 : Gr.within l ((l.take i).foldl Gr.mst (Gr.itr l v k)) ≤ l.length := List.countP_le_length
  omega
theorem Gr.take_fold {α β : Type} (f : β → α → β) (l : List α) (s : β) (k : Nat) (hk : k < l.length) : (l.take (k + 1)).foldl f s = f ((l.take k).foldl f s) l[k] := by
  rw [List.take_succ_eq_append_getElem hk, List.foldl_append]
  rfl
section
variable {F : Asn} {w : World} {R : Ending → World → Prop} {l : List Int} {v : Value}
set_option maxRecDepth 100000 in
set_option maxHeartbeats 1000000 in
theorem ihas_any (hv : ReadsI F v l) (n : Int) {d : Bool} (hd : Hid (d = decide (n ∈ l))) (H : Sat F w) (h : ∀ w', Sat F w' → Io w w' → R (.returned (.bool d)) w') : Calls Tryz.prog 29 #[v, .int .i64 n] w R := by
  obtain ⟨a, c, rfl, hm⟩ := readsI_len hv
  have HV := Lib.hid (fun k hk => readsI_get hv k hk)
  have HH := Lib.hid h
  clear h hv
  go_enter Tryz.func29, Tryz.ntmps29
  go_wp2_with fail
  go_loopw [5] (fun x wr => ∃ (k : Nat), k ≤ l.length ∧ x = .int .i64 (k : Int) ∧ Hid (n ∉ l.take k) ∧ Sat F wr ∧ Io w wr) (fun x _ => l.length - (intOf x).toNat)
  case atStart => exact ⟨0, by omega, rfl, Lib.hid (by simp), H, Io.refl _⟩
  case round =>
    obtain ⟨k, hk, rfl, hs, Hk, Ik⟩ := hrel
    by_cases hlt : k < l.length
    · have hlti : (k : Int) < (l.length : Int) := by omega
      have hk0 : (0 : Int) ≤ (k : Int) := by omega
      obtain ⟨b, off, x, rfl, hx, hc⟩ := HV.out k hlt
      have c0 := hc wr Hk
      by_cases e : x = n
      · subst e
        obtain rfl : d = true := by rw [hd.out]; exact decide_eq_true (hx ▸ List.getElem_mem hlt)
        clear hc hx hs
        go_wp2_with fail
        exact HH.out _ Hk Ik
      · have hs' : Hid (n ∉ l.take (k + 1)) := Lib.hid (by
          rw [List.take_succ_eq_append_getElem hlt, List.mem_append, hx]
          rintro (h | h)
          · exact hs.out h
          · exact e (List.mem_singleton.1 h).symm)
        clear hc hx hs
        go_wp2_with fail
        go_roundw
        case rel => exact ⟨k + 1, by omega, by go_num, hs', Hk, Ik⟩
        case measure => simp [intOf]; omega
    · obtain rfl : k = l.length := by omega
      have hge : ¬ (l.length : Int) < (l.length : Int) := by omega
      have hn := hs.out
      rw [List.take_length] at hn
      obtain rfl : d = false := by rw [hd.out]; exact decide_eq_false hn
      clear HV hn hs
      go_wp2_with fail
      exact HH.out _ Hk Ik
set_option maxRecDepth 100000 in
set_option maxHeartbeats 2000000 in
theorem iput_any (hv : ReadsI F v l) (hl : l.length ≤ 1000) (n : Int) {r : List Int} (hr : Hid (r = Gr.ins l n)) (H : Sat F w) (h : ∀ v' w', Sat (RowI v' r * F) w' → Io w w' → R (.returned v') w') : Calls Tryz.prog 30 #[v, .int .i64 n] w R := by
  obtain ⟨a, c, rfl, hm⟩ := readsI_len hv
  have HV := Lib.hid (fun k hk => readsI_get hv k hk)
  have HH := Lib.hid h
  obtain ⟨d0, hd0⟩ : ∃ d, Hid (d = decide (n ∈ l)) := ⟨_, Lib.hid rfl⟩
  clear h
  go_enter Tryz.func30, Tryz.ntmps30
  go_wp2_with (go_at_call 29; with_reducible refine ihas_any hv n hd0 H ?_; intro w1 H1 I1)
  clear hv
  go_loopw [5, 6, 7] (fun y z x wr => ∃ (k : Nat) (o : List Int) (d : Bool), k ≤ l.length ∧ x = .int .i64 (k : Int) ∧ z = .bool d ∧ Hid ((l.take k).foldl (Gr.pst n) ([], d0) = (o, d)) ∧ Sat (RowI y o * F) wr ∧ Io w wr) (fun _ _ x _ => l.length - (intOf x).toNat)
  case atStart => exact ⟨0, [], d0, by omega, rfl, rfl, Lib.hid rfl, row_nilI H1, I1⟩
  case round =>
    obtain ⟨k, o, d, hk, rfl, rfl, hs, Hk, Ik⟩ := hrel
    clear H1 I1
    have ol : o.length ≤ 2000 := by
      have := Gr.pst_len n (l.take k) ([], d0)
      rw [hs.out, List.length_take] at this
      simp at this
      omega
    have OL := Lib.hid ol
    clear ol
    by_cases hlt : k < l.length
    · have hlti : (k : Int) < (l.length : Int) := by omega
      have hk0 : (0 : Int) ≤ (k : Int) := by omega
      obtain ⟨b, off, x, rfl, hx, hc⟩ := HV.out k hlt
      have c0 := hc wr Hk.right
      have hs' : (l.take (k + 1)).foldl (Gr.pst n) ([], d0) = Gr.pst n (o, d) x := by rw [Gr.take_fold _ _ _ _ hlt, hs.out, hx]
      clear hx hs
      cases d with
      | false =>
        by_cases hj : n < x
        · have HS : Hid ((l.take (k + 1)).foldl (Gr.pst n) ([], d0) = (o ++ [n] ++ [x], true)) := Lib.hid (by rw [hs']; simp [Gr.pst, hj])
          have HC := Lib.hid hc
          clear hs' hc
          go_wp2_with (at_builtin; first
            | (refine wpList_append_rec Tryz.rowI encI_ok rfl (.tmp 27) (.tmp 29) rfl rfl Hk (by have := OL.out; omega) n rfl (by simp) ?_; intro v3 w3 H3 I3; have e0 := HC.out w3 H3.right)
            | (refine wpList_append_rec Tryz.rowI encI_ok rfl (.tmp 31) (.tmp 36) rfl rfl H3 (by have := OL.out; simp; omega) x rfl (by simp) ?_; intro v4 w4 H4 I4))
          go_roundw
          case rel => exact ⟨k + 1, _, true, by omega, by go_num, rfl, HS, H4, (Ik.trans I3).trans I4⟩
          case measure => simp [intOf]; omega
        · have HS : Hid ((l.take (k + 1)).foldl (Gr.pst n) ([], d0) = (o ++ [x], false)) := Lib.hid (by rw [hs']; simp [Gr.pst, hj])
          clear hs' hc
          go_wp2_with (at_builtin; refine wpList_append_rec Tryz.rowI encI_ok rfl (.tmp 31) (.tmp 36) rfl rfl Hk (by have := OL.out; omega) x rfl (by simp) ?_; intro v4 w4 H4 I4)
          go_roundw
          case rel => exact ⟨k + 1, _, false, by omega, by go_num, rfl, HS, H4, Ik.trans I4⟩
          case measure => simp [intOf]; omega
      | true =>
        have HS : Hid ((l.take (k + 1)).foldl (Gr.pst n) ([], d0) = (o ++ [x], true)) := Lib.hid (by rw [hs']; simp [Gr.pst])
        clear hs' hc
        go_wp2_with (at_builtin; refine wpList_append_rec Tryz.rowI encI_ok rfl (.tmp 31) (.tmp 36) rfl rfl Hk (by have := OL.out; omega) x rfl (by simp) ?_; intro v4 w4 H4 I4)
        go_roundw
        case rel => exact ⟨k + 1, _, true, by omega, by go_num, rfl, HS, H4, Ik.trans I4⟩
        case measure => simp [intOf]; omega
    · obtain rfl : k = l.length := by omega
      have hge : ¬ (l.length : Int) < (l.length : Int) := by omega
      have he : r = Gr.pfin n (o, d) := by
        rw [hr.out, ← hs.out, List.take_length, hd0.out]
        rfl
      clear HV hs
      cases d with
      | true =>
        obtain rfl : r = o := by rw [he]; simp [Gr.pfin]
        clear he
        go_wp2_with fail
        exact HH.out _ _ Hk Ik
      | false =>
        obtain rfl : r = o ++ [n] := by rw [he]; simp [Gr.pfin]
        clear he
        go_wp2_with (at_builtin; refine wpList_append_rec Tryz.rowI encI_ok rfl (.tmp 40) (.tmp 42) rfl rfl Hk (by have := OL.out; omega) n rfl (by simp) ?_; intro v4 w4 H4 I4)
        exact HH.out _ _ H4 (Ik.trans I4)
end
section
variable {F : Asn} {w : World} {R : Ending → World → Prop} {l : List Pr} {v : Value}
set_option maxRecDepth 100000 in
set_option maxHeartbeats 4000000 in
theorem rmembers_any (hv : ReadsP F v l) (hl : l.length ≤ 900) (n : Int) (H : Sat F w) (h : ∀ v' w', Sat (RowI v' (Gr.members l n) * F) w' → Io w w' → R (.returned v') w') : Calls Tryz.prog 14 #[v, .int .i64 n] w R := by
  obtain ⟨a, c, rfl, hm⟩ := readsP_len hv
  have HV := Lib.hid (fun k hk => readsP_get hv k hk)
  have HH := Lib.hid h
  have H0 := row_oneI (H.new (.cells #[.int .i64 n] 3))
  have I0 := (Io.refl w).alloc (.cells #[.int .i64 n] 3)
  clear h hv
  go_enter Tryz.func14, Tryz.ntmps14
  go_wp2_with fail
  go_loopw [5, 6] (fun y x wr => ∃ (k : Nat), k ≤ l.length ∧ x = .int .i64 (k : Int) ∧ Sat (RowI y (Gr.itr l n k) * F) wr ∧ Io w wr) (fun _ x _ => l.length - (intOf x).toNat)
  case atStart => exact ⟨0, by omega, rfl, H0, I0⟩
  case round =>
    obtain ⟨k, hk, rfl, Hk, Ik⟩ := hrel
    clear H0 I0
    by_cases hlt : k < l.length
    · have hlti : (k : Int) < (l.length : Int) := by omega
      go_wp2_with fail
      go_loopw [5, 7] (fun y x wv => ∃ (i : Nat) (o : List Int), i ≤ l.length ∧ x = .int .i64 (i : Int) ∧ Hid ((l.take i).foldl Gr.mst (Gr.itr l n k) = o) ∧ Sat (RowI y o * F) wv ∧ Io w wv) (fun _ x _ => l.length - (intOf x).toNat)
      case atStart => exact ⟨0, _, by omega, rfl, Lib.hid rfl, Hk, Ik⟩
      case round =>
        obtain ⟨i, o, hi, rfl, hs, Hi, Ii⟩ := hrel
        clear Hk Ik
        have ol : o.length ≤ 901 := by
          have := Gr.fold_len l n k i
          rw [hs.out] at this
          omega
        by_cases hlt2 : i < l.length
        · have hlti2 : (i : Int) < (l.length : Int) := by omega
          have hi0 : (0 : Int) ≤ (i : Int) := by omega
          obtain ⟨b, off, x1, x2, rfl, hx, hc⟩ := HV.out i hlt2
          obtain ⟨c0, c1⟩ := hc _ Hi.right
          have hs' : (l.take (i + 1)).foldl Gr.mst (Gr.itr l n k) = Gr.mst o (x1, x2) := by rw [Gr.take_fold _ _ _ _ hlt2, hs.out, hx]
          have rI := Reads.of_row Hi (by omega)
          obtain ⟨d1, hd1⟩ : ∃ d, Hid (d = decide (x1 ∈ o)) := ⟨_, Lib.hid rfl⟩
          obtain ⟨d2, hd2⟩ : ∃ d, Hid (d = decide (x2 ∈ o)) := ⟨_, Lib.hid rfl⟩
          obtain ⟨o1, ho1⟩ : ∃ q, Hid (q = Gr.ins o x1) := ⟨_, Lib.hid rfl⟩
          obtain ⟨o2, ho2⟩ : ∃ q, Hid (q = Gr.ins o1 x2) := ⟨_, Lib.hid rfl⟩
          have ol1 : o1.length ≤ 902 := by have := Gr.ins_len o x1; rw [← ho1.out] at this; split at this <;> omega
          have ol2 : o2.length ≤ 903 := by have := Gr.ins_len o1 x2; rw [← ho2.out] at this; split at this <;> omega
          have HS : Hid ((l.take (i + 1)).foldl Gr.mst (Gr.itr l n k) = if x1 ∈ o ∨ x2 ∈ o then o2 else o) := Lib.hid (by rw [hs', ho2.out, ho1.out]; rfl)
          have HC := Lib.hid hc
          clear hs' hx hs hc
          by_cases hor : x1 ∈ o ∨ x2 ∈ o
          · have HS2 : Hid ((l.take (i + 1)).foldl Gr.mst (Gr.itr l n k) = o2) := Lib.hid (by rw [HS.out, if_pos hor])
            have hdd : (d1 || d2) = true := by rw [hd1.out, hd2.out, Bool.or_eq_true]; simpa using hor
            have hdn : d1 = true ∨ (d1 = false ∧ d2 = true) := by cases d1 <;> simp_all
            clear HS hor hdd
            rcases hdn with rfl | ⟨rfl, rfl⟩
            all_goals
              go_wp2_with (first
                | (go_at_call 29; first
                  | (with_reducible refine ihas_any rI x1 hd1 Hi ?_; intro w1 H1 I1; obtain ⟨e0, e1⟩ := HC.out _ H1.right)
                  | (with_reducible refine ihas_any rI x2 hd2 H1 ?_; intro w2 H2 I2; obtain ⟨f0, f1⟩ := HC.out _ H2.right))
                | (go_at_call 30; first
                  | (with_reducible refine iput_any rI (by omega) x1 ho1 H2 ?_; intro v3 w3 H3 I3; obtain ⟨g0, g1⟩ := HC.out _ H3.right.right; have r3 := Reads.of_row H3 (by omega))
                  | (with_reducible refine iput_any r3 (by omega) x2 ho2 H3 ?_; intro v4 w4 H4 I4)))
              go_roundw
              case rel => exact ⟨i + 1, o2, by omega, by go_num, HS2, mid_asn (mid_asn H4), (((Ii.trans I1).trans I2).trans I3).trans I4⟩
              case measure => simp [intOf]; omega
          · have HS2 : Hid ((l.take (i + 1)).foldl Gr.mst (Gr.itr l n k) = o) := Lib.hid (by rw [HS.out, if_neg hor])
            obtain rfl : d1 = false := by rw [hd1.out]; exact decide_eq_false fun q => hor (.inl q)
            obtain rfl : d2 = false := by rw [hd2.out]; exact decide_eq_false fun q => hor (.inr q)
            clear HS hor
            go_wp2_with (go_at_call 29; first
                  | (with_reducible refine ihas_any rI x1 hd1 Hi ?_; intro w1 H1 I1; obtain ⟨e0, e1⟩ := HC.out _ H1.right)
                  | (with_reducible refine ihas_any rI x2 hd2 H1 ?_; intro w2 H2 I2))
            go_roundw
            case rel => exact ⟨i + 1, o, by omega, by go_num, HS2, H2, (Ii.trans I1).trans I2⟩
            case measure => simp [intOf]; omega
        · obtain rfl : i = l.length := by omega
          have hge : ¬ (l.length : Int) < (l.length : Int) := by omega
          have he : o = Gr.itr l n (k + 1) := by rw [← hs.out, List.take_length]; rfl
          subst he
          go_wp2_with fail
          go_roundw
          case rel => exact ⟨k + 1, by omega, by go_num, Hi, Ii⟩
          case measure => simp [intOf]; omega
    · obtain rfl : k = l.length := by omega
      have hge : ¬ (l.length : Int) < (l.length : Int) := by omega
      clear HV
      go_wp2_with fail
      exact HH.out _ _ Hk Ik
set_option maxRecDepth 100000 in
theorem rjoined_any (hv : ReadsP F v l) (hl : l.length ≤ 900) (n m : Int) {d : Bool} (hd : Hid (d = decide (m ∈ Gr.members l n))) (H : Sat F w) (h : ∀ w', Sat F w' → Io w w' → R (.returned (.bool d)) w') : Calls Tryz.prog 12 #[v, .int .i64 n, .int .i64 m] w R := by
  obtain ⟨a, c, rfl, hm⟩ := readsP_len hv
  have HH := Lib.hid h
  have hml := Gr.members_len l n
  clear h
  go_enter Tryz.func12, Tryz.ntmps12
  go_wp2_with (first
    | (go_at_call 14; with_reducible refine rmembers_any hv hl n H ?_; intro v1 w1 H1 I1; have r1 := Reads.of_row H1 (by omega))
    | (go_at_call 29; with_reducible refine ihas_any r1 m hd H1 ?_; intro w2 H2 I2))
  exact HH.out _ H2.right (I1.trans I2)
end
end Go.Proofs.YtabpgejjnphfcaaGreat
