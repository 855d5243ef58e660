/-
  AdjKeys, by its walk. It proves no statement by itself.
-/
import Derived.Test.YthbbdicdcmjpiaaGreatDoorQ46
namespace Go.Proofs.YthbbdicdcmjpiaaGreatDoor
open Go.RowKit Go.Lib
set_option linter.unusedSimpArgs false
set_option linter.unusedVariables false
set_option linter.unusedSectionVars false
namespace Aj
open Ky
theorem pr_good {u v : Int} (h : Md.wrong u v = 0) (t : Bool) : pr (ks u v) (vt t) = (u, v, t, true) := by
  obtain ⟨c1, c2⟩ := cut_ks (keyS u v)
  rw [← ks_eq h] at c1 c2
  obtain ⟨p0, p1, p2⟩ := prs_key (wrong_keyE h)
  unfold pr
  rw [c2, p1, p2, if_pos ⟨c1, p0, (wrong_zero.1 h).2.2, by cases t <;> simp⟩]
  congr 3
  have := vt_inj (t := t)
  cases t <;> simp_all
theorem pr_nil (v : Nm) : pr ⟨#[]⟩ v = (0, 0, false, false) := pr_short (by decide)
theorem pr_ok {k v : Nm} {a b : Int} {s : Bool} (h : pr k v = (a, b, s, true)) : k = ks a b := by
  unfold pr at h
  by_cases hc : isA k = true ∧ prsE (cut k) = 0 ∧ prsU (cut k) ≠ prsV (cut k) ∧ (v = vt true ∨ v = vt false)
  · rw [if_pos hc] at h
    obtain ⟨w1, w2, w3⟩ := pr_yes hc
    cases h
    exact w2
  · rw [if_neg hc] at h
    cases h
end Aj
theorem head_of {k : ByteArray} {l : List UInt8} (h : k.toList = 65 :: l) : ∃ l, k = ⟨(65 :: l).toArray⟩ := ⟨l, nm_ext (by rw [h, ByteArray.toList_eq])⟩
theorem not_empty_list {k : ByteArray} (h : k.size = 9) : (k.toList == []) = false := by
  apply beq_eq_false_iff_ne.2
  intro e
  rw [ByteArray.toList_eq] at e
  have : k.data.toList.length = 9 := h
  rw [e] at this
  simp at this
section
variable {F : Asn} {w : World} {R : Ending → World → Prop}
set_option maxRecDepth 100000 in
set_option maxHeartbeats 8000000 in
theorem keys_a (l : List UInt8) (u v a b : Int) (key val : ByteArray) (s : Bool) (HP : Hid (Aj.pr key val = (a, b, s, true))) (HK : Hid (key.size ≤ 1000)) (HV : Hid (val.size ≤ 1000)) (n1 : (key.size : Int) ≤ 60) (n2 : (val.size : Int) ≤ 60)
    (KK : Hid ((⟨(65 :: l).toArray⟩ : ByteArray) = Aj.ks u v)) (KAB : Hid (key = Aj.ks a b)) (P3 : Hid (Aj.pr ⟨(65 :: l).toArray⟩ ⟨#[116]⟩ = (u, v, true, true))) (K9 : Hid ((⟨(65 :: l).toArray⟩ : ByteArray).size ≤ 1000)) (H : Sat F w) (h : ∀ w', Sat F w' → Io w w' → R (.returned (.bool true)) w') :
    Calls Tryz.prog 4 #[.int .i64 u, .int .i64 v, .agg #[.string key, .string val]] w R := by
  have HH := Lib.hid h
  have HB := H.new (.cells #[.string key, .string val] 49)
  have IB := (Io.refl w).alloc (.cells #[.string key, .string val] 49)
  have V9 : Hid ((⟨#[116]⟩ : ByteArray).size ≤ 1000) := Lib.hid (by decide)
  have ke : ((65 :: l : List UInt8) == []) = false := rfl
  have Q := nd2 HB
  obtain ⟨q0, q1⟩ := Q
  clear h
  go_enter Tryz.func4, Tryz.ntmps4
  go_wp2_with (first
        | (go_at_call 7; (with_reducible refine works17_any HB ?_); intro w1 H1 I1; have Q := nd2 H1; obtain ⟨q0, q1⟩ := Q)
        | (go_at_call 19; (with_reducible refine ajkey_any u v KK H1 ?_); intro w2 H2 I2; have Q := nd2 H2; obtain ⟨q0, q1⟩ := Q)
        | (go_at_call 20; (with_reducible refine ajparse_any HP HK HV H2 ?_); intro w3 H3 I3; have Q := nd2 H3; obtain ⟨q0, q1⟩ := Q)
        | (go_at_call 21; (with_reducible refine rparse_any HP HK H3 ?_); intro w4 H4 I4; have Q := nd2 H4; obtain ⟨q0, q1⟩ := Q)
        | (go_at_call 22; (with_reducible refine rajkey_any u v KK H4 ?_); intro w5 H5 I5; have Q := nd2 H5; obtain ⟨q0, q1⟩ := Q)
        | (go_at_call 20; (with_reducible refine ajparse_any P3 K9 V9 H5 ?_); intro w6 H6 I6; have Q := nd2 H6; obtain ⟨q0, q1⟩ := Q)
        | fail)
  have S0 := (nd2 H6).1
  have S0' := (nd2 H6.drew).1
  have I06 := (((((IB.trans I1).trans I2).trans I3).trans I4).trans I5).trans I6
  clear I1 I2 I3 I4 I5 I6 IB
  go_region_held3 (fun W => W.cell? ⟨w.heap.size, 0, none⟩ = some (.string key)) (with_reducible (first | exact S0 | exact S0' | exact S1)) (first
    | (go_at_call 19; (with_reducible refine ajkey_any a b KAB H6.drew ?_); intro w7 H7 I7; have S1 := (nd2 H7).1))
  go_wp2_with fail
  exact HH.out _ H7.right (I06.drew.trans I7)
set_option maxRecDepth 100000 in
set_option maxHeartbeats 8000000 in
theorem keys_b (l : List UInt8) (u v a b : Int) (key val : ByteArray) (s : Bool) (HP : Hid (Aj.pr key val = (a, b, s, false))) (HK : Hid (key.size ≤ 1000)) (HV : Hid (val.size ≤ 1000)) (n1 : (key.size : Int) ≤ 60) (n2 : (val.size : Int) ≤ 60)
    (KK : Hid ((⟨(65 :: l).toArray⟩ : ByteArray) = Aj.ks u v)) (P3 : Hid (Aj.pr ⟨(65 :: l).toArray⟩ ⟨#[116]⟩ = (u, v, true, true))) (K9 : Hid ((⟨(65 :: l).toArray⟩ : ByteArray).size ≤ 1000)) (H : Sat F w) (h : ∀ w', Sat F w' → Io w w' → R (.returned (.bool true)) w') :
    Calls Tryz.prog 4 #[.int .i64 u, .int .i64 v, .agg #[.string key, .string val]] w R := by
  have HH := Lib.hid h
  have HB := H.new (.cells #[.string key, .string val] 49)
  have IB := (Io.refl w).alloc (.cells #[.string key, .string val] 49)
  have V9 : Hid ((⟨#[116]⟩ : ByteArray).size ≤ 1000) := Lib.hid (by decide)
  have ke : ((65 :: l : List UInt8) == []) = false := rfl
  have Q := nd2 HB
  obtain ⟨q0, q1⟩ := Q
  clear h
  go_enter Tryz.func4, Tryz.ntmps4
  go_wp2_with (first
        | (go_at_call 7; (with_reducible refine works17_any HB ?_); intro w1 H1 I1; have Q := nd2 H1; obtain ⟨q0, q1⟩ := Q)
        | (go_at_call 19; (with_reducible refine ajkey_any u v KK H1 ?_); intro w2 H2 I2; have Q := nd2 H2; obtain ⟨q0, q1⟩ := Q)
        | (go_at_call 20; (with_reducible refine ajparse_any HP HK HV H2 ?_); intro w3 H3 I3; have Q := nd2 H3; obtain ⟨q0, q1⟩ := Q)
        | (go_at_call 21; (with_reducible refine rparse_any HP HK H3 ?_); intro w4 H4 I4; have Q := nd2 H4; obtain ⟨q0, q1⟩ := Q)
        | (go_at_call 22; (with_reducible refine rajkey_any u v KK H4 ?_); intro w5 H5 I5; have Q := nd2 H5; obtain ⟨q0, q1⟩ := Q)
        | (go_at_call 20; (with_reducible refine ajparse_any P3 K9 V9 H5 ?_); intro w6 H6 I6; have Q := nd2 H6; obtain ⟨q0, q1⟩ := Q)
        | fail)
  go_quiet (fail)
  go_wp2_with fail
  exact HH.out _ (H6.right.drewN _) (((((((IB.trans I1).trans I2).trans I3).trans I4).trans I5).trans I6).drewN _)
set_option maxRecDepth 100000 in
set_option maxHeartbeats 8000000 in
theorem keys_c (u v a b : Int) (key val : ByteArray) (s : Bool) (HP : Hid (Aj.pr key val = (a, b, s, true))) (HK : Hid (key.size ≤ 1000)) (HV : Hid (val.size ≤ 1000)) (n1 : (key.size : Int) ≤ 60) (n2 : (val.size : Int) ≤ 60)
    (KK : Hid ((⟨#[]⟩ : ByteArray) = Aj.ks u v)) (KAB : Hid (key = Aj.ks a b)) (H : Sat F w) (h : ∀ w', Sat F w' → Io w w' → R (.returned (.bool true)) w') :
    Calls Tryz.prog 4 #[.int .i64 u, .int .i64 v, .agg #[.string key, .string val]] w R := by
  have HH := Lib.hid h
  have HB := H.new (.cells #[.string key, .string val] 49)
  have IB := (Io.refl w).alloc (.cells #[.string key, .string val] 49)
  have V9 : Hid ((⟨#[116]⟩ : ByteArray).size ≤ 1000) := Lib.hid (by decide)
  have P3 : Hid (Aj.pr ⟨#[]⟩ ⟨#[116]⟩ = (0, 0, false, false)) := Lib.hid (Aj.pr_nil _)
  have K9 : Hid ((⟨#[]⟩ : ByteArray).size ≤ 1000) := Lib.hid (by decide)
  have Q := nd2 HB
  obtain ⟨q0, q1⟩ := Q
  clear h
  go_enter Tryz.func4, Tryz.ntmps4
  go_wp2_with (first
        | (go_at_call 7; (with_reducible refine works17_any HB ?_); intro w1 H1 I1; have Q := nd2 H1; obtain ⟨q0, q1⟩ := Q)
        | (go_at_call 19; (with_reducible refine ajkey_any u v KK H1 ?_); intro w2 H2 I2; have Q := nd2 H2; obtain ⟨q0, q1⟩ := Q)
        | (go_at_call 20; (with_reducible refine ajparse_any HP HK HV H2 ?_); intro w3 H3 I3; have Q := nd2 H3; obtain ⟨q0, q1⟩ := Q)
        | (go_at_call 21; (with_reducible refine rparse_any HP HK H3 ?_); intro w4 H4 I4; have Q := nd2 H4; obtain ⟨q0, q1⟩ := Q)
        | (go_at_call 22; (with_reducible refine rajkey_any u v KK H4 ?_); intro w5 H5 I5; have Q := nd2 H5; obtain ⟨q0, q1⟩ := Q)
        | (go_at_call 20; (with_reducible refine ajparse_any P3 K9 V9 H5 ?_); intro w6 H6 I6; have Q := nd2 H6; obtain ⟨q0, q1⟩ := Q)
        | fail)
  have S0' := (nd2 H6.drew).1
  have I06 := (((((IB.trans I1).trans I2).trans I3).trans I4).trans I5).trans I6
  clear I1 I2 I3 I4 I5 I6 IB
  refine wp_region_held_drew (S := fun W => W.cell? ⟨w.heap.size, 0, none⟩ = some (.string key)) (by kernel_rfl) (by exact S0') (fun hHeld => ?_)
  refine wpAnyH_take (i := 0) (v := ?v0) rfl (by kernel_rfl) (by kernel_rfl) (by kernel_rfl) (fun _ _ _ h => h) (Or.inl ⟨by rfl, ?hy0⟩) hHeld ?rest0
  case hy0 => ((intro W hSW; (try dsimp only at hSW); go_simp) <;> (with_reducible rfl))
  simp only [Act.put, List.getElem_toArray, List.getElem_cons_zero, List.getElem_cons_succ, List.setIfInBounds_toArray, List.set_cons_zero, List.set_cons_succ]
  refine wpAnyH_take (i := 1) (v := ?v1) rfl (by kernel_rfl) (by kernel_rfl) (by kernel_rfl) (fun _ _ _ h => h) (Or.inl ⟨by rfl, ?hy1⟩) hHeld ?rest1
  case hy1 => ((intro W hSW; (try dsimp only at hSW); go_simp) <;> (with_reducible rfl))
  simp only [Act.put, List.getElem_toArray, List.getElem_cons_zero, List.getElem_cons_succ, List.setIfInBounds_toArray, List.set_cons_zero, List.set_cons_succ]
  refine wpAnyH_take (i := 2) (v := ?v2) rfl (by kernel_rfl) (by kernel_rfl) (by kernel_rfl) (fun _ _ _ h => h) (Or.inl ⟨by rfl, ?hy2⟩) hHeld ?rest2
  case hy2 => ((intro W hSW; (try dsimp only at hSW); go_simp) <;> (with_reducible rfl))
  simp only [Act.put, List.getElem_toArray, List.getElem_cons_zero, List.getElem_cons_succ, List.setIfInBounds_toArray, List.set_cons_zero, List.set_cons_succ]
  refine wpAnyH_take (i := 3) (v := ?v3) rfl (by kernel_rfl) (by kernel_rfl) (by kernel_rfl) (fun _ _ _ h => h) (Or.inl ⟨by rfl, ?hy3⟩) hHeld ?rest3
  case hy3 => ((intro W hSW; (try dsimp only at hSW); go_simp) <;> (with_reducible rfl))
  simp only [Act.put, List.getElem_toArray, List.getElem_cons_zero, List.getElem_cons_succ, List.setIfInBounds_toArray, List.set_cons_zero, List.set_cons_succ]
  refine wpAnyH_take (i := 4) (v := ?v4) rfl (by kernel_rfl) (by kernel_rfl) (by kernel_rfl) (fun _ _ _ h => h) (Or.inl ⟨by rfl, ?hy4⟩) hHeld ?rest4
  case hy4 => ((intro W hSW; (try dsimp only at hSW); go_simp) <;> (with_reducible rfl))
  simp only [Act.put, List.getElem_toArray, List.getElem_cons_zero, List.getElem_cons_succ, List.setIfInBounds_toArray, List.set_cons_zero, List.set_cons_succ]
  refine wpAnyH_take (i := 5) (v := undef) rfl (by kernel_rfl) (by kernel_rfl) (by kernel_rfl) (fun _ _ _ h => h) (Or.inr ⟨?hn5, rfl⟩) hHeld ?rest5
  case hn5 => (first | (go_simp; done) | (simp [Region.wanted, yielded]; done) | kernel_rfl)
  simp only [Act.put, List.getElem_toArray, List.getElem_cons_zero, List.getElem_cons_succ, List.setIfInBounds_toArray, List.set_cons_zero, List.set_cons_succ]
  refine wpAnyH_take (i := 6) (v := undef) rfl (by kernel_rfl) (by kernel_rfl) (by kernel_rfl) (fun _ _ _ h => h) (Or.inr ⟨?hn6, rfl⟩) hHeld ?rest6
  case hn6 => (first | (go_simp; done) | (simp [Region.wanted, yielded]; done) | kernel_rfl)
  simp only [Act.put, List.getElem_toArray, List.getElem_cons_zero, List.getElem_cons_succ, List.setIfInBounds_toArray, List.set_cons_zero, List.set_cons_succ]
  refine wpAnyH_take (i := 7) (v := undef) rfl (by kernel_rfl) (by kernel_rfl) (by kernel_rfl) (fun _ _ _ h => h) (Or.inr ⟨?hn7, rfl⟩) hHeld ?rest7
  case hn7 => (first | (go_simp; done) | (simp [Region.wanted, yielded]; done) | kernel_rfl)
  simp only [Act.put, List.getElem_toArray, List.getElem_cons_zero, List.getElem_cons_succ, List.setIfInBounds_toArray, List.set_cons_zero, List.set_cons_succ]
  refine wpAnyH_take (i := 8) (v := undef) rfl (by kernel_rfl) (by kernel_rfl) (by kernel_rfl) (fun _ _ _ h => h) (Or.inr ⟨?hn8, rfl⟩) hHeld ?rest8
  case hn8 => (first | (go_simp; done) | (simp [Region.wanted, yielded]; done) | kernel_rfl)
  simp only [Act.put, List.getElem_toArray, List.getElem_cons_zero, List.getElem_cons_succ, List.setIfInBounds_toArray, List.set_cons_zero, List.set_cons_succ]
  refine wpAnyH_take (i := 9) (v := undef) rfl (by kernel_rfl) (by kernel_rfl) (by kernel_rfl) (fun _ _ _ h => h) (Or.inr ⟨?hn9, rfl⟩) hHeld ?rest9
  case hn9 => (first | (go_simp; done) | (simp [Region.wanted, yielded]; done) | kernel_rfl)
  simp only [Act.put, List.getElem_toArray, List.getElem_cons_zero, List.getElem_cons_succ, List.setIfInBounds_toArray, List.set_cons_zero, List.set_cons_succ]
  refine wpAnyH_take (i := 10) (v := undef) rfl (by kernel_rfl) (by kernel_rfl) (by kernel_rfl) (fun _ _ _ h => h) (Or.inr ⟨?hn10, rfl⟩) hHeld ?rest10
  case hn10 => (first | (go_simp; done) | (simp [Region.wanted, yielded]; done) | kernel_rfl)
  simp only [Act.put, List.getElem_toArray, List.getElem_cons_zero, List.getElem_cons_succ, List.setIfInBounds_toArray, List.set_cons_zero, List.set_cons_succ]
  refine wpAnyH_take (i := 11) (v := undef) rfl (by kernel_rfl) (by kernel_rfl) (by kernel_rfl) (fun _ _ _ h => h) (Or.inr ⟨?hn11, rfl⟩) hHeld ?rest11
  case hn11 => (first | (go_simp; done) | (simp [Region.wanted, yielded]; done) | kernel_rfl)
  simp only [Act.put, List.getElem_toArray, List.getElem_cons_zero, List.getElem_cons_succ, List.setIfInBounds_toArray, List.set_cons_zero, List.set_cons_succ]
  refine wpAnyH_take (i := 12) (v := undef) rfl (by kernel_rfl) (by kernel_rfl) (by kernel_rfl) (fun _ _ _ h => h) (Or.inr ⟨?hn12, rfl⟩) hHeld ?rest12
  case hn12 => (first | (go_simp; done) | (simp [Region.wanted, yielded]; done) | kernel_rfl)
  simp only [Act.put, List.getElem_toArray, List.getElem_cons_zero, List.getElem_cons_succ, List.setIfInBounds_toArray, List.set_cons_zero, List.set_cons_succ]
  refine wpAnyH_take (i := 13) (v := undef) rfl (by kernel_rfl) (by kernel_rfl) (by kernel_rfl) (fun _ _ _ h => h) (Or.inr ⟨?hn13, rfl⟩) hHeld ?rest13
  case hn13 => (first | (go_simp; done) | (simp [Region.wanted, yielded]; done) | kernel_rfl)
  simp only [Act.put, List.getElem_toArray, List.getElem_cons_zero, List.getElem_cons_succ, List.setIfInBounds_toArray, List.set_cons_zero, List.set_cons_succ]
  refine wpAnyH_take (i := 14) (v := undef) rfl (by kernel_rfl) (by kernel_rfl) (by kernel_rfl) (fun _ _ _ h => h) (Or.inr ⟨?hn14, rfl⟩) hHeld ?rest14
  case hn14 => (first | (go_simp; done) | (simp [Region.wanted, yielded]; done) | kernel_rfl)
  simp only [Act.put, List.getElem_toArray, List.getElem_cons_zero, List.getElem_cons_succ, List.setIfInBounds_toArray, List.set_cons_zero, List.set_cons_succ]
  refine wpAnyH_take (i := 15) (v := undef) rfl (by kernel_rfl) (by kernel_rfl) (by kernel_rfl) (fun _ _ _ h => h) (Or.inr ⟨?hn15, rfl⟩) hHeld ?rest15
  case hn15 => (first | (go_simp; done) | (simp [Region.wanted, yielded]; done) | kernel_rfl)
  simp only [Act.put, List.getElem_toArray, List.getElem_cons_zero, List.getElem_cons_succ, List.setIfInBounds_toArray, List.set_cons_zero, List.set_cons_succ]
  refine wpAnyH_take (i := 16) (v := undef) rfl (by kernel_rfl) (by kernel_rfl) (by kernel_rfl) (fun _ _ _ h => h) (Or.inr ⟨?hn16, rfl⟩) hHeld ?rest16
  case hn16 => (first | (go_simp; done) | (simp [Region.wanted, yielded]; done) | kernel_rfl)
  simp only [Act.put, List.getElem_toArray, List.getElem_cons_zero, List.getElem_cons_succ, List.setIfInBounds_toArray, List.set_cons_zero, List.set_cons_succ]
  refine wpAnyH_take (i := 17) (v := undef) rfl (by kernel_rfl) (by kernel_rfl) (by kernel_rfl) (fun _ _ _ h => h) (Or.inr ⟨?hn17, rfl⟩) hHeld ?rest17
  case hn17 => (first | (go_simp; done) | (simp [Region.wanted, yielded]; done) | kernel_rfl)
  simp only [Act.put, List.getElem_toArray, List.getElem_cons_zero, List.getElem_cons_succ, List.setIfInBounds_toArray, List.set_cons_zero, List.set_cons_succ]
  refine wpAnyH_take (i := 18) (v := undef) rfl (by kernel_rfl) (by kernel_rfl) (by kernel_rfl) (fun _ _ _ h => h) (Or.inr ⟨?hn18, rfl⟩) hHeld ?rest18
  case hn18 => (first | (go_simp; done) | (simp [Region.wanted, yielded]; done) | kernel_rfl)
  simp only [Act.put, List.getElem_toArray, List.getElem_cons_zero, List.getElem_cons_succ, List.setIfInBounds_toArray, List.set_cons_zero, List.set_cons_succ]
  refine wpAnyH_take (i := 19) (v := ?v19) rfl (by kernel_rfl) (by kernel_rfl) (by kernel_rfl) (fun _ _ _ h => h) (Or.inl ⟨by rfl, ?hy19⟩) hHeld ?rest19
  case hy19 => ((intro W hSW; (try dsimp only at hSW); go_simp) <;> (with_reducible rfl))
  simp only [Act.put, List.getElem_toArray, List.getElem_cons_zero, List.getElem_cons_succ, List.setIfInBounds_toArray, List.set_cons_zero, List.set_cons_succ]
  refine wpAnyH_take (i := 20) (v := ?v20) rfl (by kernel_rfl) (by kernel_rfl) (by kernel_rfl) (fun _ _ _ h => h) (Or.inl ⟨by rfl, ?hy20⟩) hHeld ?rest20
  case hy20 => ((intro W hSW; (try dsimp only at hSW); go_simp) <;> (with_reducible rfl))
  simp only [Act.put, List.getElem_toArray, List.getElem_cons_zero, List.getElem_cons_succ, List.setIfInBounds_toArray, List.set_cons_zero, List.set_cons_succ]
  refine wpAnyH_take (i := 21) (v := ?v21) rfl (by kernel_rfl) (by kernel_rfl) (by kernel_rfl) (fun _ _ _ h => h) (Or.inl ⟨by rfl, ?hy21⟩) hHeld ?rest21
  case hy21 => ((intro W hSW; (try dsimp only at hSW); go_simp) <;> (with_reducible rfl))
  simp only [Act.put, List.getElem_toArray, List.getElem_cons_zero, List.getElem_cons_succ, List.setIfInBounds_toArray, List.set_cons_zero, List.set_cons_succ]
  refine wpAnyH_take (i := 22) (v := ?v22) rfl (by kernel_rfl) (by kernel_rfl) (by kernel_rfl) (fun _ _ _ h => h) (Or.inl ⟨by rfl, ?hy22⟩) hHeld ?rest22
  case hy22 => ((intro W hSW; (try dsimp only at hSW); go_simp) <;> (with_reducible rfl))
  simp only [Act.put, List.getElem_toArray, List.getElem_cons_zero, List.getElem_cons_succ, List.setIfInBounds_toArray, List.set_cons_zero, List.set_cons_succ]
  refine wpAnyH_take (i := 23) (v := ?v23) rfl (by kernel_rfl) (by kernel_rfl) (by kernel_rfl) (fun _ _ _ h => h) (Or.inl ⟨by rfl, ?hy23⟩) hHeld ?rest23
  case hy23 => ((intro W hSW; (try dsimp only at hSW); go_simp) <;> (with_reducible rfl))
  simp only [Act.put, List.getElem_toArray, List.getElem_cons_zero, List.getElem_cons_succ, List.setIfInBounds_toArray, List.set_cons_zero, List.set_cons_succ]
  refine wpAnyH_take (i := 24) (v := ?v24) rfl (by kernel_rfl) (by kernel_rfl) (by kernel_rfl) (fun _ _ _ h => h) (Or.inl ⟨by rfl, ?hy24⟩) hHeld ?rest24
  case hy24 => ((intro W hSW; (try dsimp only at hSW); go_simp) <;> (with_reducible rfl))
  simp only [Act.put, List.getElem_toArray, List.getElem_cons_zero, List.getElem_cons_succ, List.setIfInBounds_toArray, List.set_cons_zero, List.set_cons_succ]
  refine wpAnyH_take (i := 25) (v := ?v25) rfl (by kernel_rfl) (by kernel_rfl) (by kernel_rfl) (fun _ _ _ h => h) (Or.inl ⟨by rfl, ?hy25⟩) hHeld ?rest25
  case hy25 => ((intro W hSW; (try dsimp only at hSW); go_simp) <;> (with_reducible rfl))
  simp only [Act.put, List.getElem_toArray, List.getElem_cons_zero, List.getElem_cons_succ, List.setIfInBounds_toArray, List.set_cons_zero, List.set_cons_succ]
  refine wpAnyH_take (i := 26) (v := ?v26) rfl (by kernel_rfl) (by kernel_rfl) (by kernel_rfl) (fun _ _ _ h => h) (Or.inl ⟨by rfl, ?hy26⟩) hHeld ?rest26
  case hy26 => ((intro W hSW; (try dsimp only at hSW); go_simp) <;> (with_reducible rfl))
  simp only [Act.put, List.getElem_toArray, List.getElem_cons_zero, List.getElem_cons_succ, List.setIfInBounds_toArray, List.set_cons_zero, List.set_cons_succ]
  refine wpAnyH_take (i := 28) (v := ?v28) rfl (by kernel_rfl) (by kernel_rfl) (by kernel_rfl) (fun _ _ _ h => h) (Or.inl ⟨by rfl, ?hy28⟩) hHeld ?rest28
  case hy28 => ((intro W hSW; (try dsimp only at hSW); go_simp) <;> (with_reducible rfl))
  simp only [Act.put, List.getElem_toArray, List.getElem_cons_zero, List.getElem_cons_succ, List.setIfInBounds_toArray, List.set_cons_zero, List.set_cons_succ]
  refine wpAnyH_take (i := 29) (v := ?v29) rfl (by kernel_rfl) (by kernel_rfl) (by kernel_rfl) (fun _ _ _ h => h) (Or.inl ⟨by rfl, ?hy29⟩) hHeld ?rest29
  case hy29 => ((intro W hSW; (try dsimp only at hSW); go_simp) <;> (with_reducible rfl))
  simp only [Act.put, List.getElem_toArray, List.getElem_cons_zero, List.getElem_cons_succ, List.setIfInBounds_toArray, List.set_cons_zero, List.set_cons_succ]
  refine wpAnyH_ready (rs := [27]) (by kernel_rfl) (by simp) ?_
  refine AllReadyH.cons rfl (fun K hK => ?_) AllReadyH.nil
  go_simp
  (go_at_call 19; (with_reducible refine ajkey_any a b KAB H6.drew ?_); intro w7 H7 I7; have S1 := (nd2 H7).1)
  refine hK.out _ _ ?_ (fun hHeld => ?_)
  · exact S1
  clear hK K
  try simp only [Act.put, List.getElem_toArray, List.getElem_cons_zero, List.getElem_cons_succ, List.setIfInBounds_toArray, List.set_cons_zero, List.set_cons_succ]
  refine wpAnyH_take (i := 30) (v := ?v30) rfl (by kernel_rfl) (by kernel_rfl) (by kernel_rfl) (fun _ _ _ h => h) (Or.inl ⟨by rfl, ?hy30⟩) hHeld ?rest30
  case hy30 => ((intro W hSW; (try dsimp only at hSW); go_simp) <;> (with_reducible rfl))
  simp only [Act.put, List.getElem_toArray, List.getElem_cons_zero, List.getElem_cons_succ, List.setIfInBounds_toArray, List.set_cons_zero, List.set_cons_succ]
  refine wpAnyH_take (i := 31) (v := ?v31) rfl (by kernel_rfl) (by kernel_rfl) (by kernel_rfl) (fun _ _ _ h => h) (Or.inl ⟨by rfl, ?hy31⟩) hHeld ?rest31
  case hy31 => ((intro W hSW; (try dsimp only at hSW); go_simp) <;> (with_reducible rfl))
  simp only [Act.put, List.getElem_toArray, List.getElem_cons_zero, List.getElem_cons_succ, List.setIfInBounds_toArray, List.set_cons_zero, List.set_cons_succ]
  refine wpAnyH_take (i := 32) (v := ?v32) rfl (by kernel_rfl) (by kernel_rfl) (by kernel_rfl) (fun _ _ _ h => h) (Or.inl ⟨by rfl, ?hy32⟩) hHeld ?rest32
  case hy32 => ((intro W hSW; (try dsimp only at hSW); go_simp) <;> (with_reducible rfl))
  simp only [Act.put, List.getElem_toArray, List.getElem_cons_zero, List.getElem_cons_succ, List.setIfInBounds_toArray, List.set_cons_zero, List.set_cons_succ]
  refine wpAnyH_take (i := 33) (v := ?v33) rfl (by kernel_rfl) (by kernel_rfl) (by kernel_rfl) (fun _ _ _ h => h) (Or.inl ⟨by rfl, ?hy33⟩) hHeld ?rest33
  case hy33 => ((intro W hSW; (try dsimp only at hSW); go_simp) <;> (with_reducible rfl))
  simp only [Act.put, List.getElem_toArray, List.getElem_cons_zero, List.getElem_cons_succ, List.setIfInBounds_toArray, List.set_cons_zero, List.set_cons_succ]
  refine wpAnyH_done (by kernel_rfl) ?_ _
  go_wp2_with fail
  exact HH.out _ H7.right (I06.drew.trans I7)
set_option maxRecDepth 100000 in
set_option maxHeartbeats 8000000 in
theorem keys_d (u v a b : Int) (key val : ByteArray) (s : Bool) (HP : Hid (Aj.pr key val = (a, b, s, false))) (HK : Hid (key.size ≤ 1000)) (HV : Hid (val.size ≤ 1000)) (n1 : (key.size : Int) ≤ 60) (n2 : (val.size : Int) ≤ 60)
    (KK : Hid ((⟨#[]⟩ : ByteArray) = Aj.ks u v)) (H : Sat F w) (h : ∀ w', Sat F w' → Io w w' → R (.returned (.bool true)) w') :
    Calls Tryz.prog 4 #[.int .i64 u, .int .i64 v, .agg #[.string key, .string val]] w R := by
  have HH := Lib.hid h
  have HB := H.new (.cells #[.string key, .string val] 49)
  have IB := (Io.refl w).alloc (.cells #[.string key, .string val] 49)
  have V9 : Hid ((⟨#[116]⟩ : ByteArray).size ≤ 1000) := Lib.hid (by decide)
  have P3 : Hid (Aj.pr ⟨#[]⟩ ⟨#[116]⟩ = (0, 0, false, false)) := Lib.hid (Aj.pr_nil _)
  have K9 : Hid ((⟨#[]⟩ : ByteArray).size ≤ 1000) := Lib.hid (by decide)
  have Q := nd2 HB
  obtain ⟨q0, q1⟩ := Q
  clear h
  go_enter Tryz.func4, Tryz.ntmps4
  go_wp2_with (first
        | (go_at_call 7; (with_reducible refine works17_any HB ?_); intro w1 H1 I1; have Q := nd2 H1; obtain ⟨q0, q1⟩ := Q)
        | (go_at_call 19; (with_reducible refine ajkey_any u v KK H1 ?_); intro w2 H2 I2; have Q := nd2 H2; obtain ⟨q0, q1⟩ := Q)
        | (go_at_call 20; (with_reducible refine ajparse_any HP HK HV H2 ?_); intro w3 H3 I3; have Q := nd2 H3; obtain ⟨q0, q1⟩ := Q)
        | (go_at_call 21; (with_reducible refine rparse_any HP HK H3 ?_); intro w4 H4 I4; have Q := nd2 H4; obtain ⟨q0, q1⟩ := Q)
        | (go_at_call 22; (with_reducible refine rajkey_any u v KK H4 ?_); intro w5 H5 I5; have Q := nd2 H5; obtain ⟨q0, q1⟩ := Q)
        | (go_at_call 20; (with_reducible refine ajparse_any P3 K9 V9 H5 ?_); intro w6 H6 I6; have Q := nd2 H6; obtain ⟨q0, q1⟩ := Q)
        | fail)
  go_quiet (fail)
  go_wp2_with fail
  exact HH.out _ (H6.right.drewN _) (((((((IB.trans I1).trans I2).trans I3).trans I4).trans I5).trans I6).drewN _)
set_option maxRecDepth 100000 in
set_option maxHeartbeats 8000000 in
theorem keys_z (u v : Int) (key val : ByteArray) (hs : ¬ (key.size ≤ 60 ∧ val.size ≤ 60)) (h1 : key.size ≤ 9223372036854775807) (h2 : val.size ≤ 9223372036854775807) (H : Sat F w) (h : ∀ w', Sat F w' → Io w w' → R (.returned (.bool true)) w') :
    Calls Tryz.prog 4 #[.int .i64 u, .int .i64 v, .agg #[.string key, .string val]] w R := by
  have HH := Lib.hid h
  have HB := H.new (.cells #[.string key, .string val] 49)
  have IB := (Io.refl w).alloc (.cells #[.string key, .string val] 49)
  have Q := nd2 HB
  obtain ⟨q0, q1⟩ := Q
  have m1 : (key.size : Int) ≤ 9223372036854775807 := by omega
  have m2 : (val.size : Int) ≤ 9223372036854775807 := by omega
  clear h
  by_cases hk : (60 : Int) < key.size
  · clear hs
    go_enter Tryz.func4, Tryz.ntmps4
    go_wp2_with (go_at_call 7; (with_reducible refine works17_any HB ?_); intro w1 H1 I1; have Q := nd2 H1; obtain ⟨q0, q1⟩ := Q)
    exact HH.out _ H1.right (IB.trans I1)
  · have hv : (60 : Int) < val.size := by omega
    clear hs
    go_enter Tryz.func4, Tryz.ntmps4
    go_wp2_with (go_at_call 7; (with_reducible refine works17_any HB ?_); intro w1 H1 I1; have Q := nd2 H1; obtain ⟨q0, q1⟩ := Q)
    exact HH.out _ H1.right (IB.trans I1)
theorem adjKeys_walk (u v : Int) (key val : ByteArray) (h1 : key.size ≤ 9223372036854775807) (h2 : val.size ≤ 9223372036854775807) (H : Sat F w) (h : ∀ w', Sat F w' → Io w w' → R (.returned (.bool true)) w') :
    Calls Tryz.prog 4 #[.int .i64 u, .int .i64 v, .agg #[.string key, .string val]] w R := by
  by_cases hs : key.size ≤ 60 ∧ val.size ≤ 60
  · have HK : Hid (key.size ≤ 1000) := Lib.hid (by omega)
    have HV : Hid (val.size ≤ 1000) := Lib.hid (by omega)
    have n1 : (key.size : Int) ≤ 60 := by omega
    have n2 : (val.size : Int) ≤ 60 := by omega
    obtain ⟨⟨a, b, s, o⟩, hp⟩ : ∃ p, Aj.pr key val = p := ⟨_, rfl⟩
    by_cases h0 : Md.wrong u v = 0
    · obtain ⟨l, hl⟩ := head_of (Aj.ks_list h0)
      have P3 : Hid (Aj.pr ⟨(65 :: l).toArray⟩ ⟨#[116]⟩ = (u, v, true, true)) := Lib.hid (by rw [← hl]; exact Aj.pr_good h0 true)
      have K9 : Hid ((⟨(65 :: l).toArray⟩ : ByteArray).size ≤ 1000) := Lib.hid (by rw [← hl, Aj.ks_size h0]; omega)
      cases o with
      | true => exact keys_a l u v a b key val s (Lib.hid hp) HK HV n1 n2 (Lib.hid hl.symm) (Lib.hid (Aj.pr_ok hp)) P3 K9 H h
      | false => exact keys_b l u v a b key val s (Lib.hid hp) HK HV n1 n2 (Lib.hid hl.symm) P3 K9 H h
    · have hk0 : (⟨#[]⟩ : ByteArray) = Aj.ks u v := by unfold Aj.ks; rw [if_neg h0]
      cases o with
      | true => exact keys_c u v a b key val s (Lib.hid hp) HK HV n1 n2 (Lib.hid hk0) (Lib.hid (Aj.pr_ok hp)) H h
      | false => exact keys_d u v a b key val s (Lib.hid hp) HK HV n1 n2 (Lib.hid hk0) H h
  · exact keys_z u v key val hs h1 h2 H h
end
end Go.Proofs.YthbbdicdcmjpiaaGreatDoor
