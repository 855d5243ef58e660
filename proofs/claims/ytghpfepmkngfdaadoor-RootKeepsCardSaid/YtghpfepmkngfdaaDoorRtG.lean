/-
  Roots and their bytes: what the document's Decode and Pick do, by their walks. It proves no statement by itself.
-/
import Derived.Test.YtghpfepmkngfdaaDoorRtF
import Derived.Deep.RegionHeld3
namespace Go.Proofs.YtghpfepmkngfdaaDoor
open Go.RowKit
set_option linter.unusedSimpArgs false
set_option linter.unusedVariables false

section
variable {F : Asn} {w : World} {R : Ending → World → Prop}

/-- The number of a text. -/
def unB (s : ByteArray) : Nat := un s.data.toList
theorem rint_unB (s : ByteArray) (hs : s.size ≤ 4) (h : R (.returned (.int .i64 (unB s : Nat))) w) : Calls Tryd.prog 31 #[.string s] w R := rint_any s hs h
theorem rint_same (s : ByteArray) (hs : s.size ≤ 4) (W : World) : Calls Tryd.prog 31 #[.string s] W fun e w' => e = .returned (.int .i64 (un s.data.toList : Nat)) ∧ w' = W :=
  rint_any (R := fun e w' => e = .returned (.int .i64 (un s.data.toList : Nat)) ∧ w' = W) s hs ⟨rfl, rfl⟩
theorem part_size (s : ByteArray) (a : Nat) : (s.extract a (a + 4)).size ≤ 4 := by rw [ByteArray.size_extract]; omega
theorem ext_le (s : ByteArray) (a b : Nat) (h : b ≤ a + 4) : (s.extract a b).size ≤ 4 := by rw [ByteArray.size_extract]; omega
theorem part_un (s : ByteArray) (a : Nat) : unB (s.extract a (a + 4)) < 4294967296 := un_le _ 4 (part_size s a) (by omega)

set_option maxRecDepth 100000 in
set_option maxHeartbeats 4000000 in
theorem rdec_any (H : Sat F w) (s : ByteArray) (hs : s.size ≤ 1000000) (h : ∀ w', Sat F w' → Io w w' → R (.returned (decV s)) w') :
    Calls Tryd.prog 13 #[.string s] w R := by
  have HH : Hid (∀ w', Sat F w' → Io w w' → R (.returned (decV s)) w') := Lib.hid h
  clear h
  have HA := H.new (.cells #[.int .i64 0, .int .i64 0, .int .i64 0, .int .i64 0, .int .i64 0] 23)
  have IA := (Io.refl w).alloc (.cells #[.int .i64 0, .int .i64 0, .int .i64 0, .int .i64 0, .int .i64 0] 23)
  have hs' : (s.size : Int) ≤ 1000000 := by omega
  by_cases h256 : s.size = 256
  · have hne : ((s.size : Int) != 256) = false := by rw [bne_eq_false_iff_eq]; omega
    have hle4 : 4 ≤ s.size := by omega
    have hle8 : 8 ≤ s.size := by omega
    have hle12 : 12 ≤ s.size := by omega
    have hle16 : 16 ≤ s.size := by omega
    have hle20 : 20 ≤ s.size := by omega
    have ile4 : (4 : Int) ≤ (s.size : Int) := by omega
    have ile8 : (8 : Int) ≤ (s.size : Int) := by omega
    have ile12 : (12 : Int) ≤ (s.size : Int) := by omega
    have ile16 : (16 : Int) ≤ (s.size : Int) := by omega
    have ile20 : (20 : Int) ≤ (s.size : Int) := by omega
    have g0 := part_un s 0
    have g1 := part_un s 4
    have g2 := part_un s 8
    have g3 := part_un s 12
    have g4 := part_un s 16
    simp only [Nat.zero_add, Nat.reduceAdd] at g0 g1 g2 g3 g4
    have er : Rt.rd s = ⟨(unB (s.extract 0 4) : Nat), (unB (s.extract 4 8) : Nat), (unB (s.extract 8 12) : Nat), (unB (s.extract 12 16) : Nat), (unB (s.extract 16 20) : Nat)⟩ := rfl
    have ed : Rt.dec s = if (Rt.rd s).good = true ∧ tx (Rt.rd s).bytes = s then some (Rt.rd s) else none := by
      unfold Rt.dec
      simp [h256]
    rw [er] at ed
    have hbd : ∀ n ∈ Rt.nums ⟨(unB (s.extract 0 4) : Nat), (unB (s.extract 4 8) : Nat), (unB (s.extract 8 12) : Nat), (unB (s.extract 12 16) : Nat), (unB (s.extract 16 20) : Nat)⟩, n ≤ 9223372036854775807 := by
      intro n hn
      simp only [Rt.nums, List.mem_cons, List.not_mem_nil, or_false] at hn
      omega
    have HBD := Lib.hid hbd
    clear er h256 g0 g1 g2 g3 g4 hbd
    have ED := Lib.hid ed
    clear ed
    go_enter Tryd.func13, Tryd.ntmps13
    go_wp2_with fail
    go_region_held3 (fun _ => True) (exact True.intro) ((go_at_call 31; refine rint_unB _ (ext_le _ _ _ (by omega)) ?_))
    all_goals
      generalize unB (s.extract 0 4) = n0 at *
      generalize unB (s.extract 4 8) = n1 at *
      generalize unB (s.extract 8 12) = n2 at *
      generalize unB (s.extract 12 16) = n3 at *
      generalize unB (s.extract 16 20) = n4 at *
      have ed := ED.out
      go_wp2_with fail
      have H1 : Sat (pts w.heap.size (.cells #[.int .i64 0, .int .i64 0, .int .i64 0, .int .i64 0, .int .i64 0] 23 (0, 0)) * F) (w.alloc (.cells #[.int .i64 0, .int .i64 0, .int .i64 0, .int .i64 0, .int .i64 0] 23)).drew := HA.drew
      have I1 := IA.drew
      have hz : (w.alloc (.cells #[.int .i64 0, .int .i64 0, .int .i64 0, .int .i64 0, .int .i64 0] 23)).drew.heap.size = w.heap.size + 1 := by simp
      have H2 := H1.new (.cells #[.int .i64 (n0 : Nat), .int .i64 (n1 : Nat), .int .i64 (n2 : Nat), .int .i64 (n3 : Nat), .int .i64 (n4 : Nat)] 23)
      have I2 := I1.alloc (.cells #[.int .i64 (n0 : Nat), .int .i64 (n1 : Nat), .int .i64 (n2 : Nat), .int .i64 (n3 : Nat), .int .i64 (n4 : Nat)] 23)
      rw [hz] at H2
      refine renc_any H2 ⟨(n0 : Nat), (n1 : Nat), (n2 : Nat), (n3 : Nat), (n4 : Nat)⟩ HBD.out ?_
      intro u6 H6 I6
      have P6 := I2.trans I6
      clear hz H1 H2 I1 I2 I6
      have HA : Sat (pts w.heap.size (.cells #[.int .i64 0, .int .i64 0, .int .i64 0, .int .i64 0, .int .i64 0] 23 (0, 0)) * (pts (w.heap.size + 1) (.cells #[.int .i64 (n0 : Nat), .int .i64 (n1 : Nat), .int .i64 (n2 : Nat), .int .i64 (n3 : Nat), .int .i64 (n4 : Nat)] 23 (0, 0)) * F)) u6 := H6.of_eq (by ac_rfl)
      clear H6
      generalize w.heap.size + 1 = C at *
      generalize w.heap.size = A at *
      have la := HA.left.lt
      have fa := fun j => Sat.free HA.left.at j
      have fa0 := fa 0
      have fa1 := fa 1
      have fa2 := fa 2
      have fa3 := fa 3
      have fa4 := fa 4
      have a0 := Sat.read HA.left.at 0
      have a1 := Sat.read HA.left.at 1
      have a2 := Sat.read HA.left.at 2
      have a3 := Sat.read HA.left.at 3
      have a4 := Sat.read HA.left.at 4
      have lc := HA.right.left.lt
      have b0 := Sat.read HA.right.left.at 0
      have b1 := Sat.read HA.right.left.at 1
      have b2 := Sat.read HA.right.left.at 2
      have b3 := Sat.read HA.right.left.at 3
      have b4 := Sat.read HA.right.left.at 4
      have ac := (HA.of_eq (star_assoc _ _ _).symm).left.ne
      simp only [List.getElem?_toArray, List.getElem?_cons_zero, List.getElem?_cons_succ] at a0 a1 a2 a3 a4 b0 b1 b2 b3 b4
      cases hg : Rt.good ⟨(n0 : Nat), (n1 : Nat), (n2 : Nat), (n3 : Nat), (n4 : Nat)⟩ with
      | false =>
        rw [hg] at ed
        have es : Rt.dec s = none := by rw [ed]; simp
        rw [Rt.encS, hg]
        simp only [Bool.false_eq_true, if_false]
        have HF : Sat (pts A (.cells #[(.int .i64 0), (.int .i64 0), (.int .i64 0), (.int .i64 0), (.int .i64 0)] 23 (0, 0)) * (pts C (.cells #[.int .i64 (n0 : Nat), .int .i64 (n1 : Nat), .int .i64 (n2 : Nat), .int .i64 (n3 : Nat), .int .i64 (n4 : Nat)] 23 (0, 0)) * F)) (((((u6.setCell ⟨A, 0, none⟩ (.int .i64 0)).setCell ⟨A, 1, none⟩ (.int .i64 0)).setCell ⟨A, 2, none⟩ (.int .i64 0)).setCell ⟨A, 3, none⟩ (.int .i64 0)).setCell ⟨A, 4, none⟩ (.int .i64 0)) := (Sat.cell (Sat.cell (Sat.cell (Sat.cell (Sat.cell HA 0 (.int .i64 0)) 1 (.int .i64 0)) 2 (.int .i64 0)) 3 (.int .i64 0)) 4 (.int .i64 0))
        have fin := HH.out _ HF.right.right (((((P6.setCell ⟨A, 0, none⟩ (.int .i64 0)).setCell ⟨A, 1, none⟩ (.int .i64 0)).setCell ⟨A, 2, none⟩ (.int .i64 0)).setCell ⟨A, 3, none⟩ (.int .i64 0)).setCell ⟨A, 4, none⟩ (.int .i64 0))
        unfold decV at fin
        rw [es] at fin
        clear ed
        have d0 := Sat.read HF.left.at 0
        have d1 := Sat.read HF.left.at 1
        have d2 := Sat.read HF.left.at 2
        have d3 := Sat.read HF.left.at 3
        have d4 := Sat.read HF.left.at 4
        have dl := HF.left.lt
        simp only [List.getElem?_toArray, List.getElem?_cons_zero, List.getElem?_cons_succ] at d0 d1 d2 d3 d4
        go_wp2_with fail
        generalize (((((u6.setCell ⟨A, 0, none⟩ (.int .i64 0)).setCell ⟨A, 1, none⟩ (.int .i64 0)).setCell ⟨A, 2, none⟩ (.int .i64 0)).setCell ⟨A, 3, none⟩ (.int .i64 0)).setCell ⟨A, 4, none⟩ (.int .i64 0)) = W at *
        exact bodyPost_ret (v := .tuple #[.agg #[(.int .i64 0), (.int .i64 0), (.int .i64 0), (.int .i64 0), (.int .i64 0)], .bool false]) (by simp [results, Tryd.results13, go_sem, d0, d1, d2, d3, d4]) rfl fin
      | true =>
        rw [Rt.encS, hg]
        rw [hg] at ed
        simp only [if_true]
        by_cases ht : tx (Rt.bytes ⟨(n0 : Nat), (n1 : Nat), (n2 : Nat), (n3 : Nat), (n4 : Nat)⟩) = s
        · have es : Rt.dec s = some ⟨(n0 : Nat), (n1 : Nat), (n2 : Nat), (n3 : Nat), (n4 : Nat)⟩ := by rw [ed]; simp [ht]
          rw [ht]
          have hse := str_eq s
          have HF : Sat (pts A (.cells #[(.int .i64 (n0 : Nat)), (.int .i64 (n1 : Nat)), (.int .i64 (n2 : Nat)), (.int .i64 (n3 : Nat)), (.int .i64 (n4 : Nat))] 23 (0, 0)) * (pts C (.cells #[.int .i64 (n0 : Nat), .int .i64 (n1 : Nat), .int .i64 (n2 : Nat), .int .i64 (n3 : Nat), .int .i64 (n4 : Nat)] 23 (0, 0)) * F)) (((((u6.setCell ⟨A, 0, none⟩ (.int .i64 (n0 : Nat))).setCell ⟨A, 1, none⟩ (.int .i64 (n1 : Nat))).setCell ⟨A, 2, none⟩ (.int .i64 (n2 : Nat))).setCell ⟨A, 3, none⟩ (.int .i64 (n3 : Nat))).setCell ⟨A, 4, none⟩ (.int .i64 (n4 : Nat))) := (Sat.cell (Sat.cell (Sat.cell (Sat.cell (Sat.cell HA 0 (.int .i64 (n0 : Nat))) 1 (.int .i64 (n1 : Nat))) 2 (.int .i64 (n2 : Nat))) 3 (.int .i64 (n3 : Nat))) 4 (.int .i64 (n4 : Nat)))
          have fin := HH.out _ HF.right.right (((((P6.setCell ⟨A, 0, none⟩ (.int .i64 (n0 : Nat))).setCell ⟨A, 1, none⟩ (.int .i64 (n1 : Nat))).setCell ⟨A, 2, none⟩ (.int .i64 (n2 : Nat))).setCell ⟨A, 3, none⟩ (.int .i64 (n3 : Nat))).setCell ⟨A, 4, none⟩ (.int .i64 (n4 : Nat)))
          unfold decV at fin
          rw [es] at fin
          clear ed
          have d0 := Sat.read HF.left.at 0
          have d1 := Sat.read HF.left.at 1
          have d2 := Sat.read HF.left.at 2
          have d3 := Sat.read HF.left.at 3
          have d4 := Sat.read HF.left.at 4
          have dl := HF.left.lt
          simp only [List.getElem?_toArray, List.getElem?_cons_zero, List.getElem?_cons_succ] at d0 d1 d2 d3 d4
          go_wp2_with fail
          generalize (((((u6.setCell ⟨A, 0, none⟩ (.int .i64 (n0 : Nat))).setCell ⟨A, 1, none⟩ (.int .i64 (n1 : Nat))).setCell ⟨A, 2, none⟩ (.int .i64 (n2 : Nat))).setCell ⟨A, 3, none⟩ (.int .i64 (n3 : Nat))).setCell ⟨A, 4, none⟩ (.int .i64 (n4 : Nat))) = W at *
          exact bodyPost_ret (v := .tuple #[.agg #[(.int .i64 (n0 : Nat)), (.int .i64 (n1 : Nat)), (.int .i64 (n2 : Nat)), (.int .i64 (n3 : Nat)), (.int .i64 (n4 : Nat))], .bool true]) (by simp [results, Tryd.results13, go_sem, d0, d1, d2, d3, d4]) rfl fin
        · have es : Rt.dec s = none := by rw [ed]; simp [ht]
          generalize tx (Rt.bytes ⟨(n0 : Nat), (n1 : Nat), (n2 : Nat), (n3 : Nat), (n4 : Nat)⟩) = t at *
          have hse := str_ne ht
          have HF : Sat (pts A (.cells #[(.int .i64 0), (.int .i64 0), (.int .i64 0), (.int .i64 0), (.int .i64 0)] 23 (0, 0)) * (pts C (.cells #[.int .i64 (n0 : Nat), .int .i64 (n1 : Nat), .int .i64 (n2 : Nat), .int .i64 (n3 : Nat), .int .i64 (n4 : Nat)] 23 (0, 0)) * F)) (((((u6.setCell ⟨A, 0, none⟩ (.int .i64 0)).setCell ⟨A, 1, none⟩ (.int .i64 0)).setCell ⟨A, 2, none⟩ (.int .i64 0)).setCell ⟨A, 3, none⟩ (.int .i64 0)).setCell ⟨A, 4, none⟩ (.int .i64 0)) := (Sat.cell (Sat.cell (Sat.cell (Sat.cell (Sat.cell HA 0 (.int .i64 0)) 1 (.int .i64 0)) 2 (.int .i64 0)) 3 (.int .i64 0)) 4 (.int .i64 0))
          have fin := HH.out _ HF.right.right (((((P6.setCell ⟨A, 0, none⟩ (.int .i64 0)).setCell ⟨A, 1, none⟩ (.int .i64 0)).setCell ⟨A, 2, none⟩ (.int .i64 0)).setCell ⟨A, 3, none⟩ (.int .i64 0)).setCell ⟨A, 4, none⟩ (.int .i64 0))
          unfold decV at fin
          rw [es] at fin
          clear ed
          have d0 := Sat.read HF.left.at 0
          have d1 := Sat.read HF.left.at 1
          have d2 := Sat.read HF.left.at 2
          have d3 := Sat.read HF.left.at 3
          have d4 := Sat.read HF.left.at 4
          have dl := HF.left.lt
          simp only [List.getElem?_toArray, List.getElem?_cons_zero, List.getElem?_cons_succ] at d0 d1 d2 d3 d4
          go_wp2_with fail
          generalize (((((u6.setCell ⟨A, 0, none⟩ (.int .i64 0)).setCell ⟨A, 1, none⟩ (.int .i64 0)).setCell ⟨A, 2, none⟩ (.int .i64 0)).setCell ⟨A, 3, none⟩ (.int .i64 0)).setCell ⟨A, 4, none⟩ (.int .i64 0)) = W at *
          exact bodyPost_ret (v := .tuple #[.agg #[(.int .i64 0), (.int .i64 0), (.int .i64 0), (.int .i64 0), (.int .i64 0)], .bool false]) (by simp [results, Tryd.results13, go_sem, d0, d1, d2, d3, d4]) rfl fin
  · have es : Rt.dec s = none := by unfold Rt.dec; rw [if_neg (fun x => h256 x.1)]
    have hne : ((s.size : Int) != 256) = true := by rw [bne_iff_ne]; omega
    clear h256
    have fin := HH.out _ HA.right IA
    unfold decV at fin
    rw [es] at fin
    clear HH HA IA
    go_enter Tryd.func13, Tryd.ntmps13
    go_wp2_with fail
    exact bodyPost_ret (v := .tuple #[.agg #[(.int .i64 0), (.int .i64 0), (.int .i64 0), (.int .i64 0), (.int .i64 0)], .bool false]) (by simp [results, Tryd.results13, go_sem]) rfl fin

theorem rdec_some (H : Sat F w) (s : ByteArray) (hs : s.size ≤ 1000000) {e p c f n : Int} (hd : Rt.dec s = some ⟨e, p, c, f, n⟩) (h : ∀ w', Sat F w' → Io w w' → R (.returned (.tuple #[.agg #[.int .i64 e, .int .i64 p, .int .i64 c, .int .i64 f, .int .i64 n], .bool true])) w') :
    Calls Tryd.prog 13 #[.string s] w R := by
  refine rdec_any H s hs fun w' H' I' => ?_
  unfold decV
  rw [hd]
  exact h w' H' I'
theorem rdec_none (H : Sat F w) (s : ByteArray) (hs : s.size ≤ 1000000) (hd : Rt.dec s = none) (h : ∀ w', Sat F w' → Io w w' → R (.returned (.tuple #[.agg #[.int .i64 0, .int .i64 0, .int .i64 0, .int .i64 0, .int .i64 0], .bool false])) w') :
    Calls Tryd.prog 13 #[.string s] w R := by
  refine rdec_any H s hs fun w' H' I' => ?_
  unfold decV
  rw [hd]
  exact h w' H' I'

set_option maxRecDepth 100000 in
set_option maxHeartbeats 2000000 in
theorem rpick_xn (H : Sat F w) (a b : ByteArray) (ha : a.size ≤ 1000000) (hb : b.size ≤ 1000000) {xe xp xc xf xn : Int} (ea : Rt.dec a = some ⟨xe, xp, xc, xf, xn⟩) (eb : Rt.dec b = none) (h : ∀ w', Sat F w' → Io w w' → R (.returned (.tuple #[.agg #[.int .i64 xe, .int .i64 xp, .int .i64 xc, .int .i64 xf, .int .i64 xn], .int .i64 0])) w') :
    Calls Tryd.prog 15 #[.string a, .string b] w R := by
  have HH := Lib.hid h
  clear h
  have HA := H.new (.cells #[.int .i64 0, .int .i64 0, .int .i64 0, .int .i64 0, .int .i64 0] 23)
  have IA := (Io.refl w).alloc (.cells #[.int .i64 0, .int .i64 0, .int .i64 0, .int .i64 0, .int .i64 0] 23)
  go_enter Tryd.func15, Tryd.ntmps15
  go_wp2_with fail
  generalize w.alloc (.cells #[.int .i64 0, .int .i64 0, .int .i64 0, .int .i64 0, .int .i64 0] 23) = v0 at *
  generalize w.heap.size = A at *
  refine rdec_some HA a ha ea ?_
  intro w1 H1 I1
  have H2 := H1.new (.cells #[.int .i64 xe, .int .i64 xp, .int .i64 xc, .int .i64 xf, .int .i64 xn] 23)
  have I2 := (IA.trans I1).alloc (.cells #[.int .i64 xe, .int .i64 xp, .int .i64 xc, .int .i64 xf, .int .i64 xn] 23)
  clear HA IA H H1 I1
  go_wp2_with fail
  generalize w1.alloc (.cells #[.int .i64 xe, .int .i64 xp, .int .i64 xc, .int .i64 xf, .int .i64 xn] 23) = v1 at *
  generalize w1.heap.size = B at *
  refine rdec_none H2 b hb eb ?_
  intro w2 H3 I3
  have HA : Sat (pts A (.cells #[.int .i64 0, .int .i64 0, .int .i64 0, .int .i64 0, .int .i64 0] 23 (0, 0)) * (pts B (.cells #[.int .i64 xe, .int .i64 xp, .int .i64 xc, .int .i64 xf, .int .i64 xn] 23 (0, 0)) * F)) w2 := H3.of_eq (by ac_rfl)
  have lA := Sat.lt HA.left
  have lB := Sat.lt HA.right.left
  have a0 := Sat.read HA.left.at 0
  have a1 := Sat.read HA.left.at 1
  have a2 := Sat.read HA.left.at 2
  have a3 := Sat.read HA.left.at 3
  have a4 := Sat.read HA.left.at 4
  have fz := fun j => Sat.free HA.left.at j
  have f0 := fz 0
  have f1 := fz 1
  have f2 := fz 2
  have f3 := fz 3
  have f4 := fz 4
  have b0 := Sat.read HA.right.left.at 0
  have b1 := Sat.read HA.right.left.at 1
  have b2 := Sat.read HA.right.left.at 2
  have b3 := Sat.read HA.right.left.at 3
  have b4 := Sat.read HA.right.left.at 4
  have nab := (HA.of_eq (star_assoc _ _ _).symm).left.ne
  simp only [List.getElem?_toArray, List.getElem?_cons_zero, List.getElem?_cons_succ] at a0 a1 a2 a3 a4 b0 b1 b2 b3 b4
  have HF : Sat (pts A (.cells #[.int .i64 xe, .int .i64 xp, .int .i64 xc, .int .i64 xf, .int .i64 xn] 23 (0, 0)) * (pts B (.cells #[.int .i64 xe, .int .i64 xp, .int .i64 xc, .int .i64 xf, .int .i64 xn] 23 (0, 0)) * F)) ((((((w2.setCell ⟨A, 0, none⟩ (.int .i64 xe)).setCell ⟨A, 1, none⟩ (.int .i64 xp)).setCell ⟨A, 2, none⟩ (.int .i64 xc)).setCell ⟨A, 3, none⟩ (.int .i64 xf)).setCell ⟨A, 4, none⟩ (.int .i64 xn)).alloc (.cells #[.int .i64 0, .int .i64 0, .int .i64 0, .int .i64 0, .int .i64 0] 23)) := (Sat.alloc (Sat.cell (Sat.cell (Sat.cell (Sat.cell (Sat.cell HA 0 (.int .i64 xe)) 1 (.int .i64 xp)) 2 (.int .i64 xc)) 3 (.int .i64 xf)) 4 (.int .i64 xn)) (.cells #[.int .i64 0, .int .i64 0, .int .i64 0, .int .i64 0, .int .i64 0] 23))
  have fin := HH.out _ HF.right.right (((((((I2.trans I3).setCell ⟨A, 0, none⟩ (.int .i64 xe)).setCell ⟨A, 1, none⟩ (.int .i64 xp)).setCell ⟨A, 2, none⟩ (.int .i64 xc)).setCell ⟨A, 3, none⟩ (.int .i64 xf)).setCell ⟨A, 4, none⟩ (.int .i64 xn)).alloc (.cells #[.int .i64 0, .int .i64 0, .int .i64 0, .int .i64 0, .int .i64 0] 23))
  have d0 := Sat.read HF.left.at 0
  have d1 := Sat.read HF.left.at 1
  have d2 := Sat.read HF.left.at 2
  have d3 := Sat.read HF.left.at 3
  have d4 := Sat.read HF.left.at 4
  simp only [List.getElem?_toArray, List.getElem?_cons_zero, List.getElem?_cons_succ] at d0 d1 d2 d3 d4
  clear HH fz HA H3 H2 I2 I3
  go_wp2_with fail
  generalize ((((((w2.setCell ⟨A, 0, none⟩ (.int .i64 xe)).setCell ⟨A, 1, none⟩ (.int .i64 xp)).setCell ⟨A, 2, none⟩ (.int .i64 xc)).setCell ⟨A, 3, none⟩ (.int .i64 xf)).setCell ⟨A, 4, none⟩ (.int .i64 xn)).alloc (.cells #[.int .i64 0, .int .i64 0, .int .i64 0, .int .i64 0, .int .i64 0] 23)) = W at *
  exact bodyPost_ret (v := .tuple #[.agg #[.int .i64 xe, .int .i64 xp, .int .i64 xc, .int .i64 xf, .int .i64 xn], .int .i64 0]) (by simp [results, Tryd.results15, go_sem, d0, d1, d2, d3, d4]) rfl fin

set_option maxRecDepth 100000 in
set_option maxHeartbeats 2000000 in
theorem rpick_xy (H : Sat F w) (a b : ByteArray) (ha : a.size ≤ 1000000) (hb : b.size ≤ 1000000) {xe xp xc xf xn : Int} (ea : Rt.dec a = some ⟨xe, xp, xc, xf, xn⟩) {ye yp yc yf yn : Int} (eb : Rt.dec b = some ⟨ye, yp, yc, yf, yn⟩) (hle : ye ≤ xe) (h : ∀ w', Sat F w' → Io w w' → R (.returned (.tuple #[.agg #[.int .i64 xe, .int .i64 xp, .int .i64 xc, .int .i64 xf, .int .i64 xn], .int .i64 0])) w') :
    Calls Tryd.prog 15 #[.string a, .string b] w R := by
  have HH := Lib.hid h
  clear h
  have hle' : decide (xe ≥ ye) = true := by simpa using hle
  have HA := H.new (.cells #[.int .i64 0, .int .i64 0, .int .i64 0, .int .i64 0, .int .i64 0] 23)
  have IA := (Io.refl w).alloc (.cells #[.int .i64 0, .int .i64 0, .int .i64 0, .int .i64 0, .int .i64 0] 23)
  go_enter Tryd.func15, Tryd.ntmps15
  go_wp2_with fail
  generalize w.alloc (.cells #[.int .i64 0, .int .i64 0, .int .i64 0, .int .i64 0, .int .i64 0] 23) = v0 at *
  generalize w.heap.size = A at *
  refine rdec_some HA a ha ea ?_
  intro w1 H1 I1
  have H2 := H1.new (.cells #[.int .i64 xe, .int .i64 xp, .int .i64 xc, .int .i64 xf, .int .i64 xn] 23)
  have I2 := (IA.trans I1).alloc (.cells #[.int .i64 xe, .int .i64 xp, .int .i64 xc, .int .i64 xf, .int .i64 xn] 23)
  clear HA IA H H1 I1
  go_wp2_with fail
  generalize w1.alloc (.cells #[.int .i64 xe, .int .i64 xp, .int .i64 xc, .int .i64 xf, .int .i64 xn] 23) = v1 at *
  generalize w1.heap.size = B at *
  refine rdec_some H2 b hb eb ?_
  intro w2 H3 I3
  have HA : Sat (pts A (.cells #[.int .i64 0, .int .i64 0, .int .i64 0, .int .i64 0, .int .i64 0] 23 (0, 0)) * (pts B (.cells #[.int .i64 xe, .int .i64 xp, .int .i64 xc, .int .i64 xf, .int .i64 xn] 23 (0, 0)) * F)) w2 := H3.of_eq (by ac_rfl)
  have lA := Sat.lt HA.left
  have lB := Sat.lt HA.right.left
  have a0 := Sat.read HA.left.at 0
  have a1 := Sat.read HA.left.at 1
  have a2 := Sat.read HA.left.at 2
  have a3 := Sat.read HA.left.at 3
  have a4 := Sat.read HA.left.at 4
  have fz := fun j => Sat.free HA.left.at j
  have f0 := fz 0
  have f1 := fz 1
  have f2 := fz 2
  have f3 := fz 3
  have f4 := fz 4
  have b0 := Sat.read HA.right.left.at 0
  have b1 := Sat.read HA.right.left.at 1
  have b2 := Sat.read HA.right.left.at 2
  have b3 := Sat.read HA.right.left.at 3
  have b4 := Sat.read HA.right.left.at 4
  have nab := (HA.of_eq (star_assoc _ _ _).symm).left.ne
  simp only [List.getElem?_toArray, List.getElem?_cons_zero, List.getElem?_cons_succ] at a0 a1 a2 a3 a4 b0 b1 b2 b3 b4
  have HF : Sat (pts A (.cells #[.int .i64 xe, .int .i64 xp, .int .i64 xc, .int .i64 xf, .int .i64 xn] 23 (0, 0)) * (pts B (.cells #[.int .i64 xe, .int .i64 xp, .int .i64 xc, .int .i64 xf, .int .i64 xn] 23 (0, 0)) * F)) ((((((w2.setCell ⟨A, 0, none⟩ (.int .i64 xe)).setCell ⟨A, 1, none⟩ (.int .i64 xp)).setCell ⟨A, 2, none⟩ (.int .i64 xc)).setCell ⟨A, 3, none⟩ (.int .i64 xf)).setCell ⟨A, 4, none⟩ (.int .i64 xn)).alloc (.cells #[.int .i64 ye, .int .i64 yp, .int .i64 yc, .int .i64 yf, .int .i64 yn] 23)) := (Sat.alloc (Sat.cell (Sat.cell (Sat.cell (Sat.cell (Sat.cell HA 0 (.int .i64 xe)) 1 (.int .i64 xp)) 2 (.int .i64 xc)) 3 (.int .i64 xf)) 4 (.int .i64 xn)) (.cells #[.int .i64 ye, .int .i64 yp, .int .i64 yc, .int .i64 yf, .int .i64 yn] 23))
  have fin := HH.out _ HF.right.right (((((((I2.trans I3).setCell ⟨A, 0, none⟩ (.int .i64 xe)).setCell ⟨A, 1, none⟩ (.int .i64 xp)).setCell ⟨A, 2, none⟩ (.int .i64 xc)).setCell ⟨A, 3, none⟩ (.int .i64 xf)).setCell ⟨A, 4, none⟩ (.int .i64 xn)).alloc (.cells #[.int .i64 ye, .int .i64 yp, .int .i64 yc, .int .i64 yf, .int .i64 yn] 23))
  have d0 := Sat.read HF.left.at 0
  have d1 := Sat.read HF.left.at 1
  have d2 := Sat.read HF.left.at 2
  have d3 := Sat.read HF.left.at 3
  have d4 := Sat.read HF.left.at 4
  simp only [List.getElem?_toArray, List.getElem?_cons_zero, List.getElem?_cons_succ] at d0 d1 d2 d3 d4
  clear HH fz HA H3 H2 I2 I3
  go_wp2_with fail
  generalize ((((((w2.setCell ⟨A, 0, none⟩ (.int .i64 xe)).setCell ⟨A, 1, none⟩ (.int .i64 xp)).setCell ⟨A, 2, none⟩ (.int .i64 xc)).setCell ⟨A, 3, none⟩ (.int .i64 xf)).setCell ⟨A, 4, none⟩ (.int .i64 xn)).alloc (.cells #[.int .i64 ye, .int .i64 yp, .int .i64 yc, .int .i64 yf, .int .i64 yn] 23)) = W at *
  exact bodyPost_ret (v := .tuple #[.agg #[.int .i64 xe, .int .i64 xp, .int .i64 xc, .int .i64 xf, .int .i64 xn], .int .i64 0]) (by simp [results, Tryd.results15, go_sem, d0, d1, d2, d3, d4]) rfl fin

set_option maxRecDepth 100000 in
set_option maxHeartbeats 2000000 in
theorem rpick_yx (H : Sat F w) (a b : ByteArray) (ha : a.size ≤ 1000000) (hb : b.size ≤ 1000000) {xe xp xc xf xn : Int} (ea : Rt.dec a = some ⟨xe, xp, xc, xf, xn⟩) {ye yp yc yf yn : Int} (eb : Rt.dec b = some ⟨ye, yp, yc, yf, yn⟩) (hle : xe < ye) (h : ∀ w', Sat F w' → Io w w' → R (.returned (.tuple #[.agg #[.int .i64 ye, .int .i64 yp, .int .i64 yc, .int .i64 yf, .int .i64 yn], .int .i64 0])) w') :
    Calls Tryd.prog 15 #[.string a, .string b] w R := by
  have HH := Lib.hid h
  clear h
  have hle' : decide (xe ≥ ye) = false := by simpa using hle
  have HA := H.new (.cells #[.int .i64 0, .int .i64 0, .int .i64 0, .int .i64 0, .int .i64 0] 23)
  have IA := (Io.refl w).alloc (.cells #[.int .i64 0, .int .i64 0, .int .i64 0, .int .i64 0, .int .i64 0] 23)
  go_enter Tryd.func15, Tryd.ntmps15
  go_wp2_with fail
  generalize w.alloc (.cells #[.int .i64 0, .int .i64 0, .int .i64 0, .int .i64 0, .int .i64 0] 23) = v0 at *
  generalize w.heap.size = A at *
  refine rdec_some HA a ha ea ?_
  intro w1 H1 I1
  have H2 := H1.new (.cells #[.int .i64 xe, .int .i64 xp, .int .i64 xc, .int .i64 xf, .int .i64 xn] 23)
  have I2 := (IA.trans I1).alloc (.cells #[.int .i64 xe, .int .i64 xp, .int .i64 xc, .int .i64 xf, .int .i64 xn] 23)
  clear HA IA H H1 I1
  go_wp2_with fail
  generalize w1.alloc (.cells #[.int .i64 xe, .int .i64 xp, .int .i64 xc, .int .i64 xf, .int .i64 xn] 23) = v1 at *
  generalize w1.heap.size = B at *
  refine rdec_some H2 b hb eb ?_
  intro w2 H3 I3
  have HA : Sat (pts A (.cells #[.int .i64 0, .int .i64 0, .int .i64 0, .int .i64 0, .int .i64 0] 23 (0, 0)) * (pts B (.cells #[.int .i64 xe, .int .i64 xp, .int .i64 xc, .int .i64 xf, .int .i64 xn] 23 (0, 0)) * F)) w2 := H3.of_eq (by ac_rfl)
  have lA := Sat.lt HA.left
  have lB := Sat.lt HA.right.left
  have a0 := Sat.read HA.left.at 0
  have a1 := Sat.read HA.left.at 1
  have a2 := Sat.read HA.left.at 2
  have a3 := Sat.read HA.left.at 3
  have a4 := Sat.read HA.left.at 4
  have fz := fun j => Sat.free HA.left.at j
  have f0 := fz 0
  have f1 := fz 1
  have f2 := fz 2
  have f3 := fz 3
  have f4 := fz 4
  have b0 := Sat.read HA.right.left.at 0
  have b1 := Sat.read HA.right.left.at 1
  have b2 := Sat.read HA.right.left.at 2
  have b3 := Sat.read HA.right.left.at 3
  have b4 := Sat.read HA.right.left.at 4
  have nab := (HA.of_eq (star_assoc _ _ _).symm).left.ne
  simp only [List.getElem?_toArray, List.getElem?_cons_zero, List.getElem?_cons_succ] at a0 a1 a2 a3 a4 b0 b1 b2 b3 b4
  have HF : Sat (pts A (.cells #[.int .i64 ye, .int .i64 yp, .int .i64 yc, .int .i64 yf, .int .i64 yn] 23 (0, 0)) * (pts B (.cells #[.int .i64 xe, .int .i64 xp, .int .i64 xc, .int .i64 xf, .int .i64 xn] 23 (0, 0)) * F)) ((((((w2.setCell ⟨A, 0, none⟩ (.int .i64 ye)).setCell ⟨A, 1, none⟩ (.int .i64 yp)).setCell ⟨A, 2, none⟩ (.int .i64 yc)).setCell ⟨A, 3, none⟩ (.int .i64 yf)).setCell ⟨A, 4, none⟩ (.int .i64 yn)).alloc (.cells #[.int .i64 ye, .int .i64 yp, .int .i64 yc, .int .i64 yf, .int .i64 yn] 23)) := (Sat.alloc (Sat.cell (Sat.cell (Sat.cell (Sat.cell (Sat.cell HA 0 (.int .i64 ye)) 1 (.int .i64 yp)) 2 (.int .i64 yc)) 3 (.int .i64 yf)) 4 (.int .i64 yn)) (.cells #[.int .i64 ye, .int .i64 yp, .int .i64 yc, .int .i64 yf, .int .i64 yn] 23))
  have fin := HH.out _ HF.right.right (((((((I2.trans I3).setCell ⟨A, 0, none⟩ (.int .i64 ye)).setCell ⟨A, 1, none⟩ (.int .i64 yp)).setCell ⟨A, 2, none⟩ (.int .i64 yc)).setCell ⟨A, 3, none⟩ (.int .i64 yf)).setCell ⟨A, 4, none⟩ (.int .i64 yn)).alloc (.cells #[.int .i64 ye, .int .i64 yp, .int .i64 yc, .int .i64 yf, .int .i64 yn] 23))
  have d0 := Sat.read HF.left.at 0
  have d1 := Sat.read HF.left.at 1
  have d2 := Sat.read HF.left.at 2
  have d3 := Sat.read HF.left.at 3
  have d4 := Sat.read HF.left.at 4
  simp only [List.getElem?_toArray, List.getElem?_cons_zero, List.getElem?_cons_succ] at d0 d1 d2 d3 d4
  clear HH fz HA H3 H2 I2 I3
  go_wp2_with fail
  generalize ((((((w2.setCell ⟨A, 0, none⟩ (.int .i64 ye)).setCell ⟨A, 1, none⟩ (.int .i64 yp)).setCell ⟨A, 2, none⟩ (.int .i64 yc)).setCell ⟨A, 3, none⟩ (.int .i64 yf)).setCell ⟨A, 4, none⟩ (.int .i64 yn)).alloc (.cells #[.int .i64 ye, .int .i64 yp, .int .i64 yc, .int .i64 yf, .int .i64 yn] 23)) = W at *
  exact bodyPost_ret (v := .tuple #[.agg #[.int .i64 ye, .int .i64 yp, .int .i64 yc, .int .i64 yf, .int .i64 yn], .int .i64 0]) (by simp [results, Tryd.results15, go_sem, d0, d1, d2, d3, d4]) rfl fin

set_option maxRecDepth 100000 in
set_option maxHeartbeats 2000000 in
theorem rpick_ny (H : Sat F w) (a b : ByteArray) (ha : a.size ≤ 1000000) (hb : b.size ≤ 1000000) (ea : Rt.dec a = none) {ye yp yc yf yn : Int} (eb : Rt.dec b = some ⟨ye, yp, yc, yf, yn⟩) (h : ∀ w', Sat F w' → Io w w' → R (.returned (.tuple #[.agg #[.int .i64 ye, .int .i64 yp, .int .i64 yc, .int .i64 yf, .int .i64 yn], .int .i64 0])) w') :
    Calls Tryd.prog 15 #[.string a, .string b] w R := by
  have HH := Lib.hid h
  clear h
  have HA := H.new (.cells #[.int .i64 0, .int .i64 0, .int .i64 0, .int .i64 0, .int .i64 0] 23)
  have IA := (Io.refl w).alloc (.cells #[.int .i64 0, .int .i64 0, .int .i64 0, .int .i64 0, .int .i64 0] 23)
  go_enter Tryd.func15, Tryd.ntmps15
  go_wp2_with fail
  generalize w.alloc (.cells #[.int .i64 0, .int .i64 0, .int .i64 0, .int .i64 0, .int .i64 0] 23) = v0 at *
  generalize w.heap.size = A at *
  refine rdec_none HA a ha ea ?_
  intro w1 H1 I1
  have H2 := H1.new (.cells #[.int .i64 0, .int .i64 0, .int .i64 0, .int .i64 0, .int .i64 0] 23)
  have I2 := (IA.trans I1).alloc (.cells #[.int .i64 0, .int .i64 0, .int .i64 0, .int .i64 0, .int .i64 0] 23)
  clear HA IA H H1 I1
  go_wp2_with fail
  generalize w1.alloc (.cells #[.int .i64 0, .int .i64 0, .int .i64 0, .int .i64 0, .int .i64 0] 23) = v1 at *
  generalize w1.heap.size = B at *
  refine rdec_some H2 b hb eb ?_
  intro w2 H3 I3
  have HA : Sat (pts A (.cells #[.int .i64 0, .int .i64 0, .int .i64 0, .int .i64 0, .int .i64 0] 23 (0, 0)) * (pts B (.cells #[.int .i64 0, .int .i64 0, .int .i64 0, .int .i64 0, .int .i64 0] 23 (0, 0)) * F)) w2 := H3.of_eq (by ac_rfl)
  have lA := Sat.lt HA.left
  have lB := Sat.lt HA.right.left
  have a0 := Sat.read HA.left.at 0
  have a1 := Sat.read HA.left.at 1
  have a2 := Sat.read HA.left.at 2
  have a3 := Sat.read HA.left.at 3
  have a4 := Sat.read HA.left.at 4
  have fz := fun j => Sat.free HA.left.at j
  have f0 := fz 0
  have f1 := fz 1
  have f2 := fz 2
  have f3 := fz 3
  have f4 := fz 4
  have b0 := Sat.read HA.right.left.at 0
  have b1 := Sat.read HA.right.left.at 1
  have b2 := Sat.read HA.right.left.at 2
  have b3 := Sat.read HA.right.left.at 3
  have b4 := Sat.read HA.right.left.at 4
  have nab := (HA.of_eq (star_assoc _ _ _).symm).left.ne
  simp only [List.getElem?_toArray, List.getElem?_cons_zero, List.getElem?_cons_succ] at a0 a1 a2 a3 a4 b0 b1 b2 b3 b4
  have HF : Sat (pts A (.cells #[.int .i64 ye, .int .i64 yp, .int .i64 yc, .int .i64 yf, .int .i64 yn] 23 (0, 0)) * (pts B (.cells #[.int .i64 0, .int .i64 0, .int .i64 0, .int .i64 0, .int .i64 0] 23 (0, 0)) * F)) ((((((w2.setCell ⟨A, 0, none⟩ (.int .i64 ye)).setCell ⟨A, 1, none⟩ (.int .i64 yp)).setCell ⟨A, 2, none⟩ (.int .i64 yc)).setCell ⟨A, 3, none⟩ (.int .i64 yf)).setCell ⟨A, 4, none⟩ (.int .i64 yn)).alloc (.cells #[.int .i64 ye, .int .i64 yp, .int .i64 yc, .int .i64 yf, .int .i64 yn] 23)) := (Sat.alloc (Sat.cell (Sat.cell (Sat.cell (Sat.cell (Sat.cell HA 0 (.int .i64 ye)) 1 (.int .i64 yp)) 2 (.int .i64 yc)) 3 (.int .i64 yf)) 4 (.int .i64 yn)) (.cells #[.int .i64 ye, .int .i64 yp, .int .i64 yc, .int .i64 yf, .int .i64 yn] 23))
  have fin := HH.out _ HF.right.right (((((((I2.trans I3).setCell ⟨A, 0, none⟩ (.int .i64 ye)).setCell ⟨A, 1, none⟩ (.int .i64 yp)).setCell ⟨A, 2, none⟩ (.int .i64 yc)).setCell ⟨A, 3, none⟩ (.int .i64 yf)).setCell ⟨A, 4, none⟩ (.int .i64 yn)).alloc (.cells #[.int .i64 ye, .int .i64 yp, .int .i64 yc, .int .i64 yf, .int .i64 yn] 23))
  have d0 := Sat.read HF.left.at 0
  have d1 := Sat.read HF.left.at 1
  have d2 := Sat.read HF.left.at 2
  have d3 := Sat.read HF.left.at 3
  have d4 := Sat.read HF.left.at 4
  simp only [List.getElem?_toArray, List.getElem?_cons_zero, List.getElem?_cons_succ] at d0 d1 d2 d3 d4
  clear HH fz HA H3 H2 I2 I3
  go_wp2_with fail
  generalize ((((((w2.setCell ⟨A, 0, none⟩ (.int .i64 ye)).setCell ⟨A, 1, none⟩ (.int .i64 yp)).setCell ⟨A, 2, none⟩ (.int .i64 yc)).setCell ⟨A, 3, none⟩ (.int .i64 yf)).setCell ⟨A, 4, none⟩ (.int .i64 yn)).alloc (.cells #[.int .i64 ye, .int .i64 yp, .int .i64 yc, .int .i64 yf, .int .i64 yn] 23)) = W at *
  exact bodyPost_ret (v := .tuple #[.agg #[.int .i64 ye, .int .i64 yp, .int .i64 yc, .int .i64 yf, .int .i64 yn], .int .i64 0]) (by simp [results, Tryd.results15, go_sem, d0, d1, d2, d3, d4]) rfl fin

set_option maxRecDepth 100000 in
set_option maxHeartbeats 2000000 in
theorem rpick_nn (H : Sat F w) (a b : ByteArray) (ha : a.size ≤ 1000000) (hb : b.size ≤ 1000000) (ea : Rt.dec a = none) (eb : Rt.dec b = none) (h : ∀ w', Sat F w' → Io w w' → R (.returned (.tuple #[.agg #[.int .i64 0, .int .i64 0, .int .i64 0, .int .i64 0, .int .i64 0], .int .i64 70])) w') :
    Calls Tryd.prog 15 #[.string a, .string b] w R := by
  have HH := Lib.hid h
  clear h
  have HA := H.new (.cells #[.int .i64 0, .int .i64 0, .int .i64 0, .int .i64 0, .int .i64 0] 23)
  have IA := (Io.refl w).alloc (.cells #[.int .i64 0, .int .i64 0, .int .i64 0, .int .i64 0, .int .i64 0] 23)
  go_enter Tryd.func15, Tryd.ntmps15
  go_wp2_with fail
  generalize w.alloc (.cells #[.int .i64 0, .int .i64 0, .int .i64 0, .int .i64 0, .int .i64 0] 23) = v0 at *
  generalize w.heap.size = A at *
  refine rdec_none HA a ha ea ?_
  intro w1 H1 I1
  have H2 := H1.new (.cells #[.int .i64 0, .int .i64 0, .int .i64 0, .int .i64 0, .int .i64 0] 23)
  have I2 := (IA.trans I1).alloc (.cells #[.int .i64 0, .int .i64 0, .int .i64 0, .int .i64 0, .int .i64 0] 23)
  clear HA IA H H1 I1
  go_wp2_with fail
  generalize w1.alloc (.cells #[.int .i64 0, .int .i64 0, .int .i64 0, .int .i64 0, .int .i64 0] 23) = v1 at *
  generalize w1.heap.size = B at *
  refine rdec_none H2 b hb eb ?_
  intro w2 H3 I3
  have HA : Sat (pts A (.cells #[.int .i64 0, .int .i64 0, .int .i64 0, .int .i64 0, .int .i64 0] 23 (0, 0)) * (pts B (.cells #[.int .i64 0, .int .i64 0, .int .i64 0, .int .i64 0, .int .i64 0] 23 (0, 0)) * F)) w2 := H3.of_eq (by ac_rfl)
  have lA := Sat.lt HA.left
  have lB := Sat.lt HA.right.left
  have a0 := Sat.read HA.left.at 0
  have a1 := Sat.read HA.left.at 1
  have a2 := Sat.read HA.left.at 2
  have a3 := Sat.read HA.left.at 3
  have a4 := Sat.read HA.left.at 4
  have fz := fun j => Sat.free HA.left.at j
  have f0 := fz 0
  have f1 := fz 1
  have f2 := fz 2
  have f3 := fz 3
  have f4 := fz 4
  have b0 := Sat.read HA.right.left.at 0
  have b1 := Sat.read HA.right.left.at 1
  have b2 := Sat.read HA.right.left.at 2
  have b3 := Sat.read HA.right.left.at 3
  have b4 := Sat.read HA.right.left.at 4
  have nab := (HA.of_eq (star_assoc _ _ _).symm).left.ne
  simp only [List.getElem?_toArray, List.getElem?_cons_zero, List.getElem?_cons_succ] at a0 a1 a2 a3 a4 b0 b1 b2 b3 b4
  have HF : Sat (pts A (.cells #[.int .i64 0, .int .i64 0, .int .i64 0, .int .i64 0, .int .i64 0] 23 (0, 0)) * (pts B (.cells #[.int .i64 0, .int .i64 0, .int .i64 0, .int .i64 0, .int .i64 0] 23 (0, 0)) * F)) ((((((w2.setCell ⟨A, 0, none⟩ (.int .i64 0)).setCell ⟨A, 1, none⟩ (.int .i64 0)).setCell ⟨A, 2, none⟩ (.int .i64 0)).setCell ⟨A, 3, none⟩ (.int .i64 0)).setCell ⟨A, 4, none⟩ (.int .i64 0)).alloc (.cells #[.int .i64 0, .int .i64 0, .int .i64 0, .int .i64 0, .int .i64 0] 23)) := (Sat.alloc (Sat.cell (Sat.cell (Sat.cell (Sat.cell (Sat.cell HA 0 (.int .i64 0)) 1 (.int .i64 0)) 2 (.int .i64 0)) 3 (.int .i64 0)) 4 (.int .i64 0)) (.cells #[.int .i64 0, .int .i64 0, .int .i64 0, .int .i64 0, .int .i64 0] 23))
  have fin := HH.out _ HF.right.right (((((((I2.trans I3).setCell ⟨A, 0, none⟩ (.int .i64 0)).setCell ⟨A, 1, none⟩ (.int .i64 0)).setCell ⟨A, 2, none⟩ (.int .i64 0)).setCell ⟨A, 3, none⟩ (.int .i64 0)).setCell ⟨A, 4, none⟩ (.int .i64 0)).alloc (.cells #[.int .i64 0, .int .i64 0, .int .i64 0, .int .i64 0, .int .i64 0] 23))
  have d0 := Sat.read HF.left.at 0
  have d1 := Sat.read HF.left.at 1
  have d2 := Sat.read HF.left.at 2
  have d3 := Sat.read HF.left.at 3
  have d4 := Sat.read HF.left.at 4
  simp only [List.getElem?_toArray, List.getElem?_cons_zero, List.getElem?_cons_succ] at d0 d1 d2 d3 d4
  clear HH fz HA H3 H2 I2 I3
  go_wp2_with fail
  generalize ((((((w2.setCell ⟨A, 0, none⟩ (.int .i64 0)).setCell ⟨A, 1, none⟩ (.int .i64 0)).setCell ⟨A, 2, none⟩ (.int .i64 0)).setCell ⟨A, 3, none⟩ (.int .i64 0)).setCell ⟨A, 4, none⟩ (.int .i64 0)).alloc (.cells #[.int .i64 0, .int .i64 0, .int .i64 0, .int .i64 0, .int .i64 0] 23)) = W at *
  exact bodyPost_ret (v := .tuple #[.agg #[.int .i64 0, .int .i64 0, .int .i64 0, .int .i64 0, .int .i64 0], .int .i64 70]) (by simp [results, Tryd.results15, go_sem, d0, d1, d2, d3, d4]) rfl fin

theorem rpick_any (H : Sat F w) (a b : ByteArray) (ha : a.size ≤ 1000000) (hb : b.size ≤ 1000000) (h : ∀ w', Sat F w' → Io w w' → R (.returned (pickV a b)) w') :
    Calls Tryd.prog 15 #[.string a, .string b] w R := by
  unfold pickV Rt.pick at h
  cases ea : Rt.dec a with
  | none =>
    cases eb : Rt.dec b with
    | none =>
      rw [ea, eb] at h
      exact rpick_nn H a b ha hb ea eb h
    | some y =>
      obtain ⟨ye, yp, yc, yf, yn⟩ := y
      rw [ea, eb] at h
      exact rpick_ny H a b ha hb ea eb h
  | some x =>
    obtain ⟨xe, xp, xc, xf, xn⟩ := x
    cases eb : Rt.dec b with
    | none =>
      rw [ea, eb] at h
      exact rpick_xn H a b ha hb ea eb h
    | some y =>
      obtain ⟨ye, yp, yc, yf, yn⟩ := y
      rw [ea, eb] at h
      by_cases hle : ye ≤ xe
      · simp only [hle, if_true] at h
        exact rpick_xy H a b ha hb ea eb hle h
      · simp only [hle, if_false] at h
        exact rpick_yx H a b ha hb ea eb (by omega) h
end
end Go.Proofs.YtghpfepmkngfdaaDoor
