/-
  The document's file of pages: what its calls do, by their walks. It proves no statement by itself.
-/
import Derived.Test.YtpccdadobnhpkaaDoorF6
import Derived.Test.YtpccdadobnhpkaaDoorPgOp
import Derived.Test.YtpccdadobnhpkaaDoorRefN
namespace Go.Proofs.YtpccdadobnhpkaaDoor
open Go.RowKit
set_option linter.unusedSimpArgs false
set_option linter.unusedVariables false

/-- THE DOCUMENT's FILE ON ITS DISK d LIES AT g. -/
def IsGf (g q : Nat) (d : Dk) : Asn := pts g (.cells #[.pointer (some ⟨q, 0, none⟩)] 53 (0, 0)) * IsRf q d

section
variable {g q : Nat} {d : Dk} {F : Asn} {w : World} {R : Ending → World → Prop}

theorem gf_cells (H : Sat (IsGf g q d * F) w) : g < w.heap.size ∧ w.cell? ⟨g, 0, none⟩ = some (.pointer (some ⟨q, 0, none⟩)) := by
  have h : Sat (pts g (.cells #[.pointer (some ⟨q, 0, none⟩)] 53 (0, 0)) * (IsRf q d * F)) w := H.of_eq (by unfold IsGf; ac_rfl)
  exact ⟨h.left.lt, Sat.read h.left.at 0⟩
theorem gf_disk (H : Sat (IsGf g q d * F) w) : Sat (IsRf q d * (pts g (.cells #[.pointer (some ⟨q, 0, none⟩)] 53 (0, 0)) * F)) w := H.of_eq (by unfold IsGf; ac_rfl)
theorem gf_back (H : Sat (IsRf q d * (pts g (.cells #[.pointer (some ⟨q, 0, none⟩)] 53 (0, 0)) * F)) w) : Sat (IsGf g q d * F) w := H.of_eq (by unfold IsGf; ac_rfl)
theorem gf_sure (H : Sat (IsRf q d * F) w) : q < w.heap.size ∧ ∃ sa sc, w.cell? ⟨q, 0, none⟩ = some (.slice sa d.sure.length sc) := by
  obtain ⟨sv, wv, HQ⟩ := isRf_open H
  have S := rf_seen HQ
  obtain ⟨sa, sc, rfl, _⟩ := row_any (rf_srow ▸ HQ)
  exact ⟨S.lp, sa, sc, S.c0⟩
theorem page_no {i : Int} (h : ¬ (i < 2 ∨ (d.sure.length : Int) ≤ i)) : d.pageE i = 0 := by unfold Dk.pageE; rw [if_neg h]
theorem page_yes {i : Int} (h : i < 2 ∨ (d.sure.length : Int) ≤ i) : d.pageE i = 40 := by unfold Dk.pageE; rw [if_pos h]

set_option maxRecDepth 100000 in
set_option maxHeartbeats 1000000 in
theorem gf_read (H : Sat (IsGf g q d * F) w) (ok : d.Ok) (hr : d.reads ≤ 4000000000000000000) (hp : d.pend.length ≤ 1000000) (i : Int) (hi9 : i ≤ 9223372036854775807) (k : UInt8)
    (h : ∀ w', Sat (IsGf g q (d.pfR i) * F) w' → Io w w' → R (.returned (.tuple #[.string (d.pfS i k), .int .i64 (d.pfE i k)])) w') :
    Calls Tryd.prog 19 #[.pointer (some ⟨g, 0, none⟩), .int .i64 i, .int .u8 (k.toNat : Int)] w R := by
  obtain ⟨lg, c0⟩ := gf_cells H
  obtain ⟨lq, sa, sc, c1⟩ := gf_sure (gf_disk H)
  have hm := ok.many
  by_cases h2 : i < 2
  · have e0 := page_yes (d := d) (.inl h2)
    have e1 : d.pfR i = d := by unfold Dk.pfR; rw [e0]; rfl
    have e2 : d.pfE i k = 40 := by unfold Dk.pfE; rw [e0]; rfl
    have e3 : d.pfS i k = ByteArray.empty := by unfold Dk.pfS; rw [e2]; rfl
    rw [e1, e2, e3] at h
    have fin := h w H (Io.refl w)
    clear h e0 e1 e2 e3
    go_enter Tryd.func19, Tryd.ntmps19
    go_wp2_with fail
    exact fin
  by_cases hn : (d.sure.length : Int) ≤ i
  · have e0 := page_yes (d := d) (.inr hn)
    have e1 : d.pfR i = d := by unfold Dk.pfR; rw [e0]; rfl
    have e2 : d.pfE i k = 40 := by unfold Dk.pfE; rw [e0]; rfl
    have e3 : d.pfS i k = ByteArray.empty := by unfold Dk.pfS; rw [e2]; rfl
    rw [e1, e2, e3] at h
    have fin := h w H (Io.refl w)
    clear h e0 e1 e2 e3
    go_enter Tryd.func19, Tryd.ntmps19
    go_wp2_with fail
    exact fin
  have h2' : (2 : Int) ≤ i := by omega
  have hn' : i < (d.sure.length : Int) := by omega
  have e0 := page_no (d := d) (show ¬ (i < 2 ∨ (d.sure.length : Int) ≤ i) from by omega)
  have e1 : d.pfR i = d.read i := by unfold Dk.pfR; rw [e0]; rfl
  rw [e1] at h
  have eE : d.pfE i k = if d.atE i ≠ 0 then d.atE i else match pgOpen i (d.readS i) with | some (k', _) => if k' = k then 0 else 3 | none => 3 := by
    unfold Dk.pfE; rw [e0]; rfl
  have hsz : (d.readS i).size ≤ 1000000 := by have := readS_size ok i; omega
  have HS := Lib.hid hsz
  have HH := Lib.hid h
  have HI := Lib.hid hi9
  clear h hsz e0 e1 h2 hn hi9
  go_enter Tryd.func19, Tryd.ntmps19
  go_wp2_with fail
  refine rf_read (gf_disk H) ok hr hp i ?_
  intro w1 H1 I1
  by_cases ha : d.atE i = 0
  · have eE2 : d.pfE i k = match pgOpen i (d.readS i) with | some (k', _) => if k' = k then 0 else 3 | none => 3 := by rw [eE, if_neg (by simpa using ha)]
    have eS : Hid (d.pfS i k = if d.pfE i k = 0 then (match pgOpen i (d.readS i) with | some (_, b) => b | none => ByteArray.empty) else ByteArray.empty) := Lib.hid rfl
    have E2 := Lib.hid eE2
    rw [ha]
    clear eE eE2 ha
    generalize d.pfE i k = pe at *
    generalize d.pfS i k = ps at *
    obtain ⟨S, hS⟩ : ∃ S, S = d.readS i := ⟨_, rfl⟩
    rw [← hS] at E2 eS HS ⊢
    clear hS
    go_wp2_with fail
    refine ropen_any H1 i HI.out S HS.out ?_
    intro w2 H2 I2
    have fin := HH.out w2 (gf_back H2) (I1.trans I2)
    clear HH H1 H2 H I1 I2
    cases ho : pgOpen i S with
    | none =>
      have eo : ropenV i S = .tuple #[.int .u8 0, .string ByteArray.empty, .bool false] := by unfold ropenV; rw [ho]
      have x1 : pe = 3 := by rw [E2.out, ho]
      have x2 : ps = ByteArray.empty := by rw [eS.out, x1]; rfl
      rw [eo]
      rw [x1, x2] at fin
      clear eo ho E2 eS
      go_wp2_with fail
      exact fin
    | some x =>
      obtain ⟨k', b'⟩ := x
      have eo : ropenV i S = .tuple #[.int .u8 (k'.toNat : Nat), .string b', .bool true] := by unfold ropenV; rw [ho]
      by_cases hk : k' = k
      · have x1 : pe = 0 := by rw [E2.out, ho]; simp [hk]
        have x2 : ps = b' := by rw [eS.out, x1, ho]; rfl
        have bk2 : ((k'.toNat : Int) != (k.toNat : Int)) = false := by rw [bne_eq_false_iff_eq, hk]
        have bk : ((k'.toNat : Int) == (k.toNat : Int)) = true := by rw [hk, beq_iff_eq]
        rw [eo]
        rw [x1, x2] at fin
        clear eo ho E2 eS hk
        go_wp2_with fail
        exact fin
      · have x1 : pe = 3 := by rw [E2.out, ho]; simp [hk]
        have x2 : ps = ByteArray.empty := by rw [eS.out, x1]; rfl
        have ne : ¬ (k'.toNat : Int) = (k.toNat : Int) := fun e => hk (UInt8.toNat_inj.1 (by omega))
        have bk2 : ((k'.toNat : Int) != (k.toNat : Int)) = true := by rw [bne_iff_ne]; exact ne
        have bk : ((k'.toNat : Int) == (k.toNat : Int)) = false := by rw [beq_eq_false_iff_ne]; exact ne
        rw [eo]
        rw [x1, x2] at fin
        clear eo ho E2 eS hk
        go_wp2_with fail
        exact fin
  · have eE2 : d.pfE i k = d.atE i := by rw [eE, if_pos ha]
    have eS : d.pfS i k = ByteArray.empty := by unfold Dk.pfS; rw [eE2, if_neg ha]
    have fin := HH.out w1 (gf_back H1) I1
    rw [eE2, eS] at fin
    have hb : (d.atE i != 0) = true := by rw [bne_iff_ne]; exact ha
    clear eE eE2 eS HH ha H1 H HS
    generalize d.atE i = e0 at *
    generalize d.readS i = s0 at *
    go_wp2_with fail
    exact fin

set_option maxRecDepth 100000 in
set_option maxHeartbeats 1000000 in
theorem gf_put (H : Sat (IsGf g q d * F) w) (ok : d.Ok) (hr : d.writes ≤ 4000000000000000000) (hp : d.pend.length ≤ 1000000) (i : Int) (hi9 : i ≤ 9223372036854775807) (k : UInt8) (b : ByteArray) (hb : b.size ≤ 1000000)
    (h : ∀ w', Sat (IsGf g q (d.pfW i k b) * F) w' → Io w w' → R (.returned (.int .i64 (d.pfWE i k b))) w') :
    Calls Tryd.prog 20 #[.pointer (some ⟨g, 0, none⟩), .int .i64 i, .int .u8 (k.toNat : Int), .string b] w R := by
  obtain ⟨lg, c0⟩ := gf_cells H
  obtain ⟨lq, sa, sc, c1⟩ := gf_sure (gf_disk H)
  have hm := ok.many
  have zb : (b.size : Int) ≤ 1000000 := by omega
  have HB := Lib.hid hb
  clear hb
  by_cases h2 : i < 2
  · have e0 := page_yes (d := d) (.inl h2)
    have e1 : d.pfW i k b = d := by unfold Dk.pfW; rw [e0]; rfl
    have e2 : d.pfWE i k b = 40 := by unfold Dk.pfWE; rw [e0]; rfl
    rw [e1, e2] at h
    have fin := h w H (Io.refl w)
    clear h e0 e1 e2
    go_enter Tryd.func20, Tryd.ntmps20
    go_wp2_with fail
    exact fin
  by_cases hn : (d.sure.length : Int) ≤ i
  · have e0 := page_yes (d := d) (.inr hn)
    have e1 : d.pfW i k b = d := by unfold Dk.pfW; rw [e0]; rfl
    have e2 : d.pfWE i k b = 40 := by unfold Dk.pfWE; rw [e0]; rfl
    rw [e1, e2] at h
    have fin := h w H (Io.refl w)
    clear h e0 e1 e2
    go_enter Tryd.func20, Tryd.ntmps20
    go_wp2_with fail
    exact fin
  have h2' : (2 : Int) ≤ i := by omega
  have hn' : i < (d.sure.length : Int) := by omega
  have e0 := page_no (d := d) (show ¬ (i < 2 ∨ (d.sure.length : Int) ≤ i) from by omega)
  by_cases hl : 240 < (b.size : Int)
  · have hs : sealE i b = 50 := by unfold sealE; rw [if_pos (by omega)]
    have e1 : d.pfW i k b = d := by unfold Dk.pfW; rw [e0, hs]; rfl
    have e2 : d.pfWE i k b = 50 := by unfold Dk.pfWE; rw [e0, hs]; rfl
    rw [e1, e2] at h
    have fin := h w H (Io.refl w)
    clear h e0 e1 e2 hs h2 hn
    go_enter Tryd.func20, Tryd.ntmps20
    go_wp2_with fail
    exact fin
  have hl' : (b.size : Int) ≤ 240 := by omega
  have hf : fits 4 i = true := by simp [fits]; omega
  have hs : sealE i b = 0 := seal_of (by omega) hf
  have e1 : d.pfW i k b = d.write i (sealS i k b) := by unfold Dk.pfW; rw [e0, hs]; rfl
  have e2 : d.pfWE i k b = d.writeE i (sealS i k b) := by unfold Dk.pfWE; rw [e0, hs]; rfl
  have ev : rsealV i k b = .tuple #[.string (sealS i k b), .bool true] := by unfold rsealV; rw [if_pos hs]
  rw [e1, e2] at h
  have zs := sealS_size i k b
  have ZS := Lib.hid zs
  have HH := Lib.hid h
  have EV := Lib.hid ev
  have HI := Lib.hid hi9
  clear h e0 e1 e2 ev zs hs hf hl h2 hn hi9
  go_enter Tryd.func20, Tryd.ntmps20
  go_wp2_with fail
  refine rseal_any H i HI.out k b HB.out ?_
  rw [EV.out]
  intro w1 H1 I1
  obtain ⟨lg1, c01⟩ := gf_cells H1
  generalize sealS i k b = S at *
  clear EV
  go_wp2_with fail
  refine rf_put (gf_disk H1) ok hr hp i S (by have := ZS.out; omega) ?_
  intro w2 H2 I2
  have fin := HH.out w2 (gf_back H2) (I1.trans I2)
  clear HH H1 H2 H
  go_wp2_with fail
  exact fin

theorem gf_slot (H : Sat (IsGf g q d * F) w) (ok : d.Ok) (hr : d.reads ≤ 4000000000000000000) (hp : d.pend.length ≤ 1000000) (i : Int)
    (h : ∀ w', Sat (IsGf g q (d.slotR i) * F) w' → Io w w' → R (.returned (.tuple #[.string (d.slotS i), .int .i64 (d.slotE i)])) w') :
    Calls Tryd.prog 22 #[.pointer (some ⟨g, 0, none⟩), .int .i64 i] w R := by
  obtain ⟨lg, c0⟩ := gf_cells H
  unfold Dk.slotR Dk.slotS Dk.slotE at h
  by_cases hi : i < 0 ∨ 2 ≤ i
  · simp only [hi, if_true] at h
    have fin := h w H (Io.refl w)
    have b0 : (i != 0) = true := by rw [bne_iff_ne]; omega
    have b1 : (i != 1) = true := by rw [bne_iff_ne]; omega
    clear h hi
    go_enter Tryd.func22, Tryd.ntmps22
    go_wp2_with fail
    exact fin
  · simp only [hi, if_false] at h
    have way : i = 0 ∨ i = 1 := by omega
    clear hi
    rcases way with rfl | rfl
    all_goals
      go_enter Tryd.func22, Tryd.ntmps22
      go_wp2_with fail
      refine rf_read (gf_disk H) ok hr hp _ ?_
      intro w1 H1 I1
      have fin := h w1 (gf_back H1) I1
      clear h
      go_wp2_with fail
      exact fin

theorem gf_putslot (H : Sat (IsGf g q d * F) w) (ok : d.Ok) (hr : d.writes ≤ 4000000000000000000) (hp : d.pend.length ≤ 1000000) (i : Int) (s : ByteArray) (hs : s.size ≤ 1000000)
    (h : ∀ w', Sat (IsGf g q (d.putR i s) * F) w' → Io w w' → R (.returned (.int .i64 (d.putE i s))) w') :
    Calls Tryd.prog 23 #[.pointer (some ⟨g, 0, none⟩), .int .i64 i, .string s] w R := by
  obtain ⟨lg, c0⟩ := gf_cells H
  unfold Dk.putR Dk.putE at h
  by_cases hi : i < 0 ∨ 2 ≤ i
  · simp only [hi, if_true] at h
    have fin := h w H (Io.refl w)
    have b0 : (i != 0) = true := by rw [bne_iff_ne]; omega
    have b1 : (i != 1) = true := by rw [bne_iff_ne]; omega
    clear h hi
    go_enter Tryd.func23, Tryd.ntmps23
    go_wp2_with fail
    exact fin
  · simp only [hi, if_false] at h
    have way : i = 0 ∨ i = 1 := by omega
    clear hi
    rcases way with rfl | rfl
    all_goals
      go_enter Tryd.func23, Tryd.ntmps23
      go_wp2_with fail
      refine rf_put (gf_disk H) ok hr hp _ s hs ?_
      intro w1 H1 I1
      have fin := h w1 (gf_back H1) I1
      clear h
      go_wp2_with fail
      exact fin
end
end Go.Proofs.YtpccdadobnhpkaaDoor
