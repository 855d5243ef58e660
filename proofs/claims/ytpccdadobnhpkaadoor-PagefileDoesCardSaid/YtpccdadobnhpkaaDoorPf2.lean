/-
  Files of pages on a disk: Read, Write, Room, by their walks. It proves no statement by itself.
-/
import Derived.Test.YtpccdadobnhpkaaDoorPf
import Derived.Test.YtpccdadobnhpkaaDoorPgX
import Derived.Test.YtpccdadobnhpkaaDoorWorks
namespace Go.Proofs.YtpccdadobnhpkaaDoor
open Go.RowKit
set_option linter.unusedSimpArgs false
set_option linter.unusedVariables false

namespace Dk
/-- What a call at page i errs with, ahead of all else. -/
def pageE (d : Dk) (i : Int) : Int := if i < 2 ∨ (d.sure.length : Int) ≤ i then 40 else 0
/-- What Read errs with, answers, and leaves. -/
def pfE (d : Dk) (i : Int) (k : UInt8) : Int :=
  if d.pageE i ≠ 0 then 40 else if d.atE i ≠ 0 then d.atE i else match pgOpen i (d.readS i) with
  | some (k', _) => if k' = k then 0 else 3
  | none => 3
def pfS (d : Dk) (i : Int) (k : UInt8) : ByteArray :=
  if d.pfE i k = 0 then (match pgOpen i (d.readS i) with | some (_, b) => b | none => ByteArray.empty) else ByteArray.empty
def pfR (d : Dk) (i : Int) : Dk := if d.pageE i ≠ 0 then d else d.read i
/-- What Write errs with, and leaves. -/
def pfWE (d : Dk) (i : Int) (k : UInt8) (b : ByteArray) : Int :=
  if d.pageE i ≠ 0 then 40 else if sealE i b ≠ 0 then sealE i b else d.writeE i (sealS i k b)
def pfW (d : Dk) (i : Int) (k : UInt8) (b : ByteArray) : Dk :=
  if d.pageE i ≠ 0 then d else if sealE i b ≠ 0 then d else d.write i (sealS i k b)
end Dk

theorem sealS_size (i : Int) (k : UInt8) (b : ByteArray) : (sealS i k b).size ≤ 256 := by
  unfold sealS
  split
  · rename_i e
    have hb : b.size ≤ 240 := by
      unfold sealE at e
      split at e
      · cases e
      · omega
    rw [tx_size, pgBytes_length hb]
    omega
  · exact Nat.zero_le _
theorem now_size {d : Dk} (ok : d.Ok) (j : Nat) (hj : j < d.sure.length) : (d.now j).size = 256 := by
  unfold Dk.now
  cases hl : Dk.last (j : Int) d.pend with
  | none => exact ok.sect j hj
  | some s =>
    have key : ∀ (l : List (Int × ByteArray)), (∀ q ∈ l, q.2.size = 256) → ∀ s, Dk.last (j : Int) l = some s → s.size = 256 := by
      intro l
      induction l with
      | nil => intro _ s h; cases h
      | cons p l ih =>
        intro hq s h
        rw [Dk.last] at h
        cases hx : Dk.last (j : Int) l with
        | some t =>
          rw [hx] at h
          cases h
          exact ih (fun q hq' => hq q (List.mem_cons_of_mem _ hq')) s hx
        | none =>
          rw [hx] at h
          simp only at h
          split at h
          · cases h; exact hq p (List.mem_cons_self ..)
          · cases h
    exact key _ ok.txt s hl
theorem readS_size {d : Dk} (ok : d.Ok) (i : Int) : (d.readS i).size ≤ 256 := by
  unfold Dk.readS
  split
  · rename_i e
    have := Dk.at_range e
    rw [now_size ok i.toNat (by omega)]
    omega
  · exact Nat.zero_le _

section
variable {q p : Nat} {d : Dk} {F : Asn} {w : World} {R : Ending → World → Prop}

theorem pf_page (H : Sat (IsPf q p d * F) w) (hm : d.sure.length ≤ 16384) (i : Int) (h : R (.returned (.int .i64 (d.pageE i))) w) :
    Calls Tryd.prog 33 #[.pointer (some ⟨q, 0, none⟩), .int .i64 i] w R := by
  obtain ⟨lq, c0⟩ := pf_cells H
  have HD := pf_disk H
  unfold Dk.pageE at h
  by_cases h0 : i < 2
  · rw [if_pos (.inl h0)] at h
    have hd : decide (i < 2) = true := by simpa using h0
    go_enter Tryd.func33, Tryd.ntmps33
    go_wp2_with fail
    exact h
  · have hd : decide (i < 2) = false := by simpa using h0
    by_cases h2 : (d.sure.length : Int) ≤ i
    · rw [if_pos (.inr h2)] at h
      have hd2 : decide ((d.sure.length : Int) ≤ i) = true := by simpa using h2
      go_enter Tryd.func33, Tryd.ntmps33
      go_wp2_with (go_at_call 46; refine dk_sectors HD hm ?_)
      exact h
    · rw [if_neg (by omega)] at h
      have hd2 : decide ((d.sure.length : Int) ≤ i) = false := by simpa using h2
      go_enter Tryd.func33, Tryd.ntmps33
      go_wp2_with (go_at_call 46; refine dk_sectors HD hm ?_)
      exact h

theorem pf_room (H : Sat (IsPf q p d * F) w) (hm : d.sure.length ≤ 16384) (h : R (.returned (.int .i64 (max (d.sure.length : Int) 2))) w) :
    Calls Tryd.prog 29 #[.pointer (some ⟨q, 0, none⟩)] w R := by
  obtain ⟨lq, c0⟩ := pf_cells H
  have HD := pf_disk H
  go_enter Tryd.func29, Tryd.ntmps29
  go_wp2_with (go_at_call 46; refine dk_sectors HD hm ?_)
  exact h

set_option maxRecDepth 100000 in
set_option maxHeartbeats 1000000 in
theorem pf_read (hv : Hv F) (H : Sat (IsPf q p d * F) w) (ok : d.Ok) (hr : d.reads ≤ 4000000000000000000) (i : Int) (k : UInt8)
    (h : ∀ w', Sat (IsPf q p (d.pfR i) * F) w' → Io w w' → R (.returned (.tuple #[.string (d.pfS i k), .int .i64 (d.pfE i k)])) w') :
    Calls Tryd.prog 14 #[.pointer (some ⟨q, 0, none⟩), .int .i64 i, .int .u8 (k.toNat : Int)] w R := by
  obtain ⟨lq, c0⟩ := pf_cells H
  have hm := ok.many
  by_cases hp : d.pageE i = 0
  · have e1 : d.pfR i = d.read i := by unfold Dk.pfR; rw [if_neg (by simpa using hp)]
    rw [e1] at h
    have hsz : (d.readS i).size ≤ 1000000 := by have := readS_size ok i; omega
    have eE : d.pfE i k = if d.atE i ≠ 0 then d.atE i else match pgOpen i (d.readS i) with | some (k', _) => if k' = k then 0 else 3 | none => 3 := by
      unfold Dk.pfE; rw [if_neg (by simpa using hp)]
    have HP := Lib.hid hp
    have HS := Lib.hid hsz
    have HH := Lib.hid h
    clear h hp hsz e1
    go_enter Tryd.func14, Tryd.ntmps14
    go_wp2_with (go_at_call 33; refine pf_page H hm i ?_; rw [HP.out])
    refine read_any (pf_disk H) ok hr i ?_
    intro w1 H1 I1
    by_cases ha : d.atE i = 0
    · have eE2 : d.pfE i k = match pgOpen i (d.readS i) with | some (k', _) => if k' = k then 0 else 3 | none => 3 := by rw [eE, if_neg (by simpa using ha)]
      have eS : Hid (d.pfS i k = if d.pfE i k = 0 then (match pgOpen i (d.readS i) with | some (_, b) => b | none => ByteArray.empty) else ByteArray.empty) := Lib.hid rfl
      have E2 := Lib.hid eE2
      rw [ha]
      clear eE eE2 ha
      generalize d.pfE i k = pe at *
      generalize d.pfS i k = ps at *
      obtain ⟨S, hS⟩ : ∃ S, S = d.readS i := ⟨_, rfl⟩
      rw [← hS] at E2 eS HS ⊢
      clear hS
      go_wp2_with fail
      refine open_any (F := IsPf q p (d.read i) * F) hv.with (pf_back H1) i S HS.out ?_
      intro w2 H2 I2
      have fin := HH.out w2 H2 (I1.trans I2)
      clear HH H1 H2 H I1 I2
      cases ho : pgOpen i S with
      | none =>
        have eo : openV i S = .tuple #[.int .u8 0, .string ByteArray.empty, .int .i64 3] := by unfold openV; rw [ho]
        have x1 : pe = 3 := by rw [E2.out, ho]
        have x2 : ps = ByteArray.empty := by rw [eS.out, x1]; rfl
        rw [eo]
        rw [x1, x2] at fin
        clear eo ho E2 eS
        go_wp2_with fail
        exact fin
      | some x =>
        obtain ⟨k', b'⟩ := x
        have eo : openV i S = .tuple #[.int .u8 (k'.toNat : Nat), .string b', .int .i64 0] := by unfold openV; rw [ho]
        by_cases hk : k' = k
        · have x1 : pe = 0 := by rw [E2.out, ho]; simp [hk]
          have x2 : ps = b' := by rw [eS.out, x1, ho]; rfl
          have bk : ((k'.toNat : Int) == (k.toNat : Int)) = true := by rw [hk, beq_iff_eq]
          have bk2 : ((k'.toNat : Int) != (k.toNat : Int)) = false := by rw [bne_eq_false_iff_eq, hk]
          rw [eo]
          rw [x1, x2] at fin
          clear eo ho E2 eS hk
          go_wp2_with fail
          exact fin
        · have x1 : pe = 3 := by rw [E2.out, ho]; simp [hk]
          have x2 : ps = ByteArray.empty := by rw [eS.out, x1]; rfl
          have ne : ¬ (k'.toNat : Int) = (k.toNat : Int) := fun e => hk (UInt8.toNat_inj.1 (by omega))
          have bk : ((k'.toNat : Int) == (k.toNat : Int)) = false := by rw [beq_eq_false_iff_ne]; exact ne
          have bk2 : ((k'.toNat : Int) != (k.toNat : Int)) = true := by rw [bne_iff_ne]; exact ne
          rw [eo]
          rw [x1, x2] at fin
          clear eo ho E2 eS hk
          go_wp2_with fail
          exact fin
    · have eE2 : d.pfE i k = d.atE i := by rw [eE, if_pos ha]
      have eS : d.pfS i k = ByteArray.empty := by unfold Dk.pfS; rw [eE2, if_neg ha]
      have fin := HH.out w1 (pf_back H1) I1
      rw [eE2, eS] at fin
      have hb : (d.atE i != 0) = true := by rw [bne_iff_ne]; exact ha
      clear eE eE2 eS HH ha H1 H HS
      generalize d.atE i = e0 at *
      generalize d.readS i = s0 at *
      go_wp2_with fail
      exact fin
  · have e0 : d.pageE i = 40 := by unfold Dk.pageE at hp ⊢; split <;> simp_all
    have e1 : d.pfR i = d := by unfold Dk.pfR; rw [if_pos hp]
    have e2 : d.pfE i k = 40 := by unfold Dk.pfE; rw [if_pos hp]
    have e3 : d.pfS i k = ByteArray.empty := by unfold Dk.pfS; rw [e2]; rfl
    rw [e1, e2, e3] at h
    have fin := h w H (Io.refl w)
    have HP := Lib.hid e0
    clear e0 e1 e2 e3 hp h
    go_enter Tryd.func14, Tryd.ntmps14
    go_wp2_with (go_at_call 33; refine pf_page H hm i ?_; rw [HP.out])
    exact fin

set_option maxRecDepth 100000 in
set_option maxHeartbeats 1000000 in
theorem pf_write (hv : Hv F) (H : Sat (IsPf q p d * F) w) (ok : d.Ok) (hr : d.writes ≤ 4000000000000000000) (hp : d.pend.length ≤ 1000000) (i : Int) (k : UInt8) (b : ByteArray) (hb : b.size ≤ 9223372036854775807)
    (h : ∀ w', Sat (IsPf q p (d.pfW i k b) * F) w' → Io w w' → R (.returned (.int .i64 (d.pfWE i k b))) w') :
    Calls Tryd.prog 12 #[.pointer (some ⟨q, 0, none⟩), .int .i64 i, .int .u8 (k.toNat : Int), .string b] w R := by
  obtain ⟨lq, c0⟩ := pf_cells H
  have hm := ok.many
  by_cases hpg : d.pageE i = 0
  · have e1 : d.pfW i k b = if sealE i b ≠ 0 then d else d.write i (sealS i k b) := by unfold Dk.pfW; rw [if_neg (by simpa using hpg)]
    have e2 : d.pfWE i k b = if sealE i b ≠ 0 then sealE i b else d.writeE i (sealS i k b) := by unfold Dk.pfWE; rw [if_neg (by simpa using hpg)]
    rw [e1, e2] at h
    have zs := sealS_size i k b
    have HP := Lib.hid hpg
    have HB := Lib.hid hb
    have HH := Lib.hid h
    have ZS := Lib.hid zs
    clear h hpg e1 e2 hb zs
    go_enter Tryd.func12, Tryd.ntmps12
    go_wp2_with (go_at_call 33; refine pf_page H hm i ?_; rw [HP.out])
    refine seal_any (F := IsPf q p d * F) hv.with H i k b HB.out ?_
    intro w1 H1 I1
    by_cases hs : sealE i b = 0
    · have HH2 := HH.out
      simp only [hs, ne_eq, not_true_eq_false, if_false] at HH2
      have HH3 := Lib.hid HH2
      obtain ⟨S, hS⟩ : ∃ S, S = sealS i k b := ⟨_, rfl⟩
      rw [hs]
      rw [← hS] at ZS HH3 ⊢
      clear HH HH2 hs hS
      obtain ⟨lq1, c1⟩ := pf_cells H1
      go_wp2_with fail
      refine write_any (pf_disk H1) ok hr hp i S (by have := ZS.out; omega) ?_
      intro w2 H2 I2
      have fin := HH3.out w2 (pf_back H2) (I1.trans I2)
      clear HH3 H1 H2 H
      go_wp2_with fail
      exact fin
    · have HH2 := HH.out
      simp only [hs, ne_eq, not_false_eq_true, if_true] at HH2
      have fin := HH2 w1 H1 I1
      have hb : (sealE i b != 0) = true := by rw [bne_iff_ne]; exact hs
      clear HH HH2 hs H1 H ZS
      generalize sealE i b = e0 at *
      generalize sealS i k b = s0 at *
      go_wp2_with fail
      exact fin
  · have e0 : d.pageE i = 40 := by unfold Dk.pageE at hpg ⊢; split <;> simp_all
    have e1 : d.pfW i k b = d := by unfold Dk.pfW; rw [if_pos hpg]
    have e2 : d.pfWE i k b = 40 := by unfold Dk.pfWE; rw [if_pos hpg]
    rw [e1, e2] at h
    have fin := h w H (Io.refl w)
    have HP := Lib.hid e0
    clear e0 e1 e2 hpg h
    go_enter Tryd.func12, Tryd.ntmps12
    go_wp2_with (go_at_call 33; refine pf_page H hm i ?_; rw [HP.out])
    exact fin
end
end Go.Proofs.YtpccdadobnhpkaaDoor
