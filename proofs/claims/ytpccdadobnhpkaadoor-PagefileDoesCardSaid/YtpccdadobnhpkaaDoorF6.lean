/-
  Chapter 6: texts as sectors, the document's example, and files that have nothing. It proves no statement by itself.
-/
import Derived.Test.YtpccdadobnhpkaaDoorPf2
namespace Go.Proofs.YtpccdadobnhpkaaDoor
open Go.RowKit
set_option linter.unusedSimpArgs false
set_option linter.unusedVariables false

/-- A text as a sector's bytes. -/
def fullS (s : ByteArray) : ByteArray := tx ((s.data.toList ++ noughts (256 - s.size)).take 256)
theorem fullS_size (s : ByteArray) : (fullS s).size = 256 := by
  unfold fullS
  rw [tx_size, List.length_take, List.length_append, noughts_length, size_list]
  omega

section
variable {F : Asn} {w : World} {R : Ending → World → Prop} {q p : Nat} {d : Dk}

set_option maxRecDepth 100000 in
set_option maxHeartbeats 1000000 in
theorem full_any (s : ByteArray) (hs : s.size ≤ 1000000) (h : R (.returned (.string (fullS s))) w) :
    Calls Tryd.prog 10 #[.string s] w R := by
  have hsb := Lib.hid hs
  have HH := Lib.hid h
  obtain ⟨L, eL⟩ : ∃ L, Hid (L = s.data.toList) := ⟨_, Lib.hid rfl⟩
  have e0 : s = tx (L ++ noughts 0) := by rw [eL.out]; simp [noughts, tx_of]
  have lL : Hid (L.length = s.size) := Lib.hid (by rw [eL.out]; rfl)
  have fS : Hid (fullS s = tx ((L ++ noughts (256 - L.length)).take 256)) := Lib.hid (by unfold fullS; rw [eL.out, size_list])
  have HF : Hid (R (.returned (.string (tx ((L ++ noughts (256 - L.length)).take 256)))) w) := Lib.hid (by rw [← fS.out]; exact h)
  have hL : Hid (L.length ≤ 1000000) := Lib.hid (by rw [lL.out]; exact hs)
  rw [e0]
  clear h hs HH e0 lL fS hsb eL
  go_enter Tryd.func10, Tryd.ntmps10
  go_wp2_with fail
  go_loop [0] (fun x => ∃ j : Nat, j ≤ 256 - L.length ∧ x = .string (tx (L ++ noughts j))) (fun x => match x with | .string x => 256 - x.size | _ => 0)
  case atStart => exact ⟨0, by omega, rfl⟩
  case round =>
    obtain ⟨j, hj, rfl⟩ := hrel
    have hsz : (tx (L ++ noughts j)).size = L.length + j := by rw [tx_size, List.length_append, noughts_length]
    by_cases hj2 : j < 256 - L.length
    · have hsz1 : ((tx (L ++ noughts j)).size : Int) < 256 := by omega
      have hsz2 : Hid ((tx (L ++ noughts (j + 1))).size = L.length + (j + 1)) := Lib.hid (by rw [tx_size, List.length_append, noughts_length])
      have hadd : ∀ W, (Op.stringOp .add (tx (L ++ noughts j)) ⟨#[0]⟩).run Tryd.prog W = .ok (.string (tx (L ++ noughts (j + 1)))) W := by
        intro W
        rw [run_string_add_sum W _ _ (by rw [hsz]; show _ + 1 ≤ _; omega), show (⟨#[0]⟩ : ByteArray) = tx [0] from rfl, tx_append, List.append_assoc, noughts_snoc]
      have HS := Lib.hid hsz
      have hjd : decide (((tx (L ++ noughts j)).size : Int) < 256) = true := by rw [decide_eq_true_eq]; exact hsz1
      clear hsz
      generalize hu1 : tx (L ++ noughts (j + 1)) = u1 at *
      have HU1 := Lib.hid hu1
      clear hu1
      generalize tx (L ++ noughts j) = u0 at *
      go_wp2_with fail
      go_round
      case rel => exact ⟨j + 1, by omega, by rw [HU1.out]⟩
      case measure =>
        have h1 := HS.out
        have h2 := hsz2.out
        simp only [h1, h2]
        omega
    · have hje : j = 256 - L.length := by omega
      have fin := HF.out
      have ex : (tx (L ++ noughts j)).extract 0 256 = tx ((L ++ noughts (256 - L.length)).take 256) := by
        apply ByteArray.ext
        apply Array.ext'
        rw [sl_ext, tx_list, tx_list, hje]
        unfold sl
        rw [List.drop_zero]
      have hz : (256 : Int) ≤ ((tx (L ++ noughts j)).size : Int) := by omega
      have hzd : decide (((tx (L ++ noughts j)).size : Int) < 256) = false := by rw [decide_eq_false_iff_not]; omega
      have EX := Lib.hid ex
      rw [← EX.out] at fin
      clear hsz ex hj hj2 hje HF EX hL
      generalize tx (L ++ noughts j) = u0 at *
      go_wp2_with fail
      exact fin

/-! ### a disk of nothing -/
/-- A disk of which no page is one. -/
structure Nul (d : Dk) : Prop where
  ok : d.Ok
  one : d.sure.length ≤ 1
  down : d.down = false
  pend : d.pend = []
theorem Nul.new {n : Nat} (h : n ≤ 1) : Nul (Dk.new n) := ⟨Dk.new_ok n (by omega), by simp [Dk.new]; exact h, rfl, rfl⟩
theorem Nul.pageE {d : Dk} (h : Nul d) (i : Int) : d.pageE i = 40 := by
  unfold Dk.pageE
  rw [if_pos]
  have := h.one
  omega
theorem Nul.at1 {d : Dk} (h : Nul d) : d.atE 1 = 40 := by
  unfold Dk.atE
  rw [h.down, if_neg (by decide), if_neg (by have := h.one; omega)]
theorem Nul.sync {d : Dk} (h : Nul d) : d.sync = d ∧ d.syncE = 0 := by
  unfold Dk.sync Dk.syncE
  rw [h.down]
  refine ⟨?_, rfl⟩
  have := h.pend
  cases d
  simp only at this
  subst this
  rfl

set_option maxRecDepth 100000 in
set_option maxHeartbeats 1000000 in
theorem none_any (hv : Hv F) (H : Sat (IsPf q p d * F) w) (nd : Nul d) (hr : d.reads ≤ 4000000000000000000) (hw : d.writes ≤ 4000000000000000000) (i : Int) (k : UInt8) (s : ByteArray) (hs : s.size ≤ 1000000)
    (h : ∀ w', Sat (IsPf q p d * F) w' → Io w w' → R (.returned (.bool true)) w') :
    Calls Tryd.prog 16 #[.pointer (some ⟨q, 0, none⟩), .int .i64 i, .int .u8 (k.toNat : Int), .string s] w R := by
  have hs9 : s.size ≤ 9223372036854775807 := by omega
  have ND := Lib.hid nd
  have HS := Lib.hid hs
  have HS9 := Lib.hid hs9
  have HR := Lib.hid hr
  have HW := Lib.hid hw
  have HH := Lib.hid h
  have HP : Hid (d.pend.length ≤ 1000000) := Lib.hid (by rw [nd.pend]; exact Nat.zero_le _)
  have HM : Hid (d.sure.length ≤ 16384) := Lib.hid (by have := nd.one; omega)
  clear h nd hs hs9 hr hw
  go_enter Tryd.func16, Tryd.ntmps16
  go_wp2_with fail
  refine pf_read hv H ND.out.ok HR.out i k ?_
  rw [show d.pfR i = d from by unfold Dk.pfR; rw [ND.out.pageE]; rfl, show d.pfE i k = 40 from by unfold Dk.pfE; rw [ND.out.pageE]; rfl, show d.pfS i k = ByteArray.empty from by unfold Dk.pfS Dk.pfE; rw [ND.out.pageE]; rfl]
  intro w1 H1 I1
  have J1 := I1
  clear H I1
  go_wp2_with fail
  refine pf_write hv H1 ND.out.ok HW.out HP.out i k s HS9.out ?_
  rw [show d.pfW i k s = d from by unfold Dk.pfW; rw [ND.out.pageE]; rfl, show d.pfWE i k s = 40 from by unfold Dk.pfWE; rw [ND.out.pageE]; rfl]
  intro w2 H2 I2
  have J2 := J1.trans I2
  clear H1 I2 J1
  go_wp2_with fail
  refine pf_slot H2 ND.out.ok HR.out 1 ?_
  rw [show d.slotR 1 = d from by unfold Dk.slotR Dk.read; rw [ND.out.at1]; rfl, show d.slotE 1 = 40 from by unfold Dk.slotE; rw [ND.out.at1]; rfl, show d.slotS 1 = ByteArray.empty from by unfold Dk.slotS Dk.readS; rw [ND.out.at1]; rfl]
  intro w3 H3 I3
  have J3 := J2.trans I3
  clear H2 I3 J2
  go_wp2_with fail
  refine full_any s HS.out ?_
  go_wp2_with fail
  refine pf_put H3 ND.out.ok HW.out HP.out 1 (fullS s) (by rw [fullS_size]; decide) ?_
  rw [show d.putR 1 (fullS s) = d from by unfold Dk.putR Dk.write; rw [ND.out.at1]; rfl, show d.putE 1 (fullS s) = 40 from by unfold Dk.putE Dk.writeE; rw [ND.out.at1]; rfl]
  intro w4 H4 I4
  have J4 := J3.trans I4
  clear H3 I4 J3
  obtain ⟨lq, c0⟩ := pf_cells H4
  go_wp2_with fail
  refine sync_any (pf_disk H4) ND.out.ok HP.out ?_
  rw [ND.out.sync.1, ND.out.sync.2]
  intro w5 H5 I5
  have J5 := J4.trans I5
  have H5' := pf_back H5
  clear H4 I5 J4 lq c0 H5
  have hmx : max (d.sure.length : Int) 2 = 2 := by have := ND.out.one; omega
  go_wp2_with fail
  refine pf_room H5' HM.out ?_
  rw [hmx]
  go_wp2_with fail
  exact HH.out w5 H5' J5
end

/-! ### the document's example -/
def ab6 : ByteArray := ⟨#[97, 98]⟩
def wf0 : Dk := Dk.new 4
def wf1 : Dk := wf0.pfW 3 1 ab6
def wf2 : Dk := wf1.pfR 3
def wf3 : Dk := wf2.pfR 3
def wf4 : Dk := wf3.pfR 2
def wfS : ByteArray := sealS 3 1 ab6
theorem ab6_seal : sealE 3 ab6 = 0 := by unfold sealE; rw [if_neg (by decide)]; decide
theorem wfS_open : pgOpen 3 wfS = some (1, ab6) := pgOpen_iff.2 ⟨by decide, by decide, by unfold wfS sealS; rw [if_pos ab6_seal]⟩
theorem wfS_size : wfS.size = 256 := by unfold wfS sealS; rw [if_pos ab6_seal, tx_size, pgBytes_length (by decide)]
theorem zero_open (i : Int) (hi : 0 < i) : pgOpen i (rp 256 0) = none := by
  cases ho : pgOpen i (rp 256 0) with
  | none => rfl
  | some x =>
    obtain ⟨k, b⟩ := x
    obtain ⟨hb, hf, e⟩ := pgOpen_iff.1 ho
    have e2 : List.replicate 256 0 = pgBytes i k b := tx_inj (show tx (List.replicate 256 0) = _ from e)
    have e3 : sl (List.replicate 256 (0 : UInt8)) 4 8 = be 4 i.toNat := by rw [e2, pg_4 hb]
    have e4 : un (sl (List.replicate 256 (0 : UInt8)) 4 8) = 0 := by decide
    rw [e3, un_be] at e4
    simp [fits] at hf
    have e5 : (256 : Nat) ^ 4 = 4294967296 := rfl
    rw [e5] at e4
    omega
theorem wf1_eq : wf1 = ⟨List.replicate 4 (rp 256 0), [(3, wfS)], -1, false, 0, 1⟩ := by
  unfold wf1 Dk.pfW Dk.pageE Dk.write Dk.atE
  rw [ab6_seal]
  simp [wf0, Dk.new]
  rw [show sealS 3 1 ab6 = wfS from rfl, wfS_size]
  simp
theorem wf2_eq : wf2 = ⟨List.replicate 4 (rp 256 0), [(3, wfS)], -1, false, 1, 1⟩ := by unfold wf2 Dk.pfR Dk.pageE Dk.read Dk.atE; rw [wf1_eq]; simp
theorem wf3_eq : wf3 = ⟨List.replicate 4 (rp 256 0), [(3, wfS)], -1, false, 2, 1⟩ := by unfold wf3 Dk.pfR Dk.pageE Dk.read Dk.atE; rw [wf2_eq]; simp
theorem wf4_eq : wf4 = ⟨List.replicate 4 (rp 256 0), [(3, wfS)], -1, false, 3, 1⟩ := by unfold wf4 Dk.pfR Dk.pageE Dk.read Dk.atE; rw [wf3_eq]; simp
theorem wf_r1 : wf1.readS 3 = wfS := by unfold Dk.readS Dk.atE Dk.now; rw [wf1_eq]; simp [Dk.last]
theorem wf_r2 : wf2.readS 3 = wfS := by unfold Dk.readS Dk.atE Dk.now; rw [wf2_eq]; simp [Dk.last]
theorem wf_r3 : wf3.readS 2 = rp 256 0 := by unfold Dk.readS Dk.atE Dk.now; rw [wf3_eq]; simp [Dk.last]
theorem wf_e1 : wf1.pfE 3 1 = 0 := by unfold Dk.pfE Dk.pageE Dk.atE; rw [wf_r1, wfS_open, wf1_eq]; simp
theorem wf_s1 : wf1.pfS 3 1 = ab6 := by unfold Dk.pfS; rw [wf_e1, if_pos rfl, wf_r1, wfS_open]
theorem wf_e2 : wf2.pfE 3 2 = 3 := by unfold Dk.pfE Dk.pageE Dk.atE; rw [wf_r2, wfS_open, wf2_eq]; simp
theorem wf_s2 : wf2.pfS 3 2 = ByteArray.empty := by unfold Dk.pfS; rw [wf_e2]; rfl
theorem wf_e3 : wf3.pfE 2 1 = 3 := by unfold Dk.pfE Dk.pageE Dk.atE; rw [wf_r3, zero_open 2 (by decide), wf3_eq]; simp
theorem wf_s3 : wf3.pfS 2 1 = ByteArray.empty := by unfold Dk.pfS; rw [wf_e3]; rfl
theorem wf_w0 : wf0.pfWE 1 1 ab6 = 40 ∧ wf0.pfW 1 1 ab6 = wf0 := by
  unfold Dk.pfWE Dk.pfW Dk.pageE
  constructor <;> rw [if_pos] <;> simp
theorem wf_w1 : wf0.pfWE 3 1 ab6 = 0 := by
  unfold Dk.pfWE Dk.pageE Dk.writeE Dk.atE
  rw [ab6_seal, show sealS 3 1 ab6 = wfS from rfl, wfS_size]
  simp [wf0, Dk.new]
theorem wf_oks : wf0.Ok ∧ wf1.Ok ∧ wf2.Ok ∧ wf3.Ok := by
  have k0 : wf0.Ok := Dk.new_ok 4 (by decide)
  have k1 : wf1.Ok := by
    unfold wf1 Dk.pfW
    split
    · exact k0
    · split
      · exact k0
      · exact Dk.write_ok' k0 _ _
  have k2 : wf2.Ok := by unfold wf2 Dk.pfR; split; exact k1; exact Dk.read_ok' k1 _
  have k3 : wf3.Ok := by unfold wf3 Dk.pfR; split; exact k2; exact Dk.read_ok' k2 _
  exact ⟨k0, k1, k2, k3⟩

section
variable {F : Asn} {w : World} {R : Ending → World → Prop} {q p : Nat} {d : Dk}
set_option maxRecDepth 100000 in
set_option maxHeartbeats 1000000 in
theorem works6 (hv : Hv F) (H : Sat F w) (h : ∀ w', Sat F w' → Io w w' → R (.returned (.bool true)) w') :
    Calls Tryd.prog 7 #[] w R := by
  have HH := Lib.hid h
  clear h
  have OK := Lib.hid wf_oks
  go_enter Tryd.func7, Tryd.ntmps7
  go_wp2_with fail
  refine new_any 4 (by omega) (by omega) H ?_
  rw [show (min (max 4 0) 16384 : Int).toNat = 4 from rfl, show Dk.new 4 = wf0 from rfl]
  intro p w1 H1 I1
  go_wp2_with fail
  refine pf_new H1 ?_
  intro q w2 H2 I2
  have J2 := I1.trans I2
  clear H H1 I1 I2
  go_wp2_with fail
  refine pf_write hv H2 OK.out.1 (by simp [wf0, Dk.new]) (by simp [wf0, Dk.new]) 1 1 ab6 (by decide) ?_
  rw [wf_w0.1, wf_w0.2]
  intro w3 H3 I3
  have J3 := J2.trans I3
  clear J2 H2 I3
  go_wp2_with fail
  refine pf_write hv H3 OK.out.1 (by simp [wf0, Dk.new]) (by simp [wf0, Dk.new]) 3 1 ab6 (by decide) ?_
  rw [wf_w1, show wf0.pfW 3 1 ab6 = wf1 from rfl]
  intro w4 H4 I4
  have J4 := J3.trans I4
  clear J3 H3 I4
  go_wp2_with fail
  refine pf_read hv H4 OK.out.2.1 (by rw [wf1_eq]; decide) 3 1 ?_
  rw [wf_e1, wf_s1, show wf1.pfR 3 = wf2 from rfl]
  intro w5 H5 I5
  have J5 := J4.trans I5
  clear J4 H4 I5
  go_wp2_with fail
  refine pf_read hv H5 OK.out.2.2.1 (by rw [wf2_eq]; decide) 3 2 ?_
  rw [wf_e2, wf_s2, show wf2.pfR 3 = wf3 from rfl]
  intro w6 H6 I6
  have J6 := J5.trans I6
  clear J5 H5 I6
  go_wp2_with fail
  refine pf_read hv H6 OK.out.2.2.2 (by rw [wf3_eq]; decide) 2 1 ?_
  rw [wf_e3, wf_s3, show wf3.pfR 2 = wf4 from rfl]
  intro w7 H7 I7
  have J7 := J6.trans I7
  clear J6 H6 I7
  have hl : wf4.sure.length = 4 := by rw [wf4_eq]; rfl
  have hmx : max (wf4.sure.length : Int) 2 = 4 := by rw [hl]; rfl
  have hab : ab6.toList = [97, 98] := by rw [ByteArray.toList_eq]; rfl
  go_wp2_with fail
  refine pf_room H7 (by rw [hl]; decide) ?_
  rw [hmx]
  have fin := HH.out w7 H7.right J7
  go_wp2_with fail
  exact fin
end
end Go.Proofs.YtpccdadobnhpkaaDoor
