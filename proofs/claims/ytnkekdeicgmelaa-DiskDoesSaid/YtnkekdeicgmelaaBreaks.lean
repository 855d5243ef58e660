/-
  The statement DiskBreaks, walked: it answers true. It proves the walk alone; the row is closed elsewhere.
-/
import Derived.Test.YtnkekdeicgmelaaTwice
namespace Go.Proofs.Ytnkekdeicgmelaa
open Go.RowKit
set_option linter.unusedSimpArgs false
set_option linter.unusedVariables false

/-- So many writes of page(2). -/
def bpend (k : Nat) : List (Int × ByteArray) := (List.range k).map fun i => (((i % 4 : Nat) : Int), pageS 2)
theorem bpend_length (k : Nat) : (bpend k).length = k := by simp [bpend]
theorem bpend_succ (k : Nat) : bpend (k + 1) = bpend k ++ [(((k % 4 : Nat) : Int), pageS 2)] := by simp [bpend, List.range_succ]

def b4 : List ByteArray := [rp 256 0, rp 256 0, rp 256 0, rp 256 0]
/-- The disk behind k rounds. -/
def bk (n k : Nat) : Dk := ⟨b4, bpend k, (n : Int) - k, false, 0, k⟩
/-- The disk whose power is gone. -/
def bd (n : Nat) : Dk := ⟨b4, bpend n ++ [(1, pageS 3)], -1, true, 0, n + 1⟩
/-- The disk behind the crash. -/
def bc (n : Nat) : Dk := ⟨[rp 256 0, pageS 3, rp 256 0, rp 256 0], [], -1, false, 0, n + 1⟩

theorem pg2 : pageS 2 = rp 256 2 := if_neg (by decide)
theorem pg3 : pageS 3 = rp 256 3 := if_neg (by decide)
theorem pg4 : pageS 4 = rp 256 4 := if_neg (by decide)

theorem b4_sect : ∀ i, i < b4.length → (b4.getD i ByteArray.empty).size = 256 := by
  intro i hi
  match i, hi with
  | 0, _ => exact rp_size _ _
  | 1, _ => exact rp_size _ _
  | 2, _ => exact rp_size _ _
  | 3, _ => exact rp_size _ _

theorem bk_ok (n k : Nat) (hn : n ≤ 60) (hk : k ≤ n) : (bk n k).Ok := by
  refine ⟨b4_sect, by simp [bk, b4], ?_, ?_, by simp [bk]; omega, by simp [bk], by simp [bk]⟩
  · intro p hp
    simp only [bk, bpend, List.mem_map] at hp
    obtain ⟨i, _, rfl⟩ := hp
    simp [bk, b4]
    omega
  · intro p hp
    simp only [bk, bpend, List.mem_map] at hp
    obtain ⟨i, _, rfl⟩ := hp
    simp [pg2, rp_size]

theorem bk_start (n : Nat) : (Dk.new 4).brk n = bk n 0 := by
  simp only [Dk.brk, Dk.new, bk, bpend, b4]
  congr 1
  simp
  omega

theorem bk_step (n k : Nat) (hk : k < n) : (bk n k).write ((k % 4 : Nat) : Int) (pageS 2) = bk n (k + 1) ∧ (bk n k).writeE ((k % 4 : Nat) : Int) (pageS 2) = 0 := by
  have e : (bk n k).atE ((k % 4 : Nat) : Int) = 0 := by simp [Dk.atE, bk, b4]; omega
  have hl : ¬ ((n : Int) - k = 0) := by omega
  have hp : 0 < (n : Int) - k := by omega
  constructor
  · simp only [Dk.write, e, pg2, rp_size]
    simp [bk, hl, hp, bpend_succ, pg2]
    omega
  · simp only [Dk.writeE, e, pg2, rp_size]
    simp [bk, hl]

theorem bk_nine (n k : Nat) (s : ByteArray) : (bk n k).write 9 s = bk n k := by simp [Dk.write, Dk.atE, bk, b4]
theorem bk_short (n k : Nat) (s : ByteArray) (hs : s.size ≠ 256) : (bk n k).write 0 s = bk n k := by simp [Dk.write, Dk.atE, bk, b4, hs]

theorem bk_last (n : Nat) : (bk n n).write 1 (pageS 3) = bd n ∧ (bk n n).writeE 1 (pageS 3) = 4 := by
  constructor
  · simp [Dk.write, Dk.atE, bk, b4, pg3, rp_size, bd]
  · simp [Dk.writeE, Dk.atE, bk, b4, pg3, rp_size]

theorem bd_still (n : Nat) (i : Int) (s : ByteArray) : (bd n).read i = bd n ∧ (bd n).atE i = 4 ∧ (bd n).readS i = ByteArray.empty ∧ (bd n).write i s = bd n ∧ (bd n).writeE i s = 4 ∧ (bd n).sync = bd n ∧ (bd n).syncE = 4 := by
  simp [Dk.read, Dk.atE, bd, Dk.readS, Dk.write, Dk.writeE, Dk.sync, Dk.syncE]

theorem bd_ok (n : Nat) (hn : n ≤ 60) : (bd n).Ok := by
  have := Dk.write_ok' (bk_ok n n hn (Nat.le_refl _)) 1 (pageS 3)
  rwa [(bk_last n).1] at this

theorem crashes_none (keep : List Int) (t c : Int) : ∀ (l : List (Int × ByteArray)) (k : Nat) (sure : List ByteArray), (∀ j, j < l.length → keep.contains ((k + j : Nat) : Int) = false) → Dk.crashes keep t c k l sure = sure
  | [], k, sure, _ => rfl
  | p :: l, k, sure, h => by
    have h0 := h 0 (by simp)
    rw [Nat.add_zero] at h0
    unfold Dk.crashes
    rw [h0]
    exact crashes_none keep t c l (k + 1) sure fun j hj => by rw [show k + 1 + j = k + (j + 1) from by omega]; exact h (j + 1) (by simp; omega)

theorem bd_crash (n : Nat) : (bd n).crash [(n : Int)] (-1) 0 = bc n := by
  have e : Dk.crashes [(n : Int)] (-1) 0 0 (bpend n ++ [(1, pageS 3)]) b4 = [rp 256 0, pageS 3, rp 256 0, rp 256 0] := by
    rw [crashes_snoc, crashes_none]
    · have hc : Dk.comes (-1) 0 (0 + (bpend n).length) = 256 := by unfold Dk.comes; rw [if_neg (by omega)]
      rw [hc, bpend_length, Nat.zero_add]
      simp [Dk.done, b4, pg3, rp_all, rp_none, append_none]
    · intro j hj
      rw [bpend_length] at hj
      simp
      omega
  simp [Dk.crash, bd, e, bc]

theorem bc_ok (n : Nat) (hn : n ≤ 60) : (bc n).Ok := by
  rw [← bd_crash]
  exact Dk.crash_ok' (bd_ok n hn) _ _ _
theorem bc_read (n : Nat) : (bc n).atE 1 = 0 ∧ (bc n).readS 1 = pageS 3 ∧ (bc n).read 1 = { bc n with reads := 1 } := by
  simp [Dk.atE, bc, Dk.readS, Dk.now, Dk.last, Dk.read]

section
variable {w : World} {R : Ending → World → Prop}

set_option maxRecDepth 100000 in
set_option maxHeartbeats 4000000 in
theorem breaks_walk {F : Asn} (n more : Int) (H : Sat F w)
    (h : ∀ w', Sat F w' → Io w w' → R (.returned (.bool true)) w') :
    Calls Try.prog 6 #[.int .i64 n, .int .i64 more] w R := by
  have HH : Hid (∀ w', Sat F w' → Io w w' → R (.returned (.bool true)) w') := h
  clear h
  by_cases h1 : n < 0
  · go_enter Try.func6, Try.ntmps6
    go_wp2_with fail
    refine works_any H ?_
    intro w1 H1 I1
    go_wp2_with fail
    exact HH.out w1 H1 I1
  by_cases h2 : 60 < n
  · go_enter Try.func6, Try.ntmps6
    go_wp2_with fail
    refine works_any H ?_
    intro w1 H1 I1
    go_wp2_with fail
    exact HH.out w1 H1 I1
  by_cases h3 : more < 0
  · go_enter Try.func6, Try.ntmps6
    go_wp2_with fail
    refine works_any H ?_
    intro w1 H1 I1
    go_wp2_with fail
    exact HH.out w1 H1 I1
  by_cases h4 : 60 < more
  · go_enter Try.func6, Try.ntmps6
    go_wp2_with fail
    refine works_any H ?_
    intro w1 H1 I1
    go_wp2_with fail
    exact HH.out w1 H1 I1
  obtain ⟨nn, rfl⟩ := Int.eq_ofNat_of_zero_le (show 0 ≤ n from by omega)
  obtain ⟨mm, rfl⟩ := Int.eq_ofNat_of_zero_le (show 0 ≤ more from by omega)
  have hn : (nn : Int) ≤ 60 := by omega
  have hm : (mm : Int) ≤ 60 := by omega
  clear h1 h2 h3 h4
  go_enter Try.func6, Try.ntmps6
  go_wp2_with fail
  refine works_any H ?_
  intro w1 H1 I1
  go_wp2_with fail
  refine new_any 4 (by omega) (by omega) H1 ?_
  intro p w2 H2 I2
  rw [show (min (max 4 0) 16384 : Int).toNat = 4 from rfl] at H2
  go_wp2_with fail
  refine break_any H2 nn (by omega) (by omega) ?_
  rw [bk_start]
  intro w3 H3 I3
  have I := (I1.trans I2).trans I3
  clear I1 I2 I3 H1 H2
  go_wp2_with fail
  go_loopw [7] (fun x wr => ∃ k : Nat, k ≤ nn ∧ x = .int .i64 (k : Int) ∧ Sat (IsDk p (bk nn k) * F) wr ∧ Io w wr) (fun x _ => nn - (intOf x).toNat)
  case atStart => exact ⟨0, by omega, rfl, H3, I⟩
  case round =>
    obtain ⟨k, hk, rfl, Hk, Ik⟩ := hrel
    by_cases hlt : k < nn
    · have ok := bk_ok nn k (by omega) (by omega)
      have ok2 := bk_ok nn (k + 1) (by omega) (by omega)
      obtain ⟨s1, s2⟩ := bk_step nn k hlt
      have S1 := Lib.hid s1
      have S2 := Lib.hid s2
      have em : Hid ((k : Int) % 4 = ((k % 4 : Nat) : Int)) := Lib.hid (by omega)
      clear s1 s2
      go_wp2_with fail
      refine pg Hk 2 2 rfl ?_
      intro w4 H4 I4
      go_wp2_with fail
      refine write_any H4 ok (by simp [bk]; omega) (by simp [bk, bpend_length]; omega) ((k : Int) % 4) (pageS 2) (by have := pageS_size 2; omega) ?_
      rw [em.out, S1.out, S2.out]
      intro w5 H5 I5
      go_wp2_with fail
      refine pg H5 2 2 rfl ?_
      intro w6 H6 I6
      go_wp2_with fail
      refine write_any H6 ok2 (by simp [bk]; omega) (by simp [bk, bpend_length]; omega) 9 (pageS 2) (by have := pageS_size 2; omega) ?_
      rw [bk_nine]
      intro w7 H7 I7
      go_wp2_with fail
      refine write_any H7 ok2 (by simp [bk]; omega) (by simp [bk, bpend_length]; omega) 0 _ (by decide) ?_
      rw [bk_short nn (k + 1) _ (by decide)]
      intro w8 H8 I8
      have J := ((((Ik.trans I4).trans I5).trans I6).trans I7).trans I8
      clear I4 I5 I6 I7 I8 H4 H5 H6 H7 S1 S2
      go_wp2_with fail
      go_roundw
      case rel => exact ⟨k + 1, by omega, by go_num, H8, J⟩
      case measure => simp [intOf]; omega
    · obtain rfl : k = nn := by omega
      have ok := bk_ok k k (by omega) (by omega)
      have okd := bd_ok k (by omega)
      have okc := bc_ok k (by omega)
      obtain ⟨s1, s2⟩ := bk_last k
      have S1 := Lib.hid s1
      have S2 := Lib.hid s2
      have hd0 : Hid ((bk k k).down = false) := Lib.hid rfl
      have hd1 : Hid ((bd k).down = true) := Lib.hid rfl
      have hl1 : Hid (((bd k).pend.length : Int) = (k : Int) + 1) := Lib.hid (by simp [bd, bpend_length])
      clear s1 s2 H3 I
      go_wp2_with fail
      refine dk_isdown Hk ?_
      rw [hd0.out]
      go_wp2_with fail
      refine pg Hk 3 3 rfl ?_
      intro w4 H4 I4
      go_wp2_with fail
      refine write_any H4 ok (by simp [bk]; omega) (by simp [bk, bpend_length]; omega) 1 (pageS 3) (by have := pageS_size 3; omega) ?_
      rw [S1.out, S2.out]
      intro w5 H5 I5
      go_wp2_with fail
      refine dk_isdown H5 ?_
      rw [hd1.out]
      go_wp2_with fail
      refine dk_length H5 (by have := hl1.out; omega) ?_
      rw [hl1.out]
      have J := (Ik.trans I4).trans I5
      clear I4 I5 Ik H4 Hk S1 S2 hd0 hd1 hl1
      go_wp2_with fail
      go_loopw [8] (fun x wr => ∃ j : Nat, j ≤ mm ∧ x = .int .i64 (j : Int) ∧ Sat (IsDk p (bd k) * F) wr ∧ Io w wr) (fun x _ => mm - (intOf x).toNat)
      case atStart => exact ⟨0, by omega, rfl, H5, J⟩
      case round =>
        obtain ⟨j, hj, rfl, Hj, Ij⟩ := hrel
        obtain ⟨a1, a2, a3, a4, a5, a6, a7⟩ := bd_still k 0 (pageS 4)
        have A1 := Lib.hid a1
        have A2 := Lib.hid a2
        have A3 := Lib.hid a3
        have A4 := Lib.hid a4
        have A5 := Lib.hid a5
        have A6 := Lib.hid a6
        have A7 := Lib.hid a7
        clear a1 a2 a3 a4 a5 a6 a7
        by_cases hlt2 : j < mm
        · go_wp2_with fail
          refine read_any Hj okd (by simp [bd]) 0 ?_
          rw [A1.out, A2.out, A3.out]
          intro w6 H6 I6
          go_wp2_with fail
          refine pg H6 4 4 rfl ?_
          intro w7 H7 I7
          go_wp2_with fail
          refine write_any H7 okd (by simp [bd]; omega) (by simp [bd, bpend_length]; omega) 0 (pageS 4) (by have := pageS_size 4; omega) ?_
          rw [A4.out, A5.out]
          intro w8 H8 I8
          go_wp2_with fail
          refine sync_any H8 okd (by simp [bd, bpend_length]; omega) ?_
          rw [A6.out, A7.out]
          intro w9 H9 I9
          have K := (((Ij.trans I6).trans I7).trans I8).trans I9
          clear I6 I7 I8 I9 H6 H7 H8 A1 A2 A3 A4 A5 A6 A7
          go_wp2_with fail
          go_roundw
          case rel => exact ⟨j + 1, by omega, by go_num, H9, K⟩
          case measure => simp [intOf]; omega
        · clear A1 A2 A3 A4 A5 A6 A7 H5 J
          go_wp2_with fail
          have H6 : Sat (IsDk p (bd k) * (pts wr.heap.size (.cells #[.int .i64 (k : Int)] 3 (0, 0)) * F)) (wr.alloc (.cells #[.int .i64 (k : Int)] 3)) := (Hj.new (.cells #[.int .i64 (k : Int)] 3)).of_eq (by ac_rfl)
          refine crash_any (keep := [(k : Int)]) H6 (reads_new _ 1 1 _ _ _ rfl (by omega) ?_) okd (by simp [bd, bpend_length]; omega) (-1) 0 ?_
          · intro i hi
            match i, hi with
            | 0, _ => rfl
          rw [bd_crash]
          intro w7 H7 I7
          have H8 : Sat (IsDk p (bc k) * F) w7 := (H7.of_eq (show _ = pts wr.heap.size (.cells #[.int .i64 (k : Int)] 3 (0, 0)) * (IsDk p (bc k) * F) from by ac_rfl)).right
          have J8 := (Ij.alloc (.cells #[.int .i64 (k : Int)] 3)).trans I7
          clear H6 H7 I7 Ij Hj
          obtain ⟨c1, c2, c3⟩ := bc_read k
          have C1 := Lib.hid c1
          have C2 := Lib.hid c2
          have C3 := Lib.hid c3
          clear c1 c2 c3
          go_wp2_with fail
          refine read_any H8 okc (by simp [bc]) 1 ?_
          rw [C1.out, C2.out, C3.out]
          intro w9 H9 I9
          have hdc : Hid (({ bc k with reads := 1 } : Dk).down = false) := Lib.hid rfl
          have hlc : Hid ((({ bc k with reads := 1 } : Dk).pend.length : Int) = 0) := Lib.hid rfl
          go_wp2_with fail
          refine dk_isdown H9 ?_
          rw [hdc.out]
          go_wp2_with fail
          refine dk_length H9 (by simp [bc]) ?_
          rw [hlc.out]
          go_wp2_with fail
          refine pg H9 3 3 rfl ?_
          intro w10 H10 I10
          go_wp2_with fail
          exact HH.out w10 H10.right ((J8.trans I9).trans I10)
end
end Go.Proofs.Ytnkekdeicgmelaa
