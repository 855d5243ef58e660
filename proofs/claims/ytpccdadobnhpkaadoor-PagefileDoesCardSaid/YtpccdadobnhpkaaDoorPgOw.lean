/-
  What Open does, by its walk. It proves no statement by itself.
-/
import Derived.Test.YtpccdadobnhpkaaDoorPgE
namespace Go.Proofs.YtpccdadobnhpkaaDoor
open Go.RowKit
set_option linter.unusedSimpArgs false
set_option linter.unusedVariables false

namespace Op
def r1 (s : ByteArray) : Rd := (⟨s, 0⟩ : Rd).bR ((4 : Nat) : Int)
def r2 (s : ByteArray) : Rd := (r1 s).bR ((4 : Nat) : Int)
def r3 (s : ByteArray) : Rd := (r2 s).bR ((1 : Nat) : Int)
def r4 (s : ByteArray) : Rd := (r3 s).bR ((1 : Nat) : Int)
def r5 (s : ByteArray) : Rd := (r4 s).bR ((2 : Nat) : Int)
def r6 (s : ByteArray) : Rd := (r5 s).bR 4
def nid (s : ByteArray) : Nat := (r1 s).num 4
def nkind (s : ByteArray) : Nat := (r2 s).num 1
def nzero (s : ByteArray) : Nat := (r3 s).num 1
def nsize (s : ByteArray) : Nat := (r4 s).num 2
def gap (s : ByteArray) : ByteArray := (r5 s).bS 4
def body (s : ByteArray) : ByteArray := (r6 s).bS (nsize s : Int)
def r7 (s : ByteArray) : Rd := (r6 s).bR (nsize s : Int)
def nleft (s : ByteArray) : Nat := (r7 s).rest.size
def rest (s : ByteArray) : ByteArray := (r7 s).bS (nleft s : Int)
def r8 (s : ByteArray) : Rd := (r7 s).bR (nleft s : Int)
/-- Is it a page? -/
def is (id : Int) (s : ByteArray) : Prop := chkB s = true ∧ (r8 s).fin = 0 ∧ (nid s : Int) = id ∧ nzero s = 0 ∧ gap s = ⟨#[0, 0, 0, 0]⟩ ∧ nsize s ≤ 240 ∧ ∀ b ∈ (rest s).data.toList, b = 0
end Op

section
variable {F : Asn} {w : World} {R : Ending → World → Prop}

theorem bR_le (r : Rd) (n : Int) (h : r.rest.size ≤ 1000000) : (r.bR n).rest.size ≤ 1000000 := Nat.le_trans (bR_size r n) h
theorem bS_le (r : Rd) (n : Int) (h : r.rest.size ≤ 1000000) : (r.bS n).size ≤ 1000000 := by
  unfold Rd.bS
  split
  · rw [ByteArray.size_extract]; omega
  · exact Nat.zero_le _

theorem four_list : (⟨#[0, 0, 0, 0]⟩ : ByteArray).toList = [0, 0, 0, 0] := by rw [ByteArray.toList_eq]
theorem kind_lt (s : ByteArray) : Op.nkind s < 256 := by
  have h := un_lt ((Op.r2 s).bS 1).data.toList
  have l : ((Op.r2 s).bS 1).data.toList.length ≤ 1 := by
    rw [bS_length _ 1 (by omega)]
    split <;> simp
  have : 256 ^ ((Op.r2 s).bS 1).data.toList.length ≤ 256 ^ 1 := Nat.pow_le_pow_right (by omega) l
  exact Nat.lt_of_lt_of_le h this
theorem kind_mod (s : ByteArray) : (Op.nkind s : Int) % 256 = (Op.nkind s : Int) := by
  have := kind_lt s
  omega
set_option maxRecDepth 100000 in
set_option maxHeartbeats 4000000 in
theorem open_walk (hv : Hv F) (H : Sat F w) (id : Int) (s : ByteArray) (hs : s.size ≤ 1000000)
    (hy : Op.is id s → ∀ w', Sat F w' → Io w w' → R (.returned (.tuple #[.int .u8 (Op.nkind s : Nat), .string (Op.body s), .int .i64 0])) w')
    (hn : ¬ Op.is id s → ∀ w', Sat F w' → Io w w' → R (.returned (.tuple #[.int .u8 0, .string ByteArray.empty, .int .i64 3])) w') :
    Calls Tryd.prog 38 #[.int .i64 id, .string s] w R := by
  have HY := Lib.hid hy
  have HN := Lib.hid hn
  clear hy hn
  have z0 : Hid ((⟨s, 0⟩ : Rd).rest.size ≤ 1000000) := Lib.hid hs
  have z1 : Hid ((Op.r1 s).rest.size ≤ 1000000) := Lib.hid (bR_le _ _ z0.out)
  have z2 : Hid ((Op.r2 s).rest.size ≤ 1000000) := Lib.hid (bR_le _ _ z1.out)
  have z3 : Hid ((Op.r3 s).rest.size ≤ 1000000) := Lib.hid (bR_le _ _ z2.out)
  have z4 : Hid ((Op.r4 s).rest.size ≤ 1000000) := Lib.hid (bR_le _ _ z3.out)
  have z5 : Hid ((Op.r5 s).rest.size ≤ 1000000) := Lib.hid (bR_le _ _ z4.out)
  have z6 : Hid ((Op.r6 s).rest.size ≤ 1000000) := Lib.hid (bR_le _ _ z5.out)
  have z7 : Hid ((Op.r7 s).rest.size ≤ 1000000) := Lib.hid (bR_le _ _ z6.out)
  have zr : Hid ((Op.rest s).size ≤ 1000000) := Lib.hid (bS_le _ _ z7.out)
  have hs' := Lib.hid hs
  clear hs
  go_enter Tryd.func38, Tryd.ntmps38
  go_wp2_with fail
  refine read_new H s ?_
  intro p w1 H1 J1
  go_wp2_with fail
  refine int4_any H1 z0.out ?_
  intro w2 H2 I2
  have J2 := J1.trans I2
  go_wp2_with fail
  refine int4_any (r := Op.r1 s) H2 z1.out ?_
  intro w3 H3 I3
  have J3 := J2.trans I3
  rw [show (Op.r1 s).num 4 = Op.nid s from rfl]
  go_wp2_with fail
  refine int1_any (r := Op.r2 s) H3 z2.out ?_
  intro w4 H4 I4
  have J4 := J3.trans I4
  rw [show (Op.r2 s).num 1 = Op.nkind s from rfl]
  go_wp2_with fail
  refine int1_any (r := Op.r3 s) H4 z3.out ?_
  intro w5 H5 I5
  have J5 := J4.trans I5
  rw [show (Op.r3 s).num 1 = Op.nzero s from rfl]
  go_wp2_with fail
  refine int2_any (r := Op.r4 s) H5 z4.out ?_
  intro w6 H6 I6
  have J6 := J5.trans I6
  rw [show (Op.r4 s).num 2 = Op.nsize s from rfl]
  go_wp2_with fail
  refine bytes_any (r := Op.r5 s) H6 z5.out 4 ?_
  intro w7 H7 I7
  have J7 := J6.trans I7
  rw [show (Op.r5 s).bS 4 = Op.gap s from rfl]
  go_wp2_with fail
  refine bytes_any (r := Op.r6 s) H7 z6.out (Op.nsize s : Int) ?_
  intro w8 H8 I8
  have J8 := J7.trans I8
  rw [show (Op.r6 s).bS (Op.nsize s : Int) = Op.body s from rfl]
  go_wp2_with fail
  refine left_any (r := Op.r7 s) H8 ?_
  rw [show (Op.r7 s).rest.size = Op.nleft s from rfl]
  go_wp2_with fail
  refine bytes_any (r := Op.r7 s) H8 z7.out (Op.nleft s : Int) ?_
  intro w9 H9 I9
  have J9 := J8.trans I9
  rw [show (Op.r7 s).bS (Op.nleft s : Int) = Op.rest s from rfl]
  have H9' : Sat (IsRd p (Op.r8 s) * F) w9 := H9
  clear H1 H2 H3 H4 H5 H6 H7 H8 H9 I2 I3 I4 I5 I6 I7 I8 I9 J1 J2 J3 J4 J5 J6 J7 J8 z0 z1 z2 z3 z4 z5 z6 z7
  go_wp2_with fail
  refine chk_any hv.with H9' s hs'.out ?_
  intro w10 H10 I10
  have J10 := J9.trans I10
  clear H9' J9 I10
  by_cases c1 : chkB s = true
  · rw [c1]
    go_wp2_with fail
    refine end_any (r := Op.r8 s) H10 ?_
    intro w11 H11 I11
    have J11 := J10.trans I11
    clear H10 J10 I11
    by_cases c2 : (Op.r8 s).fin = 0
    · rw [c2]
      by_cases c3 : (Op.nid s : Int) = id
      · have d3 : ((Op.nid s : Int) != id) = false := by rw [bne_eq_false_iff_eq]; exact c3
        by_cases c4 : Op.nzero s = 0
        · have d4 : ((Op.nzero s : Int) != 0) = false := by rw [bne_eq_false_iff_eq]; omega
          by_cases c5 : Op.gap s = ⟨#[0, 0, 0, 0]⟩
          · have d5 : ((Op.gap s).toList == [0, 0, 0, 0]) = true := by rw [c5, four_list]; rfl
            by_cases c6 : Op.nsize s ≤ 240
            · have d6 : decide ((Op.nsize s : Int) > 240) = false := by rw [decide_eq_false_iff_not]; omega
              go_wp2_with fail
              refine trim_any H11 (Op.rest s) zr.out ?_
              intro t w12 e H12 I12
              have J12 := J11.trans I12
              by_cases c7 : t = ByteArray.empty
              · have fin := HY.out ⟨c1, c2, c3, c4, c5, c6, e.1 c7⟩ w12 H12.right J12
                rw [c7]
                go_wp2_with fail
                exact bodyPost_ret (v := .tuple #[.int .u8 (Op.nkind s : Nat), .string (Op.body s), .int .i64 0]) (by simp [results, Tryd.results38, go_sem]; exact kind_mod s) rfl fin
              · have fin := HN.out (fun h => c7 (e.2 h.2.2.2.2.2.2)) w12 H12.right J12
                have d7 := empty_no c7
                go_wp2_with fail
                exact bodyPost_ret (v := .tuple #[.int .u8 0, .string ByteArray.empty, .int .i64 3]) (by simp [results, Tryd.results38, go_sem]; rfl) rfl fin
            · have fin := HN.out (fun h => c6 h.2.2.2.2.2.1) w11 H11.right J11
              have d6 : decide ((Op.nsize s : Int) > 240) = true := by rw [decide_eq_true_eq]; omega
              go_wp2_with fail
              exact bodyPost_ret (v := .tuple #[.int .u8 0, .string ByteArray.empty, .int .i64 3]) (by simp [results, Tryd.results38, go_sem]; rfl) rfl fin
          · have fin := HN.out (fun h => c5 h.2.2.2.2.1) w11 H11.right J11
            have d5 : ((Op.gap s).toList == [0, 0, 0, 0]) = false := by have := str_ne c5; rwa [four_list] at this
            go_wp2_with fail
            exact bodyPost_ret (v := .tuple #[.int .u8 0, .string ByteArray.empty, .int .i64 3]) (by simp [results, Tryd.results38, go_sem]; rfl) rfl fin
        · have fin := HN.out (fun h => c4 h.2.2.2.1) w11 H11.right J11
          have d4 : ((Op.nzero s : Int) != 0) = true := by rw [bne_iff_ne]; omega
          go_wp2_with fail
          exact bodyPost_ret (v := .tuple #[.int .u8 0, .string ByteArray.empty, .int .i64 3]) (by simp [results, Tryd.results38, go_sem]; rfl) rfl fin
      · have fin := HN.out (fun h => c3 h.2.2.1) w11 H11.right J11
        have d3 : ((Op.nid s : Int) != id) = true := by rw [bne_iff_ne]; exact c3
        go_wp2_with fail
        exact bodyPost_ret (v := .tuple #[.int .u8 0, .string ByteArray.empty, .int .i64 3]) (by simp [results, Tryd.results38, go_sem]; rfl) rfl fin
    · have fin := HN.out (fun h => c2 h.2.1) w11 H11.right J11
      have d2 : ((Op.r8 s).fin != 0) = true := by rw [bne_iff_ne]; exact c2
      go_wp2_with fail
      exact bodyPost_ret (v := .tuple #[.int .u8 0, .string ByteArray.empty, .int .i64 3]) (by simp [results, Tryd.results38, go_sem]; rfl) rfl fin
  · have fin := HN.out (fun h => c1 h.1) w10 H10.right J10
    rw [Bool.not_eq_true] at c1
    rw [c1]
    go_wp2_with fail
    exact bodyPost_ret (v := .tuple #[.int .u8 0, .string ByteArray.empty, .int .i64 3]) (by simp [results, Tryd.results38, go_sem]; rfl) rfl fin
end
end Go.Proofs.YtpccdadobnhpkaaDoor
