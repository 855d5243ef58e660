/-
  The document's example in the statements of chapter 4, walked; and whether acts are few. It proves no statement by itself.
-/
import Derived.Test.YtnkekdeicgmelaaPage
namespace Go.Proofs.Ytnkekdeicgmelaa
open Go.RowKit
set_option linter.unusedSimpArgs false
set_option linter.unusedVariables false

section
variable {w : World} {R : Ending → World → Prop} {F : Asn} {p : Nat} {d : Dk}

theorem dk_length (H : Sat (IsDk p d * F) w) (hn : d.pend.length ≤ 1000000) (h : R (.returned (.int .i64 (d.pend.length : Int))) w) :
    Calls Try.prog 18 #[.pointer (some ⟨p, 0, none⟩)] w R := by
  obtain ⟨sb, mb, pv, ob, m, h1, h2, HP⟩ := isDk_open H
  exact pending_any (dk_seen HP) (dk_row ▸ HP) hn h

theorem dk_sectors (H : Sat (IsDk p d * F) w) (hm : d.sure.length ≤ 16384) (h : R (.returned (.int .i64 (d.sure.length : Int))) w) :
    Calls Try.prog 29 #[.pointer (some ⟨p, 0, none⟩)] w R := by
  obtain ⟨sb, mb, pv, ob, m, h1, h2, HP⟩ := isDk_open H
  exact sectors_any (dk_seen HP) hm h

theorem dk_isdown (H : Sat (IsDk p d * F) w) (h : R (.returned (.bool d.down)) w) :
    Calls Try.prog 19 #[.pointer (some ⟨p, 0, none⟩)] w R := by
  obtain ⟨sb, mb, pv, ob, m, h1, h2, HP⟩ := isDk_open H
  exact down_any (dk_seen HP) h

theorem dk_issure (H : Sat (IsDk p d * F) w) (hm : d.sure.length ≤ 16384) (i : Int) (h : R (.returned (.string (d.sureS i))) w) :
    Calls Try.prog 16 #[.pointer (some ⟨p, 0, none⟩), .int .i64 i] w R := by
  obtain ⟨sb, mb, pv, ob, m, h1, h2, HP⟩ := isDk_open H
  exact sure_any (dk_seen HP) hm i h

theorem dk_isreads (H : Sat (IsDk p d * F) w) (h : R (.returned (.int .i64 d.reads)) w) :
    Calls Try.prog 30 #[.pointer (some ⟨p, 0, none⟩)] w R := by
  obtain ⟨sb, mb, pv, ob, m, h1, h2, HP⟩ := isDk_open H
  have hc := (dk_seen HP).c5
  go_enter Try.func30, Try.ntmps30
  go_wp2_with (go_at_call 38; refine load_any _ hc ?_)
  exact h

theorem dk_iswrites (H : Sat (IsDk p d * F) w) (h : R (.returned (.int .i64 d.writes)) w) :
    Calls Try.prog 21 #[.pointer (some ⟨p, 0, none⟩)] w R := by
  obtain ⟨sb, mb, pv, ob, m, h1, h2, HP⟩ := isDk_open H
  have hc := (dk_seen HP).c6
  go_enter Try.func21, Try.ntmps21
  go_wp2_with (go_at_call 38; refine load_any _ hc ?_)
  exact h

theorem wr1 (H : Sat (IsDk p wk0 * F) w) (h : ∀ w', Sat (IsDk p wk1 * F) w' → Io w w' → R (.returned (.int .i64 0)) w') :
    Calls Try.prog 13 #[.pointer (some ⟨p, 0, none⟩), .int .i64 0, .string (pageS 97)] w R := by
  obtain ⟨k0, k1, k2, k3, k4, k5, k6⟩ := wk_oks
  have e : wk0.writeE 0 (pageS 97) = 0 := by simp [Dk.writeE, Dk.atE, wk0, Dk.new, pg97, rp_size]
  refine write_any H k0 (by simp [wk0, Dk.new]) (by simp [wk0, Dk.new]) 0 (pageS 97) (by have := pageS_size 97; omega) fun w' H' I' => ?_
  rw [e]
  exact h w' H' I'

theorem wr2 (H : Sat (IsDk p wk1 * F) w) (h : ∀ w', Sat (IsDk p wk2 * F) w' → Io w w' → R (.returned (.int .i64 0)) w') :
    Calls Try.prog 13 #[.pointer (some ⟨p, 0, none⟩), .int .i64 0, .string (pageS 98)] w R := by
  obtain ⟨k0, k1, k2, k3, k4, k5, k6⟩ := wk_oks
  have e : wk1.writeE 0 (pageS 98) = 0 := by simp [Dk.writeE, Dk.atE, wk1_eq, pg98, rp_size]
  refine write_any H k1 (by simp [wk1_eq]) (by simp [wk1_eq]) 0 (pageS 98) (by have := pageS_size 98; omega) fun w' H' I' => ?_
  rw [e]
  exact h w' H' I'

theorem wr3 (H : Sat (IsDk p wk2 * F) w) (h : ∀ w', Sat (IsDk p wk3 * F) w' → Io w w' → R (.returned (.int .i64 0)) w') :
    Calls Try.prog 13 #[.pointer (some ⟨p, 0, none⟩), .int .i64 1, .string (pageS 99)] w R := by
  obtain ⟨k0, k1, k2, k3, k4, k5, k6⟩ := wk_oks
  have e : wk2.writeE 1 (pageS 99) = 0 := by simp [Dk.writeE, Dk.atE, wk2_eq, pg99, rp_size]
  refine write_any H k2 (by simp [wk2_eq]) (by simp [wk2_eq]) 1 (pageS 99) (by have := pageS_size 99; omega) fun w' H' I' => ?_
  rw [e]
  exact h w' H' I'

theorem rd1 (H : Sat (IsDk p wk4 * F) w) (h : ∀ w', Sat (IsDk p wk5 * F) w' → Io w w' → R (.returned (.tuple #[.string (pageS 97), .int .i64 0])) w') :
    Calls Try.prog 17 #[.pointer (some ⟨p, 0, none⟩), .int .i64 0] w R := by
  obtain ⟨k0, k1, k2, k3, k4, k5, k6⟩ := wk_oks
  have e1 : wk4.atE 0 = 0 := by simp [Dk.atE, wk4_eq]
  have e2 : wk4.readS 0 = (pageS 97) := by simp [Dk.readS, Dk.atE, Dk.now, Dk.last, wk4_eq]
  refine read_any H k4 (by simp [wk4_eq]) 0 fun w' H' I' => ?_
  rw [e1, e2]
  exact h w' H' I'

theorem rd2 (H : Sat (IsDk p wk5 * F) w) (h : ∀ w', Sat (IsDk p wk6 * F) w' → Io w w' → R (.returned (.tuple #[.string wkY, .int .i64 0])) w') :
    Calls Try.prog 17 #[.pointer (some ⟨p, 0, none⟩), .int .i64 1] w R := by
  obtain ⟨k0, k1, k2, k3, k4, k5, k6⟩ := wk_oks
  have e1 : wk5.atE 1 = 0 := by simp [Dk.atE, wk5_eq]
  have e2 : wk5.readS 1 = wkY := by simp [Dk.readS, Dk.atE, Dk.now, Dk.last, wk5_eq]
  refine read_any H k5 (by simp [wk5_eq]) 1 fun w' H' I' => ?_
  rw [e1, e2]
  exact h w' H' I'

theorem rd3 (H : Sat (IsDk p wk6 * F) w) (h : ∀ w', Sat (IsDk p wk7 * F) w' → Io w w' → R (.returned (.tuple #[.string ByteArray.empty, .int .i64 40])) w') :
    Calls Try.prog 17 #[.pointer (some ⟨p, 0, none⟩), .int .i64 2] w R := by
  obtain ⟨k0, k1, k2, k3, k4, k5, k6⟩ := wk_oks
  have e1 : wk6.atE 2 = 40 := by simp [Dk.atE, wk6_eq]
  have e2 : wk6.readS 2 = ByteArray.empty := by simp [Dk.readS, Dk.atE, Dk.now, Dk.last, wk6_eq]
  refine read_any H k6 (by simp [wk6_eq]) 2 fun w' H' I' => ?_
  rw [e1, e2]
  exact h w' H' I'

theorem pg (H : Sat F w) (x : Int) (b : UInt8) (hb : (b.toNat : Int) = x) (h : ∀ w', Sat F w' → Io w w' → R (.returned (.string (pageS b))) w') :
    Calls Try.prog 14 #[.int .u8 x] w R := by
  rw [← hb]
  exact page_any H b h

theorem reads_new (n k c : Nat) (cs : Array Value) (t : TypeId) (zs : List Int) (hk : k = zs.length) (hm : k ≤ 9223372036854775807) (hc : ∀ j, j < k → cs[j]? = some (.int .i64 (zs.getD j 0))) :
    ReadsInts (pts n (.cells cs t (0, 0)) * F) (.slice (some ⟨n, 0, none⟩) k c) zs := by
  refine ⟨_, k, c, rfl, hk, hm, .inr ⟨n, 0, rfl, fun w hw j hj => ?_⟩⟩
  rw [Nat.zero_add, Sat.read hw.left.at]
  exact hc j hj

theorem crash0 {n : Nat} (H : Sat (pts n (.cells #[.int .i64 0, .int .i64 2] 3 (0, 0)) * (IsDk p wk3 * F)) w) (h : ∀ w', Sat (IsDk p wk4 * F) w' → Io w w' → R (.returned (.tuple #[])) w') :
    Calls Try.prog 15 #[.pointer (some ⟨p, 0, none⟩), .slice (some ⟨n, 0, none⟩) 2 2, .int .i64 2, .int .i64 3] w R := by
  obtain ⟨k0, k1, k2, k3, k4, k5, k6⟩ := wk_oks
  have H' : Sat (IsDk p wk3 * (pts n (.cells #[.int .i64 0, .int .i64 2] 3 (0, 0)) * F)) w := H.of_eq (by ac_rfl)
  refine crash_any (keep := [0, 2]) H' (reads_new n 2 2 _ _ _ rfl (by omega) ?_) k3 (by rw [wk3_eq]; simp) 2 3 fun w' H1 I1 => h w' ?_ I1
  · intro j hj
    match j, hj with
    | 0, _ => rfl
    | 1, _ => rfl
  · exact (H1.of_eq (show _ = pts n (.cells #[.int .i64 0, .int .i64 2] 3 (0, 0)) * (IsDk p wk4 * F) from by rw [show wk3.crash [0, 2] 2 3 = wk4 from rfl]; ac_rfl)).right

theorem sect2 (H : Sat (IsDk p wk7 * F) w) (h : R (.returned (.int .i64 2)) w) : Calls Try.prog 29 #[.pointer (some ⟨p, 0, none⟩)] w R := by
  have e : (wk7.sure.length : Int) = 2 := by rw [wk7_eq]; rfl
  refine dk_sectors H (by rw [wk7_eq]; simp) ?_
  rw [e]
  exact h
theorem writes3 (H : Sat (IsDk p wk7 * F) w) (h : R (.returned (.int .i64 3)) w) : Calls Try.prog 21 #[.pointer (some ⟨p, 0, none⟩)] w R := by
  have e : wk7.writes = 3 := by rw [wk7_eq]
  refine dk_iswrites H ?_
  rw [e]
  exact h
theorem reads2 (H : Sat (IsDk p wk7 * F) w) (h : R (.returned (.int .i64 2)) w) : Calls Try.prog 30 #[.pointer (some ⟨p, 0, none⟩)] w R := by
  have e : wk7.reads = 2 := by rw [wk7_eq]
  refine dk_isreads H ?_
  rw [e]
  exact h

theorem pend3 (H : Sat (IsDk p wk3 * F) w) (h : R (.returned (.int .i64 3)) w) : Calls Try.prog 18 #[.pointer (some ⟨p, 0, none⟩)] w R := by
  have e : (wk3.pend.length : Int) = 3 := by rw [wk3_eq]; rfl
  refine dk_length H (by rw [wk3_eq]; simp) ?_
  rw [e]
  exact h

set_option maxRecDepth 100000 in
set_option maxHeartbeats 2000000 in
theorem works_any (H : Sat F w) (h : ∀ w', Sat F w' → Io w w' → R (.returned (.bool true)) w') :
    Calls Try.prog 10 #[] w R := by
  have HH : Hid (∀ w', Sat F w' → Io w w' → R (.returned (.bool true)) w') := h
  clear h
  go_enter Try.func10, Try.ntmps10
  go_wp2_with fail
  refine new_any 2 (by omega) (by omega) H ?_
  intro p w1 H1 I1
  change Sat (IsDk p wk0 * F) w1 at H1
  go_wp2_with fail
  refine pg H1 97 97 rfl ?_
  intro w2 H2 I2
  go_wp2_with fail
  refine wr1 H2 ?_
  intro w3 H3 I3
  go_wp2_with fail
  refine pg H3 98 98 rfl ?_
  intro w4 H4 I4
  go_wp2_with fail
  refine wr2 H4 ?_
  intro w5 H5 I5
  go_wp2_with fail
  refine pg H5 99 99 rfl ?_
  intro w6 H6 I6
  go_wp2_with fail
  refine wr3 H6 ?_
  intro w7 H7 I7
  have I := (((((I1.trans I2).trans I3).trans I4).trans I5).trans I6).trans I7
  clear I1 I2 I3 I4 I5 I6 I7 H1 H2 H3 H4 H5 H6
  go_wp2_with fail
  refine pend3 H7 ?_
  go_wp2_with fail
  refine crash0 (H7.new _) ?_
  intro w8 H8 I8
  go_wp2_with fail
  refine rd1 H8 ?_
  intro w9 H9 I9
  go_wp2_with fail
  refine rd2 H9 ?_
  intro w10 H10 I10
  go_wp2_with fail
  refine rd3 H10 ?_
  intro w11 H11 I11
  have J := ((((I.alloc _).trans I8).trans I9).trans I10).trans I11
  clear I I8 I9 I10 I11 H7 H8 H9 H10
  have hy := wkY_size
  have hy4 := wkY_head
  have hle : 4 ≤ wkY.size := by rw [hy]; omega
  generalize wkY = Y at *
  go_wp2_with fail
  refine pg H11 97 97 rfl ?_
  intro w12 H12 I12
  go_wp2_with fail
  refine sect2 H12 ?_
  go_wp2_with fail
  refine writes3 H12 ?_
  go_wp2_with fail
  refine reads2 H12 ?_
  go_wp2_with fail
  exact HH.out w12 H12.right (J.trans I12)
end
end Go.Proofs.Ytnkekdeicgmelaa
