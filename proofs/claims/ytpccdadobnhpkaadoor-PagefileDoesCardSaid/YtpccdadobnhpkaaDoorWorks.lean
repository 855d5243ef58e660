/-
  The document's example in the statements of chapter 4, walked; and whether acts are few. It proves no statement by itself.
-/
import Derived.Test.YtpccdadobnhpkaaDoorPage
namespace Go.Proofs.YtpccdadobnhpkaaDoor
open Go.RowKit
set_option linter.unusedSimpArgs false
set_option linter.unusedVariables false

section
variable {w : World} {R : Ending → World → Prop} {F : Asn} {p : Nat} {d : Dk}

theorem dk_sectors (H : Sat (IsDk p d * F) w) (hm : d.sure.length ≤ 16384) (h : R (.returned (.int .i64 (d.sure.length : Int))) w) :
    Calls Tryd.prog 46 #[.pointer (some ⟨p, 0, none⟩)] w R := by
  obtain ⟨sb, mb, pv, ob, m, h1, h2, HP⟩ := isDk_open H
  exact sectors_any (dk_seen HP) hm h

theorem wr1 (H : Sat (IsDk p wk0 * F) w) (h : ∀ w', Sat (IsDk p wk1 * F) w' → Io w w' → R (.returned (.int .i64 0)) w') :
    Calls Tryd.prog 27 #[.pointer (some ⟨p, 0, none⟩), .int .i64 0, .string (pageS 97)] w R := by
  obtain ⟨k0, k1, k2, k3, k4, k5, k6⟩ := wk_oks
  have e : wk0.writeE 0 (pageS 97) = 0 := by simp [Dk.writeE, Dk.atE, wk0, Dk.new, pg97, rp_size]
  refine write_any H k0 (by simp [wk0, Dk.new]) (by simp [wk0, Dk.new]) 0 (pageS 97) (by have := pageS_size 97; omega) fun w' H' I' => ?_
  rw [e]
  exact h w' H' I'

theorem wr2 (H : Sat (IsDk p wk1 * F) w) (h : ∀ w', Sat (IsDk p wk2 * F) w' → Io w w' → R (.returned (.int .i64 0)) w') :
    Calls Tryd.prog 27 #[.pointer (some ⟨p, 0, none⟩), .int .i64 0, .string (pageS 98)] w R := by
  obtain ⟨k0, k1, k2, k3, k4, k5, k6⟩ := wk_oks
  have e : wk1.writeE 0 (pageS 98) = 0 := by simp [Dk.writeE, Dk.atE, wk1_eq, pg98, rp_size]
  refine write_any H k1 (by simp [wk1_eq]) (by simp [wk1_eq]) 0 (pageS 98) (by have := pageS_size 98; omega) fun w' H' I' => ?_
  rw [e]
  exact h w' H' I'

theorem wr3 (H : Sat (IsDk p wk2 * F) w) (h : ∀ w', Sat (IsDk p wk3 * F) w' → Io w w' → R (.returned (.int .i64 0)) w') :
    Calls Tryd.prog 27 #[.pointer (some ⟨p, 0, none⟩), .int .i64 1, .string (pageS 99)] w R := by
  obtain ⟨k0, k1, k2, k3, k4, k5, k6⟩ := wk_oks
  have e : wk2.writeE 1 (pageS 99) = 0 := by simp [Dk.writeE, Dk.atE, wk2_eq, pg99, rp_size]
  refine write_any H k2 (by simp [wk2_eq]) (by simp [wk2_eq]) 1 (pageS 99) (by have := pageS_size 99; omega) fun w' H' I' => ?_
  rw [e]
  exact h w' H' I'

theorem rd1 (H : Sat (IsDk p wk4 * F) w) (h : ∀ w', Sat (IsDk p wk5 * F) w' → Io w w' → R (.returned (.tuple #[.string (pageS 97), .int .i64 0])) w') :
    Calls Tryd.prog 37 #[.pointer (some ⟨p, 0, none⟩), .int .i64 0] w R := by
  obtain ⟨k0, k1, k2, k3, k4, k5, k6⟩ := wk_oks
  have e1 : wk4.atE 0 = 0 := by simp [Dk.atE, wk4_eq]
  have e2 : wk4.readS 0 = (pageS 97) := by simp [Dk.readS, Dk.atE, Dk.now, Dk.last, wk4_eq]
  refine read_any H k4 (by simp [wk4_eq]) 0 fun w' H' I' => ?_
  rw [e1, e2]
  exact h w' H' I'

theorem rd2 (H : Sat (IsDk p wk5 * F) w) (h : ∀ w', Sat (IsDk p wk6 * F) w' → Io w w' → R (.returned (.tuple #[.string wkY, .int .i64 0])) w') :
    Calls Tryd.prog 37 #[.pointer (some ⟨p, 0, none⟩), .int .i64 1] w R := by
  obtain ⟨k0, k1, k2, k3, k4, k5, k6⟩ := wk_oks
  have e1 : wk5.atE 1 = 0 := by simp [Dk.atE, wk5_eq]
  have e2 : wk5.readS 1 = wkY := by simp [Dk.readS, Dk.atE, Dk.now, Dk.last, wk5_eq]
  refine read_any H k5 (by simp [wk5_eq]) 1 fun w' H' I' => ?_
  rw [e1, e2]
  exact h w' H' I'

theorem rd3 (H : Sat (IsDk p wk6 * F) w) (h : ∀ w', Sat (IsDk p wk7 * F) w' → Io w w' → R (.returned (.tuple #[.string ByteArray.empty, .int .i64 40])) w') :
    Calls Tryd.prog 37 #[.pointer (some ⟨p, 0, none⟩), .int .i64 2] w R := by
  obtain ⟨k0, k1, k2, k3, k4, k5, k6⟩ := wk_oks
  have e1 : wk6.atE 2 = 40 := by simp [Dk.atE, wk6_eq]
  have e2 : wk6.readS 2 = ByteArray.empty := by simp [Dk.readS, Dk.atE, Dk.now, Dk.last, wk6_eq]
  refine read_any H k6 (by simp [wk6_eq]) 2 fun w' H' I' => ?_
  rw [e1, e2]
  exact h w' H' I'

theorem reads_new (n k c : Nat) (cs : Array Value) (t : TypeId) (zs : List Int) (hk : k = zs.length) (hm : k ≤ 9223372036854775807) (hc : ∀ j, j < k → cs[j]? = some (.int .i64 (zs.getD j 0))) :
    ReadsInts (pts n (.cells cs t (0, 0)) * F) (.slice (some ⟨n, 0, none⟩) k c) zs := by
  refine ⟨_, k, c, rfl, hk, hm, .inr ⟨n, 0, rfl, fun w hw j hj => ?_⟩⟩
  rw [Nat.zero_add, Sat.read hw.left.at]
  exact hc j hj

theorem crash0 {n : Nat} (H : Sat (pts n (.cells #[.int .i64 0, .int .i64 2] 3 (0, 0)) * (IsDk p wk3 * F)) w) (h : ∀ w', Sat (IsDk p wk4 * F) w' → Io w w' → R (.returned (.tuple #[])) w') :
    Calls Tryd.prog 17 #[.pointer (some ⟨p, 0, none⟩), .slice (some ⟨n, 0, none⟩) 2 2, .int .i64 2, .int .i64 3] w R := by
  obtain ⟨k0, k1, k2, k3, k4, k5, k6⟩ := wk_oks
  have H' : Sat (IsDk p wk3 * (pts n (.cells #[.int .i64 0, .int .i64 2] 3 (0, 0)) * F)) w := H.of_eq (by ac_rfl)
  refine crash_any (keep := [0, 2]) H' (reads_new n 2 2 _ _ _ rfl (by omega) ?_) k3 (by rw [wk3_eq]; simp) 2 3 fun w' H1 I1 => h w' ?_ I1
  · intro j hj
    match j, hj with
    | 0, _ => rfl
    | 1, _ => rfl
  · exact (H1.of_eq (show _ = pts n (.cells #[.int .i64 0, .int .i64 2] 3 (0, 0)) * (IsDk p wk4 * F) from by rw [show wk3.crash [0, 2] 2 3 = wk4 from rfl]; ac_rfl)).right