/-
  The statement PagefileNone, walked: it answers true. It proves the walk alone; the row is closed elsewhere.
-/
import Derived.Test.YtpccdadobnhpkaaDoorF6
namespace Go.Proofs.YtpccdadobnhpkaaDoor
open Go.RowKit
set_option linter.unusedSimpArgs false
set_option linter.unusedVariables false

section
variable {F : Asn} {w : World} {R : Ending → World → Prop}
set_option maxRecDepth 100000 in
set_option maxHeartbeats 2000000 in
theorem none_walk (hv : Hv F) (n i : Int) (k : UInt8) (s : ByteArray) (hn0 : -9223372036854775808 ≤ n) (hn1 : n ≤ 9223372036854775807) (hs : s.size ≤ 9223372036854775807) (H : Sat F w)
    (h : ∀ w', Sat F w' → Io w w' → R (.returned (.bool true)) w') :
    Calls Tryd.prog 4 #[.int .i64 n, .int .i64 i, .int .u8 (k.toNat : Int), .string s] w R := by
  have zs : (s.size : Int) ≤ 9223372036854775807 := by omega
  have HH := Lib.hid h
  clear h
  by_cases g1 : 300 < (s.size : Int)
  · clear hs
    go_enter Tryd.func4, Tryd.ntmps4
    go_wp2_with fail
    refine works6 hv H ?_
    intro w1 H1 I1
    go_wp2_with fail
    all_goals exact HH.out w1 H1 I1
  have g1' : (s.size : Int) ≤ 300 := by omega
  have HS : Hid (s.size ≤ 1000000) := Lib.hid (by omega)
  clear g1 hs
  go_enter Tryd.func4, Tryd.ntmps4
  go_wp2_with fail
  refine works6 hv H ?_
  intro w1 H1 I1
  go_wp2_with fail
  refine pf_new0 H1 ?_
  intro qa pa w2 H2 I2
  have J2 := I1.trans I2
  clear H H1 I1 I2
  go_wp2_with fail
  refine new_any (min n 1) (by omega) (by omega) H2 ?_
  intro p w3 H3 I3
  have J3 := J2.trans I3
  clear H2 I3 J2
  obtain ⟨m, hm, nm⟩ : ∃ m : Nat, (min (max (min n 1) 0) 16384).toNat = m ∧ Hid (Nul (Dk.new m)) := ⟨_, rfl, Lib.hid (Nul.new (by omega))⟩
  rw [hm] at H3
  clear hm
  go_wp2_with fail
  refine pf_new H3 ?_
  intro q w4 H4 I4
  have J4 := J3.trans I4
  have H4' : Sat (IsPf qa pa (Dk.new 0) * (IsPf q p (Dk.new m) * F)) w4 := H4.of_eq (by ac_rfl)
  clear H3 I4 J3 H4
  go_wp2_with fail
  refine none_any hv.with H4' (Nul.new (by omega)) (by simp [Dk.new]) (by simp [Dk.new]) i k s HS.out ?_
  intro w5 H5 I5
  have J5 := J4.trans I5
  have H5' : Sat (IsPf q p (Dk.new m) * (IsPf qa pa (Dk.new 0) * F)) w5 := H5.of_eq (by ac_rfl)
  clear H4' I5 J4 H5
  go_wp2_with fail
  refine none_any hv.with H5' nm.out (by simp [Dk.new]) (by simp [Dk.new]) i k s HS.out ?_
  intro w6 H6 I6
  have fin := HH.out w6 H6.right.right (J5.trans I6)
  go_wp2_with fail
  exact fin
end
end Go.Proofs.YtpccdadobnhpkaaDoor
