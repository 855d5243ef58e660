/-
  ModelGraphs, by its walk. It proves no statement by itself.
-/
import Derived.Test.YtabpgejjnphfcaaGreatQ37
namespace Go.Proofs.YtabpgejjnphfcaaGreat
open Go.RowKit Go.Lib Go.MapKept
open Md (Nm St)
set_option linter.unusedSimpArgs false
set_option linter.unusedVariables false
set_option linter.unusedSectionVars false
section
variable {F : Asn} {w : World} {R : Ending → World → Prop}
set_option maxRecDepth 100000 in
set_option maxHeartbeats 4000000 in
theorem graphs_any {l : List Pr} {vl : Value} (hl : ReadsP F vl l) (u v : Int) (H : Sat F w) (hh : ∀ w', Sat F w' → Io w w' → R (.returned (.bool true)) w') : Calls Tryz.prog 3 #[vl, .int .i64 u, .int .i64 v] w R := by
  have HH := Lib.hid hh
  clear hh
  obtain ⟨a, c, rfl, hm⟩ := readsP_len hl
  by_cases hn : l.length ≤ 40
  · have hni : ¬ (40 : Int) < (l.length : Int) := by omega
    obtain ⟨d, hd⟩ : ∃ d, d = decide (v ∈ Gr.members l u) := ⟨_, rfl⟩
    have HD1 : Hid (d = true ↔ Gr.Reach l u v) := Lib.hid (by rw [hd, ← Gr.mem_members]; simp)
    have HD2 := Lib.hid hd
    clear hd
    go_enter Tryz.func3, Tryz.ntmps3
    go_wp2_with (first
      | (go_at_call 10; with_reducible refine works20_any H ?_; intro w1 H1 I1)
      | (go_at_call 11; with_reducible refine joined_any hl (by omega) u v HD1 H1 ?_; intro w2 H2 I2)
      | (go_at_call 12; with_reducible refine rjoined_any hl (by omega) u v HD2 H2 ?_; intro w3 H3 I3)
      | (go_at_call 13; with_reducible refine size_any hl (by omega) v (Lib.hid rfl) H3 ?_; intro w4 H4 I4)
      | (go_at_call 14; with_reducible refine rmembers_any hl (by omega) v H4 ?_; intro v5 w5 H5 I5; obtain ⟨ma, mc, rfl⟩ := row_slice2 H5))
    exact HH.out _ H5.right ((((I1.trans I2).trans I3).trans I4).trans I5)
  · have hni : (40 : Int) < (l.length : Int) := by omega
    go_enter Tryz.func3, Tryz.ntmps3
    go_wp2_with (go_at_call 10; with_reducible refine works20_any H ?_; intro w1 H1 I1)
    exact HH.out _ H1 I1
end
end Go.Proofs.YtabpgejjnphfcaaGreat
