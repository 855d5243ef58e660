/-
  Rows of acts that came in, and whether they are few. It proves no statement by itself.
-/
import Derived.Test.YtnkekdeicgmelaaWorks
import Derived.Deep.RegionHeld3
namespace Go.Proofs.Ytnkekdeicgmelaa
open Go.RowKit
set_option linter.unusedSimpArgs false
set_option linter.unusedVariables false

/-- One act. -/
structure Act4 where
  K : Int
  I : Int
  B : UInt8
  kv : Value
  keep : List Int
  T : Int
  C : Int

/-- A slice value that reads as these acts, wherever F holds. -/
structure ReadsActs (F : Asn) (v : Value) (l : List Act4) : Prop where
  shape : ∃ a c, v = .slice a l.length c ∧ l.length ≤ 9223372036854775807 ∧ (l.length = 0 ∨ ∃ b off, a = some ⟨b, off, none⟩ ∧ ∀ w, Sat F w → ∀ i (h : i < l.length),
    w.cell? ⟨b, off + i * 6, none⟩ = some (.int .i64 l[i].K) ∧ w.cell? ⟨b, off + i * 6 + 1, none⟩ = some (.int .i64 l[i].I) ∧ w.cell? ⟨b, off + i * 6 + 2, none⟩ = some (.int .u8 (l[i].B.toNat : Int)) ∧
    w.cell? ⟨b, off + i * 6 + 3, none⟩ = some l[i].kv ∧ w.cell? ⟨b, off + i * 6 + 4, none⟩ = some (.int .i64 l[i].T) ∧ w.cell? ⟨b, off + i * 6 + 5, none⟩ = some (.int .i64 l[i].C))
  keeps : ∀ x ∈ l, ReadsInts F x.kv x.keep
  ints : ∀ x ∈ l, (-9223372036854775808 ≤ x.K ∧ x.K ≤ 9223372036854775807) ∧ (-9223372036854775808 ≤ x.I ∧ x.I ≤ 9223372036854775807)

theorem ReadsActs.with {F G : Asn} {v : Value} {l : List Act4} (h : ReadsActs F v l) : ReadsActs (G * F) v l := by
  obtain ⟨⟨a, c, h1, h2, h3⟩, h4, h5⟩ := h
  refine ⟨⟨a, c, h1, h2, ?_⟩, fun x hx => (h4 x hx).with, h5⟩
  rcases h3 with h3 | ⟨b, off, e, h3⟩
  · exact .inl h3
  · exact .inr ⟨b, off, e, fun w hw => h3 w hw.right⟩

/-- light(n, l). -/
def lightB (n : Int) (l : List Act4) : Bool := decide (n ≤ 40) && decide (l.length ≤ 60) && l.all fun x => decide (x.keep.length ≤ 60)

section
variable {w : World} {R : Ending → World → Prop} {F : Asn}

set_option maxHeartbeats 1000000 in
theorem light_any {v : Value} {l : List Act4} (n : Int) (hl : ReadsActs F v l) (H : Sat F w) (h : R (.returned (.bool (lightB n l))) w) :
    Calls Try.prog 11 #[.int .i64 n, v] w R := by
  obtain ⟨⟨a, c, rfl, hm, h3⟩, hk, hi⟩ := hl
  generalize hb : lightB n l = r at h
  have HB := Lib.hid hb
  clear hb
  have HK := Lib.hid hk
  clear hk hi
  by_cases h40 : n ≤ 40
  · by_cases h60 : l.length ≤ 60
    · have h60' : (l.length : Int) ≤ 60 := by omega
      clear h60
      rcases h3 with hz | ⟨b, off, rfl, hc⟩
      · have e : l = [] := List.eq_nil_of_length_eq_zero hz
        subst e
        have hr : r = true := by rw [← HB.out]; simp [lightB, h40]
        subst hr
        clear HB HK hm h60'
        go_enter Try.func11, Try.ntmps11
        go_wp2_with fail
        refine wp_loop_rounds 1 ?_
        rw [rounds_succ]
        go_wp2_with fail
        exact h
      · go_enter Try.func11, Try.ntmps11
        go_wp2_with fail
        go_loop [5] (fun v => ∃ k : Nat, k ≤ l.length ∧ v = .int .i64 (k : Int) ∧ (l.take k).all (fun x => decide (x.keep.length ≤ 60)) = true) (fun v => l.length - (intOf v).toNat)
        case atStart => exact ⟨0, Nat.zero_le _, rfl, rfl⟩
        case round =>
          obtain ⟨k, hkl, rfl, hall⟩ := hrel
          have HA := Lib.hid hall
          clear hall
          by_cases hlt : k < l.length
          · obtain ⟨_, _, _, q3, _, _⟩ := hc w H k hlt
            obtain ⟨a1, n1, c1, e1, e2, e3, _⟩ := HK.out l[k] (List.getElem_mem hlt)
            rw [e1] at q3
            have hnext : (l.take (k + 1)).all (fun x => decide (x.keep.length ≤ 60)) = decide (n1 ≤ 60) := by
              rw [List.take_succ_eq_append_getElem hlt, List.all_append, HA.out, e2]; simp
            have HN := Lib.hid hnext
            have hbad : ¬ n1 ≤ 60 → r = false := by
              intro hx
              rw [← HB.out]
              have : l.all (fun x => decide (x.keep.length ≤ 60)) = false := by
                rw [List.all_eq_false]
                exact ⟨l[k], List.getElem_mem hlt, by simp; omega⟩
              simp [lightB, this]
            have HBad := Lib.hid hbad
            clear hnext hbad e1 e2 hc
            by_cases hn1 : (n1 : Int) ≤ 60
            · go_wp2_with fail
              go_round
              case rel => exact ⟨k + 1, by omega, by go_num, by rw [HN.out]; simp; omega⟩
              case measure => simp [intOf]; omega
            · have e := HBad.out (by omega)
              subst e
              go_wp2_with fail
              exact h
          · obtain rfl : k = l.length := by omega
            have hr : r = true := by
              rw [← HB.out, lightB]
              have ha := HA.out
              rw [List.take_length] at ha
              rw [ha]
              simp [h40]; omega
            subst hr
            clear hc
            go_wp2_with fail
            exact h
    · have hr : r = false := by rw [← HB.out]; simp [lightB, h60]
      subst hr
      have h60' : ¬ (l.length : Int) ≤ 60 := by omega
      clear HB HK h60 h3
      go_enter Try.func11, Try.ntmps11
      go_wp2_with fail
      exact h
  · have hr : r = false := by rw [← HB.out]; simp [lightB, h40]
    subst hr
    clear HB HK h3
    go_enter Try.func11, Try.ntmps11
    go_wp2_with fail
    exact h
end
end Go.Proofs.Ytnkekdeicgmelaa
