/-
  Rows of operations, and whether they are too many, by its walk. It proves no statement by itself.
-/
import Derived.Test.YtabpgejjnphfcaaGreatQ38
namespace Go.Proofs.YtabpgejjnphfcaaGreat
open Go.RowKit Go.Lib Go.MapKept
open Md (Nm St)
set_option linter.unusedSimpArgs false
set_option linter.unusedVariables false
set_option linter.unusedSectionVars false
def encO (x : OpX) : List Value := [.int .i64 x.op.kind, .string x.op.name, .int .i64 x.op.u, .int .i64 x.op.v, .int .i64 x.op.a, .int .i64 x.op.b, .slice x.ka x.kl x.kc, .int .i64 x.torn, .int .i64 x.cut, .string x.text]
theorem encO_ok : Enc encO 10 := ⟨fun _ => rfl, fun x u hu => by simp [encO] at hu; rcases hu with rfl | rfl | rfl | rfl | rfl | rfl | rfl | rfl | rfl | rfl <;> rfl⟩
abbrev ReadsO (F : Asn) (v : Value) (l : List OpX) : Prop := Reads encO F v l
theorem reads_len {α : Type} {enc : α → List Value} {F : Asn} {v : Value} {l : List α} (h : Reads enc F v l) : ∃ a c, v = .slice a l.length c ∧ (l.length : Int) ≤ 9223372036854775807 := by
  obtain ⟨a, c, h1, h2, _⟩ := h
  exact ⟨a, c, h1, by omega⟩
theorem readsO_get {F : Asn} {a : Option Addr} {n c : Nat} {l : List OpX} (hl : ReadsO F (.slice a n c) l) (k : Nat) (hk : k < l.length) : ∃ b off, a = some ⟨b, off, none⟩ ∧ ∃ kind name u v A B ka kl kc torn cut text, l[k] = ⟨⟨kind, name, u, v, A, B⟩, ka, kl, kc, torn, cut, text⟩ ∧ ∀ w, Sat F w →
    w.cell? ⟨b, off + k * 10, none⟩ = some (.int .i64 kind) ∧ w.cell? ⟨b, off + k * 10 + 1, none⟩ = some (.string name) ∧ w.cell? ⟨b, off + k * 10 + 2, none⟩ = some (.int .i64 u) ∧ w.cell? ⟨b, off + k * 10 + 3, none⟩ = some (.int .i64 v) ∧ w.cell? ⟨b, off + k * 10 + 4, none⟩ = some (.int .i64 A) ∧
    w.cell? ⟨b, off + k * 10 + 5, none⟩ = some (.int .i64 B) ∧ w.cell? ⟨b, off + k * 10 + 6, none⟩ = some (.slice ka kl kc) ∧ w.cell? ⟨b, off + k * 10 + 7, none⟩ = some (.int .i64 torn) ∧ w.cell? ⟨b, off + k * 10 + 8, none⟩ = some (.int .i64 cut) ∧ w.cell? ⟨b, off + k * 10 + 9, none⟩ = some (.string text) := by
  obtain ⟨b, off, h1, h2⟩ := hl.get encO_ok k hk
  obtain ⟨x, hx⟩ : ∃ x, l[k] = x := ⟨_, rfl⟩
  obtain ⟨⟨kind, name, u, v, A, B⟩, ka, kl, kc, torn, cut, text⟩ := x
  refine ⟨b, off, h1, kind, name, u, v, A, B, ka, kl, kc, torn, cut, text, hx, fun w hw => ?_⟩
  have h3 := h2 w hw
  rw [hx] at h3
  exact ⟨h3 0 _ (by omega) rfl, h3 1 _ (by omega) rfl, h3 2 _ (by omega) rfl, h3 3 _ (by omega) rfl, h3 4 _ (by omega) rfl, h3 5 _ (by omega) rfl, h3 6 _ (by omega) rfl, h3 7 _ (by omega) rfl, h3 8 _ (by omega) rfl, h3 9 _ (by omega) rfl⟩
/-- Are operations more than is looked at? -/
def much (l : List OpX) : Bool := decide (120 < l.length) || l.any fun x => decide (60 < x.op.name.size)
theorem much_not {l : List OpX} (h : much l = false) : l.length ≤ 120 ∧ ∀ x ∈ l, x.op.name.size ≤ 60 := by
  unfold much at h
  simp only [Bool.or_eq_false_iff, decide_eq_false_iff_not, List.any_eq_false, decide_eq_true_eq] at h
  exact ⟨by omega, fun x hx => by have := h.2 x hx; omega⟩
section
variable {F : Asn} {w : World} {R : Ending → World → Prop}
set_option maxRecDepth 100000 in
set_option maxHeartbeats 4000000 in
theorem over_any {l : List OpX} {v : Value} (hl : ReadsO F v l) {d : Bool} (hd : Hid (d = much l)) (H : Sat F w) (hh : ∀ w', Sat F w' → Io w w' → R (.returned (.bool d)) w') : Calls Tryz.prog 15 #[v] w R := by
  have HH := Lib.hid hh
  clear hh
  obtain ⟨a, c, rfl, hm⟩ := reads_len hl
  by_cases hn : l.length ≤ 120
  · have hni : ¬ (120 : Int) < (l.length : Int) := by omega
    have HV := Lib.hid (fun k hk => readsO_get hl k hk)
    go_enter Tryz.func15, Tryz.ntmps15
    go_wp2_with fail
    go_loopw [3] (fun x wr => ∃ k : Nat, k ≤ l.length ∧ x = .int .i64 (k : Int) ∧ Hid (∀ x ∈ l.take k, x.op.name.size ≤ 60) ∧ Sat F wr ∧ Io w wr) (fun x _ => l.length - (intOf x).toNat)
    case atStart => exact ⟨0, by omega, rfl, Lib.hid (by simp), H, Io.refl _⟩
    case round =>
      obtain ⟨k, hk, rfl, hs, Hk, Ik⟩ := hrel
      by_cases hlt : k < l.length
      · have hlti : (k : Int) < (l.length : Int) := by omega
        have hk0 : (0 : Int) ≤ (k : Int) := by omega
        obtain ⟨b, off, rfl, kind, name, u, v, A, B, ka, kl, kc, torn, cut, text, hx, hc⟩ := HV.out k hlt
        obtain ⟨c0, c1, _⟩ := hc wr Hk
        have HX := Lib.hid hx
        clear hc hx
        by_cases hsz : name.size ≤ 60
        · have hszi : ¬ (60 : Int) < (name.size : Int) := by omega
          have HS : Hid (∀ x ∈ l.take (k + 1), x.op.name.size ≤ 60) := Lib.hid (by
            intro x hx
            rw [List.take_succ_eq_append_getElem hlt, List.mem_append, List.mem_singleton] at hx
            rcases hx with h | h
            · exact hs.out x h
            · rw [h, HX.out]; exact hsz)
          go_wp2_with fail
          go_roundw
          case rel => exact ⟨k + 1, by omega, by go_num, HS, Hk, Ik⟩
          case measure => simp [intOf]; omega
        · have hszi : (60 : Int) < (name.size : Int) := by omega
          have hdt : d = true := by
            rw [hd.out]
            unfold much
            rw [Bool.or_eq_true]
            right
            rw [List.any_eq_true]
            exact ⟨l[k], List.getElem_mem hlt, by rw [HX.out]; simpa using hsz⟩
          subst hdt
          clear hd
          go_wp2_with fail
          exact HH.out _ Hk Ik
      · obtain rfl : k = l.length := by omega
        have hge : ¬ (l.length : Int) < (l.length : Int) := by omega
        have hdf : d = false := by
          have h := hs.out
          rw [List.take_length] at h
          rw [hd.out]
          unfold much
          simp only [Bool.or_eq_false_iff, decide_eq_false_iff_not, List.any_eq_false, decide_eq_true_eq]
          exact ⟨by omega, fun x hx => by have := h x hx; omega⟩
        subst hdf
        clear HV hd
        go_wp2_with fail
        exact HH.out _ Hk Ik
  · have hni : (120 : Int) < (l.length : Int) := by omega
    have hdt : d = true := by
      rw [hd.out]
      unfold much
      rw [Bool.or_eq_true]
      left
      simpa using hn
    subst hdt
    clear hd
    go_enter Tryz.func15, Tryz.ntmps15
    go_wp2_with fail
    exact HH.out _ H (Io.refl _)
end
theorem row_len {e : TypeId} {sz : Nat} {a : Option Addr} {m c n : Nat} {xs : List Value} {F : Asn} {w : World} (H : Sat (Row e sz (.slice a m c) n xs * F) w) : m = n := by
  obtain ⟨_, ⟨h, h0, _⟩ | ⟨g, cap, cur, h, _⟩⟩ := sat_row.1 H
  · cases h; exact h0.symm
  · cases h; rfl
theorem ansAt_rows {A : Md.An} {s : Sl4} {F : Asn} {w : World} (H : Sat (AnsAt A s * F) w) : Sat (RowC s.c A.changes * (RowP s.p A.pairs * (RowV s.v A.versions * (RowB s.b A.branches * F)))) w := H.of_eq (by unfold AnsAt; simp only [star_assoc])
theorem ansAt_len {A : Md.An} {F : Asn} {w : World} {ca pa va ba : Option Addr} {cl cc pl pc vl vc bl bc : Nat} (H : Sat (AnsAt A ⟨.slice ca cl cc, .slice pa pl pc, .slice va vl vc, .slice ba bl bc⟩ * F) w) : cl = A.changes.length ∧ pl = A.pairs.length ∧ vl = A.versions.length ∧ bl = A.branches.length := by
  have K := ansAt_rows H
  exact ⟨row_len K, row_len K.right, row_len K.right.right, row_len K.right.right.right⟩
/-- What stands behind the first operations. -/
def opsOf (l : List OpX) : List Md.Op := l.map (·.op)
theorem inv_ops (l : List OpX) (k : Nat) (hl : l.length ≤ 120) : Md.Inv 120 (Md.run Md.init ((opsOf l).take k)) := by
  have := Md.inv_run ((opsOf l).take k) Md.inv_init
  refine this.mono ?_
  rw [List.length_take]
  unfold opsOf
  rw [List.length_map]
  omega
theorem inv_ops2 {j : Nat} {T : St} (hT : Md.Inv j T) (l : List OpX) (k : Nat) (hl : l.length ≤ 120) : Md.Inv (j + 120) (Md.run T ((opsOf l).take k)) := by
  have := Md.inv_run ((opsOf l).take k) hT
  refine this.mono ?_
  rw [List.length_take]
  unfold opsOf
  rw [List.length_map]
  omega
theorem run_step (T : St) (l : List OpX) (k : Nat) (hk : k < l.length) {x : OpX} (hx : l[k] = x) : Md.mdo (Md.run T ((opsOf l).take k)) x.op = (Md.run T ((opsOf l).take (k + 1)), (Md.mdo (Md.run T ((opsOf l).take k)) x.op).2) := by
  have hk2 : k < (opsOf l).length := by unfold opsOf; rw [List.length_map]; exact hk
  rw [Md.run_take _ _ k hk2]
  have : (opsOf l)[k] = x.op := by simp [opsOf, hx]
  rw [this]
theorem run_all (T : St) (l : List OpX) : Md.run T ((opsOf l).take l.length) = Md.run T (opsOf l) := by
  have : (opsOf l).length = l.length := by unfold opsOf; rw [List.length_map]
  rw [← this, List.take_length]
end Go.Proofs.YtabpgejjnphfcaaGreat
