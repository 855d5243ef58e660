/-
  The document's lists of pairs: Minus, by its walk. It proves no statement by itself.
-/
import Derived.Test.YtabpgejjnphfcaaGreatQ07
import Derived.Test.YtabpgejjnphfcaaGreatQ04
namespace Go.Proofs.YtabpgejjnphfcaaGreat
open Go.RowKit
set_option linter.unusedSimpArgs false
set_option linter.unusedVariables false

namespace Eg
theorem mfil_take (b s : List Pr) (k : Nat) (hk : k < s.length) : (s.take (k + 1)).filter (fun x => !decide (x ∈ b)) = if s[k] ∈ b then (s.take k).filter (fun x => !decide (x ∈ b)) else (s.take k).filter (fun x => !decide (x ∈ b)) ++ [s[k]] := by
  rw [List.take_succ_eq_append_getElem hk, List.filter_append]
  by_cases h : s[k] ∈ b <;> simp [h]
theorem minus_le (a b : List Pr) : (minus a b).length ≤ a.length := by
  have h1 : (minus a b).length ≤ (sort a).length := List.length_filter_le _ _
  have h2 := sort_len a
  omega
end Eg
section
variable {F : Asn} {w : World} {R : Ending → World → Prop} {l m : List Pr} {v u : Value}
set_option maxRecDepth 100000 in
set_option maxHeartbeats 2000000 in
theorem rminus_any (hv : ReadsP F v l) (hl : l.length ≤ 1000) (hu : ReadsP F u m) (H : Sat F w) (h : ∀ v' w', Sat (RowP v' (Eg.minus l m) * F) w' → Io w w' → R (.returned v') w') :
    Calls Tryz.prog 103 #[v, u] w R := by
  have hSl := Eg.sort_len l
  obtain ⟨S, hS⟩ : ∃ S, Hid (S = Eg.sort l) := ⟨_, Lib.hid rfl⟩
  have HH := Lib.hid h
  rw [← hS.out] at hSl
  clear h
  go_enter Tryz.func103, Tryz.ntmps103
  go_wp2_with (go_at_call 104; with_reducible refine rsort_any hv hl H ?_; intro vs w1 H1 I1)
  rw [← hS.out] at H1
  have hs := readsP_row H1 (by omega)
  obtain ⟨sa, sc, rfl, hm⟩ := readsP_len hs
  have HV := Lib.hid (fun k hk => readsP_get hs k hk)
  have HU := fun G => Lib.hid ((hu.with (G := RowP (.slice sa S.length sc) S)).with (G := G))
  clear hs hu hv
  go_loopw [5, 7] (fun y x wr => ∃ (k : Nat) (o : List Pr), k ≤ S.length ∧ x = .int .i64 (k : Int) ∧ Hid ((S.take k).filter (fun x => !decide (x ∈ m)) = o) ∧ Sat (RowP y o * (RowP (.slice sa S.length sc) S * F)) wr ∧ Io w wr) (fun _ x _ => S.length - (intOf x).toNat)
  case atStart => exact ⟨0, [], by omega, rfl, Lib.hid rfl, row_nilP H1, I1⟩
  case round =>
    obtain ⟨k, o, hk, rfl, hs, Hk, Ik⟩ := hrel
    clear H1 I1
    by_cases hlt : k < S.length
    · have hlti : (k : Int) < (S.length : Int) := by omega
      obtain ⟨b, off, x1, x2, rfl, hx, hc⟩ := HV.out k hlt
      obtain ⟨c0, c1⟩ := hc wr Hk.right
      have ol : o.length ≤ 1000 := by
        have := List.length_filter_le (fun x => !decide (x ∈ m)) (S.take k)
        rw [hs.out, List.length_take] at this
        omega
      have hw := Eg.mfil_take m S k hlt
      rw [hs.out, hx] at hw
      obtain ⟨d, hd⟩ : ∃ d, Hid (d = decide ((x1, x2) ∈ m)) := ⟨_, Lib.hid rfl⟩
      have HS := Lib.hid hw
      have OL := Lib.hid ol
      have HC := Lib.hid hc
      clear hc hx hs ol hw
      cases d with
      | true =>
        have HS' : Hid ((S.take (k + 1)).filter (fun x => !decide (x ∈ m)) = o) := Lib.hid (by rw [HS.out, if_pos (of_decide_eq_true hd.out.symm)])
        go_wp2_with (go_at_call 81; with_reducible refine rhas_d (p := (x1, x2)) (HU _).out hd Hk ?_; intro w2 H2 I2)
        go_roundw
        case rel => exact ⟨k + 1, o, by omega, by go_num, HS', H2, Ik.trans I2⟩
        case measure => simp [intOf]; omega
      | false =>
        have HS' : Hid ((S.take (k + 1)).filter (fun x => !decide (x ∈ m)) = o ++ [(x1, x2)]) := Lib.hid (by rw [HS.out, if_neg (of_decide_eq_false hd.out.symm)])
        go_wp2_with (first | (go_at_call 81; with_reducible refine rhas_d (p := (x1, x2)) (HU _).out hd Hk ?_; intro w2 H2 I2; obtain ⟨z0, z1⟩ := HC.out w2 H2.right) | (at_builtin; refine wpList_append_pair rfl (.tmp 25) (.tmp 30) rfl rfl H2 (by have := OL.out; omega) rfl rfl ?_; intro v3 w3 H3 I3))
        go_roundw
        case rel => exact ⟨k + 1, o ++ [(x1, x2)], by omega, by go_num, HS', H3, (Ik.trans I2).trans I3⟩
        case measure => simp [intOf]; omega
    · obtain rfl : k = S.length := by omega
      have hge : ¬ (S.length : Int) < (S.length : Int) := by omega
      have he : Hid (Eg.minus l m = o) := Lib.hid (by unfold Eg.minus; rw [← hS.out, ← hs.out, List.take_length])
      clear HV HU
      go_wp2_with fail
      refine HH.out _ _ ?_ Ik
      rw [he.out]
      exact Hk.mid
end
end Go.Proofs.YtabpgejjnphfcaaGreat

/-
  Rows of changes; the document's Diff, Apply, SameChanges, by their walks. It proves no statement by itself.
-/
namespace Go.Proofs.YtabpgejjnphfcaaGreat
open Go.RowKit
set_option linter.unusedSimpArgs false
set_option linter.unusedVariables false

abbrev Ch := Pr × Bool
/-- A change's cells. -/
def encC (x : Ch) : List Value := [.int .i64 x.1.1, .int .i64 x.1.2, .bool x.2]
theorem encC_ok : Enc encC 3 := ⟨fun _ => rfl, fun x u hu => by simp [encC] at hu; rcases hu with rfl | rfl | rfl <;> rfl⟩
theorem Tryz.rowC : RowTy Tryz.prog 33 51 3 24 := ⟨Tryz.underlying33, ⟨.agg #[.int .i64 0, .int .i64 0, .bool false], rfl, by kernel_rfl⟩, by omega⟩
abbrev RowC (v : Value) (l : List Ch) : Asn := RowOf 51 3 encC v l
abbrev ReadsC (F : Asn) (v : Value) (l : List Ch) : Prop := Reads encC F v l
theorem readsC_get {F : Asn} {a : Option Addr} {n c : Nat} {l : List Ch} (hl : ReadsC F (.slice a n c) l) (k : Nat) (hk : k < l.length) : ∃ b off x1 x2 y, a = some ⟨b, off, none⟩ ∧ l[k] = ((x1, x2), y) ∧ ∀ w, Sat F w →
    w.cell? ⟨b, off + k * 3, none⟩ = some (.int .i64 x1) ∧ w.cell? ⟨b, off + k * 3 + 1, none⟩ = some (.int .i64 x2) ∧ w.cell? ⟨b, off + k * 3 + 2, none⟩ = some (.bool y) := by
  obtain ⟨b, off, h1, h2⟩ := hl.get encC_ok k hk
  exact ⟨b, off, _, _, _, h1, rfl, fun w hw => ⟨h2 w hw 0 _ (by omega) rfl, h2 w hw 1 _ (by omega) rfl, h2 w hw 2 _ (by omega) rfl⟩⟩
theorem readsC_len {F : Asn} {v : Value} {l : List Ch} (h : ReadsC F v l) : ∃ a c, v = .slice a l.length c ∧ (l.length : Int) ≤ 9223372036854775807 := by
  obtain ⟨a, c, h1, h2, _⟩ := h
  exact ⟨a, c, h1, by omega⟩
theorem eql_change (x y : Ch) (w : World) : (binOp .eql 51 (.agg #[.int .i64 x.1.1, .int .i64 x.1.2, .bool x.2]) (.agg #[.int .i64 y.1.1, .int .i64 y.1.2, .bool y.2])).run Tryz.prog w = .ok (.bool (decide (x = y))) w := by
  have u3 := Tryz.underlying3
  have a3 := Tryz.isAgg3
  have z3 := Tryz.sizeOf3
  have u4 := Tryz.underlying4
  have a4 := Tryz.isAgg4
  have z4 := Tryz.sizeOf4
  have u25 := Tryz.underlying49
  have a25 := Tryz.isAgg49
  have z25 := Tryz.sizeOf49
  have hS : Tryz.prog.underlying 51 = some (.struct (Tryz.prog.fieldsOf 51)) := by kernel_rfl
  have hp : Tryz.prog.stoodInHeld 51 = false := by kernel_rfl
  have hS2 : Tryz.prog.underlying 49 = some (.struct (Tryz.prog.fieldsOf 49)) := by kernel_rfl
  have hp2 : Tryz.prog.stoodInHeld 49 = false := by kernel_rfl
  rw [run_eql_struct, show (10000 : Nat) = 9999 + 1 from rfl, run_equalIn_agg w 9999 51 _ _ hS hp]
  simp only [Program.fieldsOf, Tryz.underlying51]
  go_simp
  obtain ⟨⟨x1, x2⟩, x3⟩ := x
  obtain ⟨⟨y1, y2⟩, y3⟩ := y
  by_cases h1 : x1 = y1 <;> by_cases h2 : x2 = y2 <;> by_cases h3 : x3 = y3 <;> simp [h1, h2, h3]
end Go.Proofs.YtabpgejjnphfcaaGreat
