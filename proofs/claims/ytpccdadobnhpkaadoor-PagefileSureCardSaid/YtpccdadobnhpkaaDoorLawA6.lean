/-
  How a row of acts that came in reads. It proves no statement by itself.
-/
import Derived.Test.YtpccdadobnhpkaaDoorLawI
import Derived.Test.YtpccdadobnhpkaaDoorA6
namespace Go.Proofs.YtpccdadobnhpkaaDoor
open Go.ChangeShapes Go.WideShapes Go.ChangeAt Go.RowKit Go.Deep Go.Joins
set_option linter.unusedSimpArgs false
set_option linter.unusedVariables false

section
variable {H : Type} {enc : TypeId × Value → H} {W : World}
theorem cells_act6 : Tryd.prog.cellsOf 34 = 4 := by kernel_rfl

set_option maxRecDepth 100000 in
theorem act6_of {base : Nat} {sp : Nat → Bool} {held : Bool} {fuel : Nat} {cs : List Value} {x : DataW H × List MemPlace}
    (h : DataW.trod enc Tryd.prog W base sp held fuel 34 cs = some x) :
    ∃ a : Act6, cs = [.int .i64 a.K, .int .i64 a.I, .int .u8 (a.kd.toNat : Int), .string a.S] ∧
      ((-9223372036854775808 ≤ a.K ∧ a.K ≤ 9223372036854775807) ∧ (-9223372036854775808 ≤ a.I ∧ a.I ≤ 9223372036854775807) ∧ a.S.size ≤ 9223372036854775807) := by
  obtain ⟨xs, n, _, _, hlen, hxl, hf⟩ := DataW.trod_struct Tryd.underlying34 h
  rw [cells_act6] at hlen
  have k1 : Tryd.prog.cellsOf 3 = 1 := by kernel_rfl
  have k2 : Tryd.prog.cellsOf 32 = 1 := by kernel_rfl
  have k3 : Tryd.prog.cellsOf 9 = 1 := by kernel_rfl
  match cs, hlen with
  | [c0, c1, c2, c3], _ =>
    have g0 : DataW.trod enc Tryd.prog W base sp held n 3 (([c0, c1, c2, c3].drop 0).take (Tryd.prog.cellsOf 3)) = xs[0]? := hf 0 _ rfl
    have g1 : DataW.trod enc Tryd.prog W base sp held n 3 (([c0, c1, c2, c3].drop 1).take (Tryd.prog.cellsOf 3)) = xs[1]? := hf 1 _ rfl
    have g2 : DataW.trod enc Tryd.prog W base sp held n 32 (([c0, c1, c2, c3].drop 2).take (Tryd.prog.cellsOf 32)) = xs[2]? := hf 2 _ rfl
    have g3 : DataW.trod enc Tryd.prog W base sp held n 9 (([c0, c1, c2, c3].drop 3).take (Tryd.prog.cellsOf 9)) = xs[3]? := hf 3 _ rfl
    rw [k1] at g0 g1
    rw [k2] at g2
    rw [k3] at g3
    have hx : xs.length = 4 := hxl
    match xs, hx with
    | [x0, x1, x2, x3], _ =>
      simp only [List.drop_zero, List.drop_succ_cons, List.take_succ_cons, List.take_zero, List.getElem?_cons_zero, List.getElem?_cons_succ] at g0 g1 g2 g3
      obtain ⟨z0, e0, _, b0⟩ := DataW.trod_int Tryd.underlying3 g0
      obtain ⟨z1, e1, _, b1⟩ := DataW.trod_int Tryd.underlying3 g1
      obtain ⟨z2, e2, _, b2⟩ := DataW.trod_int Tryd.underlying32 g2
      obtain ⟨z3, e3, _, b3⟩ := DataW.trod_string Tryd.underlying9 g3
      simp only [List.cons.injEq, and_true] at e0 e1 e2 e3
      subst e0 e1 e2 e3
      have hu : 0 ≤ z2 ∧ z2 ≤ 255 := by simpa [Lit.wf, IntKind.min, IntKind.max, IntKind.signed, IntKind.bits] using b2
      have e : ((UInt8.ofNat z2.toNat).toNat : Int) = z2 := by simp; omega
      have k0 := wf_i64 b0
      have k1 := wf_i64 b1
      refine ⟨⟨z0, z1, UInt8.ofNat z2.toNat, z3⟩, ?_, k0, k1, b3⟩
      show [Value.int .i64 z0, .int .i64 z1, .int .u8 z2, .string z3] = [.int .i64 z0, .int .i64 z1, .int .u8 ((UInt8.ofNat z2.toNat).toNat : Int), .string z3]
      rw [e]

set_option maxRecDepth 100000 in
/-- A row of acts that came in. -/
theorem acts6_of {base : Nat} {sp : Nat → Bool} {held : Bool} {fuel : Nat} {v : Value} {x : DataW H × List MemPlace}
    (h : DataW.trod enc Tryd.prog W base sp held fuel 22 [v] = some x) : ∃ l, ReadsA (whole W) v l := by
  rcases open_slice Tryd.underlying22 h with ⟨hv, _⟩ | ⟨a, len, cap, m, n, D, Pl, hv, _, hl, hm, hmm, _, hi⟩
  · cases hv
    exact ⟨[], ⟨none, 0, rfl, by simp, .inl rfl⟩, by simp⟩
  · cases hv
    have hlm : len ≤ m := by rw [hmm]; split <;> omega
    rw [cells_act6] at hi
    have : Inhabited Act6 := ⟨⟨0, 0, 0, ByteArray.empty⟩⟩
    obtain ⟨g, hg⟩ := choose_lt (n := len) (p := fun i (z : Act6) => W.cells? base (a.add (i * 4)) 4 = some [.int .i64 z.K, .int .i64 z.I, .int .u8 (z.kd.toNat : Int), .string z.S] ∧
        ((-9223372036854775808 ≤ z.K ∧ z.K ≤ 9223372036854775807) ∧ (-9223372036854775808 ≤ z.I ∧ z.I ≤ 9223372036854775807) ∧ z.S.size ≤ 9223372036854775807)) (fun i hi' => by
      obtain ⟨cs', h1, h2⟩ := hi i (by omega)
      obtain ⟨z, rfl, e2⟩ := act6_of h2
      exact ⟨z, h1, e2⟩)
    have hll : ((List.range len).map g).length = len := by simp
    refine ⟨(List.range len).map g, ⟨some a, cap, by rw [hll], by unfold maxLen at hm; omega, ?_⟩, ?_⟩
    · rcases Nat.eq_zero_or_pos len with h0 | h0
      · exact .inl (by rw [hll]; exact h0)
      · right
        obtain ⟨c0, _⟩ := hg 0 h0
        obtain ⟨_, _, c0⟩ := World.cells?_some c0
        have c00 := c0 0 (by omega)
        have hsp : a.spot = none := by
          cases hs : a.spot with
          | none => rfl
          | some k => simp [Addr.add, World.cell?, hs] at c00; split at c00 <;> simp_all
        obtain ⟨b, off, spot⟩ := a
        simp only at hsp
        subst hsp
        refine ⟨b, off, rfl, fun w hw i hi' => ?_⟩
        have hil : i < len := by rw [hll] at hi'; exact hi'
        obtain ⟨ci, _⟩ := hg i hil
        obtain ⟨_, _, ci⟩ := World.cells?_some ci
        have hx : ((List.range len).map g)[i] = g i := by simp
        rw [hx]
        have ea : ∀ j, ((⟨b, off, none⟩ : Addr).add (i * 4)).add j = ⟨b, off + i * 4 + j, none⟩ := by
          intro j
          unfold Addr.add
          split <;> split <;> simp_all <;> omega
        have q0 := ci 0 (by omega)
        have q1 := ci 1 (by omega)
        have q2 := ci 2 (by omega)
        have q3 := ci 3 (by omega)
        rw [ea] at q0 q1 q2 q3
        exact ⟨whole_cell hw q0, whole_cell hw q1, whole_cell hw q2, whole_cell hw q3⟩
    · intro z hz
      obtain ⟨i, hi', rfl⟩ := List.mem_map.1 hz
      exact (hg i (List.mem_range.1 hi')).2
end
end Go.Proofs.YtpccdadobnhpkaaDoor
