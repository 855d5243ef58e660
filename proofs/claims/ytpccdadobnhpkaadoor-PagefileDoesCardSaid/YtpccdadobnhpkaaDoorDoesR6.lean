/-
  The statement PagefileDoes is proved, with its tied card: whatever is done, in whatever order, on a disk whose power may go: each call answers just as the document says. For every input; the listed variable crc.halves holds what the program's text lays.
-/
import Derived.Test.YtpccdadobnhpkaaDoorLawK
import Derived.Test.YtpccdadobnhpkaaDoorA6
import Derived.Test.YtpccdadobnhpkaaDoorD6
import Derived.Test.YtpccdadobnhpkaaDoorCards
import Derived.Test.YtpccdadobnhpkaaDoorTie
import Derived.Test.YtpccdadobnhpkaaDoorLawK3
import Derived.SevenTiedAt
import Derived.Lay
import Derived.ChangeMaps5
namespace Go.Proofs.YtpccdadobnhpkaaDoor
open Go.ChangeShapes Go.WideShapes Go.ChangeAt Go.RowKit Go.Deep Go.Joins
set_option linter.unusedSimpArgs false
set_option linter.unusedVariables false

theorem wf_i64 {x : Int} (h : (Lit.int .i64 x).wf = true) : -9223372036854775808 ≤ x ∧ x ≤ 9223372036854775807 := by
  simpa [Lit.wf, IntKind.min, IntKind.max, IntKind.signed, IntKind.bits] using h
theorem u8_of {x : Int} (h : (Lit.int .u8 x).wf = true) : ∃ k : UInt8, x = (k.toNat : Int) := by
  have h' : 0 ≤ x ∧ x ≤ 255 := by simpa [Lit.wf, IntKind.min, IntKind.max, IntKind.signed, IntKind.bits] using h
  refine ⟨UInt8.ofNat x.toNat, ?_⟩
  rw [UInt8.toNat_ofNat', Nat.mod_eq_of_lt (by omega)]
  omega
end Go.Proofs.YtpccdadobnhpkaaDoor
namespace Go.Proofs.YtpccdadobnhpkaaDoor
open Go.ChangeShapes Go.WideShapes Go.ChangeAt Go.RowKit Go.Deep Go.Joins
set_option linter.unusedSimpArgs false
set_option linter.unusedVariables false

section
variable {H : Type} {enc : TypeId × Value → H} {W : World}
theorem cells_act6 : Tryd.prog.cellsOf 34 = 4 := by kernel_rfl

set_option maxRecDepth 100000 in
theorem act6_of {base : Nat} {sp : Nat → Bool} {held : Bool} {fuel : Nat} {cs : List Value} {x : DataW H × List MemPlace}
    (h : DataW.trod enc Tryd.prog W base sp held fuel 34 cs = some x) :
    ∃ a : Act6, cs = [.int .i64 a.K, .int .i64 a.I, .int .u8 (a.kd.toNat : Int), .string a.S] ∧
      ((-9223372036854775808 ≤ a.K ∧ a.K ≤ 9223372036854775807) ∧ (-9223372036854775808 ≤ a.I ∧ a.I ≤ 9223372036854775807) ∧ a.S.size ≤ 9223372036854775807) := by
  obtain ⟨xs, n, _, _, hlen, hxl, hf⟩ := DataW.trod_struct Tryd.underlying34 h
  rw [cells_act6] at hlen
  have k1 : Tryd.prog.cellsOf 3 = 1 := by kernel_rfl
  have k2 : Tryd.prog.cellsOf 32 = 1 := by kernel_rfl
  have k3 : Tryd.prog.cellsOf 9 = 1 := by kernel_rfl
  match cs, hlen with
  | [c0, c1, c2, c3], _ =>
    have g0 : DataW.trod enc Tryd.prog W base sp held n 3 (([c0, c1, c2, c3].drop 0).take (Tryd.prog.cellsOf 3)) = xs[0]? := hf 0 _ rfl
    have g1 : DataW.trod enc Tryd.prog W base sp held n 3 (([c0, c1, c2, c3].drop 1).take (Tryd.prog.cellsOf 3)) = xs[1]? := hf 1 _ rfl
    have g2 : DataW.trod enc Tryd.prog W base sp held n 32 (([c0, c1, c2, c3].drop 2).take (Tryd.prog.cellsOf 32)) = xs[2]? := hf 2 _ rfl
    have g3 : DataW.trod enc Tryd.prog W base sp held n 9 (([c0, c1, c2, c3].drop 3).take (Tryd.prog.cellsOf 9)) = xs[3]? := hf 3 _ rfl
    rw [k1] at g0 g1
    rw [k2] at g2
    rw [k3] at g3
    have hx : xs.length = 4 := hxl
    match xs, hx with
    | [x0, x1, x2, x3], _ =>
      simp only [List.drop_zero, List.drop_succ_cons, List.take_succ_cons, List.take_zero, List.getElem?_cons_zero, List.getElem?_cons_succ] at g0 g1 g2 g3
      obtain ⟨z0, e0, _, b0⟩ := DataW.trod_int Tryd.underlying3 g0
      obtain ⟨z1, e1, _, b1⟩ := DataW.trod_int Tryd.underlying3 g1
      obtain ⟨z2, e2, _, b2⟩ := DataW.trod_int Tryd.underlying32 g2
      obtain ⟨z3, e3, _, b3⟩ := DataW.trod_string Tryd.underlying9 g3
      simp only [List.cons.injEq, and_true] at e0 e1 e2 e3
      subst e0 e1 e2 e3
      have hu : 0 ≤ z2 ∧ z2 ≤ 255 := by simpa [Lit.wf, IntKind.min, IntKind.max, IntKind.signed, IntKind.bits] using b2
      have e : ((UInt8.ofNat z2.toNat).toNat : Int) = z2 := by simp; omega
      have k0 := wf_i64 b0
      have k1 := wf_i64 b1
      refine ⟨⟨z0, z1, UInt8.ofNat z2.toNat, z3⟩, ?_, k0, k1, b3⟩
      show [Value.int .i64 z0, .int .i64 z1, .int .u8 z2, .string z3] = [.int .i64 z0, .int .i64 z1, .int .u8 ((UInt8.ofNat z2.toNat).toNat : Int), .string z3]
      rw [e]

set_option maxRecDepth 100000 in
/-- A row of acts that came in. -/
theorem acts6_of {base : Nat} {sp : Nat → Bool} {held : Bool} {fuel : Nat} {v : Value} {x : DataW H × List MemPlace}
    (h : DataW.trod enc Tryd.prog W base sp held fuel 22 [v] = some x) : ∃ l, ReadsA (whole W) v l := by
  rcases open_slice Tryd.underlying22 h with ⟨hv, _⟩ | ⟨a, len, cap, m, n, D, Pl, hv, _, hl, hm, hmm, _, hi⟩
  · cases hv
    exact ⟨[], ⟨none, 0, rfl, by simp, .inl rfl⟩, by simp⟩
  · cases hv
    have hlm : len ≤ m := by rw [hmm]; split <;> omega
    rw [cells_act6] at hi
    have : Inhabited Act6 := ⟨⟨0, 0, 0, ByteArray.empty⟩⟩
    obtain ⟨g, hg⟩ := choose_lt (n := len) (p := fun i (z : Act6) => W.cells? base (a.add (i * 4)) 4 = some [.int .i64 z.K, .int .i64 z.I, .int .u8 (z.kd.toNat : Int), .string z.S] ∧
        ((-9223372036854775808 ≤ z.K ∧ z.K ≤ 9223372036854775807) ∧ (-9223372036854775808 ≤ z.I ∧ z.I ≤ 9223372036854775807) ∧ z.S.size ≤ 9223372036854775807)) (fun i hi' => by
      obtain ⟨cs', h1, h2⟩ := hi i (by omega)
      obtain ⟨z, rfl, e2⟩ := act6_of h2
      exact ⟨z, h1, e2⟩)
    have hll : ((List.range len).map g).length = len := by simp
    refine ⟨(List.range len).map g, ⟨some a, cap, by rw [hll], by unfold maxLen at hm; omega, ?_⟩, ?_⟩
    · rcases Nat.eq_zero_or_pos len with h0 | h0
      · exact .inl (by rw [hll]; exact h0)
      · right
        obtain ⟨c0, _⟩ := hg 0 h0
        obtain ⟨_, _, c0⟩ := World.cells?_some c0
        have c00 := c0 0 (by omega)
        have hsp : a.spot = none := by
          cases hs : a.spot with
          | none => rfl
          | some k => simp [Addr.add, World.cell?, hs] at c00; split at c00 <;> simp_all
        obtain ⟨b, off, spot⟩ := a
        simp only at hsp
        subst hsp
        refine ⟨b, off, rfl, fun w hw i hi' => ?_⟩
        have hil : i < len := by rw [hll] at hi'; exact hi'
        obtain ⟨ci, _⟩ := hg i hil
        obtain ⟨_, _, ci⟩ := World.cells?_some ci
        have hx : ((List.range len).map g)[i] = g i := by simp
        rw [hx]
        have ea : ∀ j, ((⟨b, off, none⟩ : Addr).add (i * 4)).add j = ⟨b, off + i * 4 + j, none⟩ := by
          intro j
          unfold Addr.add
          split <;> split <;> simp_all <;> omega
        have q0 := ci 0 (by omega)
        have q1 := ci 1 (by omega)
        have q2 := ci 2 (by omega)
        have q3 := ci 3 (by omega)
        rw [ea] at q0 q1 q2 q3
        exact ⟨whole_cell hw q0, whole_cell hw q1, whole_cell hw q2, whole_cell hw q3⟩
    · intro z hz
      obtain ⟨i, hi', rfl⟩ := List.mem_map.1 hz
      exact (hg i (List.mem_range.1 hi')).2
end
end Go.Proofs.YtpccdadobnhpkaaDoor
namespace Go.Proofs.YtpccdadobnhpkaaDoor
open Go.ChangeShapes Go.WideShapes Go.ChangeAt Go.RowKit Go.Deep
set_option linter.unusedSimpArgs false
set_option linter.unusedVariables false

set_option maxRecDepth 100000 in
theorem pagefileDoes_lifted (os : Os) (started : os.Started) (H : Type) (enc : TypeId × Value → H) :
    ReturnsInHanded {} Tryd.checked os 6 .any (fun w args => (Rows.pagefileDoesSpec.pre enc Tryd.prog Tryd.f6 [] false w args ∧ laidMetH Tryd.prog laid3 w) ∧ sizedMet enc Tryd.prog Tryd.f6 (OpenSpec.ofChange Rows.pagefileDoesSpec) false w args) (Rows.pagefileDoesSpec.post enc Tryd.prog Tryd.f6 false true false false) := by
  refine returnsInHanded_of_change_and (C := Tryd.checked) (X := fun w _ => laidMetH Tryd.prog laid3 w) (fun _ _ _ hh h => h.of_heap hh) own started (by kernel_rfl) Tryd.func6
    (ChangeSpec.witness_shaped (enc := enc) (C := Tryd.checked) (os := os) (X := fun w _ => laidMetH Tryd.prog laid3 w) false (World.laidAll Tryd.prog os laid3) #[.int .i64 0, .slice none 0 0] 8 rfl (World.shaped_of_ZipB (by kernel_rfl) (by kernel_rfl)) (by kernel_rfl) (by kernel_rfl) (by kernel_rfl) (by rw [MakeChecks.laidMetH_plain _ _ _ (by kernel_rfl)]; exact laidMet_laidAll _ (by kernel_rfl) (by kernel_rfl))) ?_
  intro W base args ds gs before hval0 hW _ _ hL _
  have hval : ∀ (j : Nat) t v, Tryd.f6.params[j]? = some t → args[j]? = some v → Value.okWide Tryd.prog W .any base t v := hval0
  have hW' := hW
  obtain ⟨p, q, hA0, hV, rfl, hfz, hnd⟩ := hW
  have hA : DataW.TrodAll enc Tryd.prog W 0 (fun _ => true) true Tryd.f6.params.toList args.toList ds p := hA0
  rw [Tryd.params6] at hA hval
  obtain ⟨v0, vs0, d0, ds0, p0, q0, hargs, rfl, rfl, h0, r0⟩ := trodAll_cons hA
  obtain ⟨v1, vs1, d1, ds1, p1, q1, rfl, rfl, rfl, h1, r1⟩ := trodAll_cons r0
  obtain ⟨rfl, rfl, rfl⟩ := trodAll_nil r1
  obtain rfl : args = #[v0, v1] := by cases args; simp_all
  obtain ⟨rfl, rfl⟩ := trodVars_none hV
  obtain ⟨x0, rfl, rfl, rfl, wf0⟩ := open_int Tryd.underlying3 (hval 0 3 v0 rfl rfl) h0
  have m0 := wf_i64 wf0
  obtain ⟨a1, n1, c1, rfl⟩ := okWide_slice Tryd.underlying22 (hval 1 22 v1 rfl rfl)
  obtain ⟨fuel1, g1⟩ := h1
  obtain ⟨x1, m1⟩ := acts6_of g1
  clear hA0 hval0
  refine (does_walk (R := fun e w' => e = .returned (.bool true) ∧ Below W.heap.size W w') (of_laid3 hL) x0 m0.1 m0.2 m1 (Sat.all W) fun w' H1 I1 => ⟨rfl, I1.below H1⟩).mono fun e W' ⟨he, hb⟩ => ?_
  subst he
  exact ⟨_, rfl, law_post laidOut Tryd.underlying4 rfl rfl (by kernel_rfl) hW' hb rfl rfl rfl⟩

theorem pagefileDoes_holds : Rows.PagefileDoesSaid :=
  OpenClaim.holds_of_wide 6 Tryd.f6 rfl rfl rfl rfl rfl rfl rfl ⟨rfl, rfl, rfl, rfl, rfl⟩ rfl rfl rfl rfl rfl (by kernel_rfl) Tryd.func6 (by kernel_rfl)
    (of_decide_eq_true (by kernel_rfl)) (by unfold Func.isWrapper; first | (rw [if_pos (by decide +kernel)]; kernel_rfl) | (rw [if_neg (by decide +kernel)]; exact ⟨rfl, rfl⟩))
    (fun os started H enc _ => pagefileDoes_lifted os started H enc)

theorem pagefileDoes_card : Rows.PagefileDoesCardSaid :=
  Claim7.holds_tied_plain_at .later [] [.data, .data, .pinned] true (true, "b50ba1fb875069ac92f235f14ad218e551d388f911a2cc929a583b8c210e9379") false
    pagefileDoes_holds (fun _ h => by cases h) (by kernel_rfl) (fun _ h => by cases h) pagefileDoes_row_tie rfl ⟨rfl, rfl⟩ (by kernel_rfl) rfl
    (fun f fn hf hfn => by
      obtain rfl : f = 6 := Option.some.inj ((show Tryd.prog.funcNamed "rootstock/rootstocklaw06.PagefileDoes" = some 6 by kernel_rfl).symm.trans hf) |>.symm
      obtain rfl : fn = Tryd.f6 := (Option.some.inj (Tryd.func6.symm.trans hfn)).symm
      exact ⟨by kernel_rfl, fun j t ht => by
        rw [Tryd.params6] at ht
        have hm : t ∈ [3, 22] := by simpa using Array.mem_of_getElem? ht
        have hall : ([3, 22].all fun u => !Tryd.prog.wantsStandIn u) = true := by kernel_rfl
        exact (show Tryd.prog.wantsStandIn t = false by simpa using List.all_eq_true.1 hall t hm)⟩)
    (by kernel_rfl)

#print axioms pagefileDoes_card
end Go.Proofs.YtpccdadobnhpkaaDoor
