/-
  How the arguments of the statements of this seat read, and how a walk that ends in true closes a row. It proves no statement by itself.
-/
import Derived.Test.YtnkekdeicgmelaaLight
import Derived.ProofKit
import Derived.Deep.Slices
namespace Go.Proofs.Ytnkekdeicgmelaa
open Go.ChangeShapes Go.WideShapes Go.ChangeAt Go.RowKit Go.Deep
set_option linter.unusedSimpArgs false
set_option linter.unusedVariables false

theorem own : ownKnob Try.prog.godebug = none := by kernel_rfl
theorem laidOut : laidOutB Try.prog = true := by kernel_rfl

section
variable {H : Type} {enc : TypeId × Value → H} {P : Program} {W : World}

/-- A cell of the heap that was there reads as it did, wherever W's heap is still held. -/
theorem whole_cell {w : World} (h : Sat (whole W) w) {a : Addr} {v : Value} (hc : W.cell? a = some v) : w.cell? a = some v := by
  have hlt := World.block_lt_of_cell? W a hc
  rw [World.cell?_of_block (w := W) (h.was a.block hlt)]
  exact hc

/-- The arguments read behind the call as they did. -/
theorem trodAll_below (hl : laidOutB P = true) {W' : World} (hb : Below W.heap.size W W') : ∀ (ts : List TypeId) (vs : List Value) (ds : List (DataW H)) (p : List MemPlace),
    ts.all (fun t => P.readableRec t && decide (t < P.types.size)) = true → DataW.TrodAll enc P W 0 (fun _ => true) true ts vs ds p → (∀ x ∈ p, x.block < W.heap.size) →
    DataW.TrodAll enc P W' 0 (fun b => decide (b < W.heap.size)) true ts vs ds p
  | [], [], [], p, _, h, _ => h
  | t :: ts, v :: vs, d :: ds, p, hr, h, hlt => by
    obtain ⟨p1, q1, h1, h2, rfl⟩ := h
    simp only [List.all_cons, Bool.and_eq_true, decide_eq_true_eq] at hr
    exact ⟨p1, q1, Below.trod hl hr.1.1 hr.1.2 h1 hb (fun x hx => hlt x (List.mem_append_left _ hx)), trodAll_below hl hb ts vs ds q1 hr.2 h2 (fun x hx => hlt x (List.mem_append_right _ hx)), rfl⟩
  | [], [], _ :: _, _, _, h, _ => absurd h (by simp [DataW.TrodAll])
  | [], _ :: _, _, _, _, h, _ => absurd h (by simp [DataW.TrodAll])
  | _ :: _, [], _, _, _, h, _ => absurd h (by simp [DataW.TrodAll])
  | _ :: _, _ :: _, [], _, _, h, _ => absurd h (by simp [DataW.TrodAll])

/-- A law's row behind a walk that has answered true and turned nothing that was there. -/
theorem law_post {f : Func} {s : ChangeSpec} {tb : TypeId} {W' : World} {args : Array Value} {ds gs : List (DataW H)} {before : List MemPlace} (hl : laidOutB P = true) (htb : P.underlying tb = some .bool)
    (hrt : f.resultTypes = #[tb]) (hvs : s.vars = []) (hread : f.params.toList.all (fun t => P.readableRec t && decide (t < P.types.size)) = true)
    (hW : DataW.Whole enc P f.params.toList s.vars false W args.toList ds gs before) (hb : Below W.heap.size W W')
    (hsr : (s.fn H (ds ++ gs)).results = [.lit (.bool true)]) (hsa : (s.fn H (ds ++ gs)).args = ds) (hsv : (s.fn H (ds ++ gs)).vars = []) :
    s.post enc P f false true false false W args (.bool true) W' := by
  have hW0 := hW
  obtain ⟨p, q, hA, hV, rfl, hfz, hnd⟩ := hW
  have hlt : ∀ x ∈ p, x.block < W.heap.size := fun x hx => hW0.lt x (List.mem_append_left _ hx)
  refine ⟨ds, gs, p ++ q, [], p, [], hW0, ?_, ?_, ?_, hb.frame _, fun h => by cases h⟩
  · rw [hrt, hsr]
    exact trodAll_mk1 (shut_bool htb true)
  · rw [hsa]
    exact trodAll_below hl hb _ _ _ _ hread hA hlt
  · rw [hvs, hsv]
    rfl

theorem take_one {l : List Value} {n j : Nat} (hl : l.length = n) (hj : j < n) : (l.drop j).take 1 = [l[j]'(by omega)] := by
  rw [List.drop_eq_getElem_cons (by omega)]
  rfl

/-- A row of whole numbers that came in. -/
theorem ints_of {base : Nat} {sp : Nat → Bool} {held : Bool} {t e : TypeId} {fuel : Nat} {v : Value} {x : DataW H × List MemPlace} (ht : P.underlying t = some (.slice e)) (he : P.underlying e = some (.int .i64)) (hc : P.cellsOf e = 1)
    (h : DataW.trod enc P W base sp held fuel t [v] = some x) : ∃ zs, ReadsInts (whole W) v zs := by
  rcases open_slice1 ht hc h with ⟨hv, _⟩ | ⟨a, len, cap, m, n, V, D, Pl, hv, _, hl, hm, hmm, _, hi⟩
  · cases hv
    exact ⟨[], ReadsInts.nil _⟩
  · cases hv
    have hlm : len ≤ m := by rw [hmm]; split <;> omega
    obtain ⟨g, hg⟩ := choose_lt (n := len) (p := fun i (z : Int) => V i = .int .i64 z) (fun i hi' => by
      obtain ⟨_, h2⟩ := hi i (by omega)
      obtain ⟨z, e1, _, _⟩ := DataW.trod_int he h2
      simp at e1
      exact ⟨z, e1⟩)
    refine ⟨(List.range len).map g, _, len, cap, rfl, by simp, by unfold maxLen at hm; omega, ?_⟩
    rcases Nat.eq_zero_or_pos len with h0 | h0
    · exact .inl h0
    · right
      obtain ⟨c0, _⟩ := hi 0 (by omega)
      have hsp : a.spot = none := by
        cases hs : a.spot with
        | none => rfl
        | some k => simp [Addr.add, World.cell?, hs] at c0; split at c0 <;> simp_all
      obtain ⟨b, off, spot⟩ := a
      simp only at hsp
      subst hsp
      refine ⟨b, off, rfl, fun w hw j hj => ?_⟩
      obtain ⟨cj, _⟩ := hi j (by omega)
      have e0 : (⟨b, off, none⟩ : Addr).add j = ⟨b, off + j, none⟩ := by unfold Addr.add; split <;> simp_all
      rw [e0] at cj
      rw [whole_cell hw cj, hg j hj]
      simp [List.getD, hj]
end

theorem Try.cells3 : Try.prog.cellsOf 3 = 1 := by kernel_rfl
theorem Try.cells5 : Try.prog.cellsOf 5 = 1 := by kernel_rfl
theorem Try.cells23 : Try.prog.cellsOf 23 = 1 := by kernel_rfl
theorem Try.cells31 : Try.prog.cellsOf 31 = 6 := by kernel_rfl

section
variable {H : Type} {enc : TypeId × Value → H} {W : World}

/-- One act out of its cells. -/
theorem act_of {base : Nat} {sp : Nat → Bool} {held : Bool} {fuel : Nat} {cs : List Value} {x : DataW H × List MemPlace}
    (h : DataW.trod enc Try.prog W base sp held fuel 31 cs = some x) :
    ∃ a : Act4, cs = [.int .i64 a.K, .int .i64 a.I, .int .u8 (a.B.toNat : Int), a.kv, .int .i64 a.T, .int .i64 a.C] ∧ ReadsInts (whole W) a.kv a.keep ∧
      (-9223372036854775808 ≤ a.K ∧ a.K ≤ 9223372036854775807) ∧ (-9223372036854775808 ≤ a.I ∧ a.I ≤ 9223372036854775807) := by
  obtain ⟨xs, n, _, _, hlen, hxl, hf⟩ := DataW.trod_struct Try.underlying31 h
  rw [Try.cells31] at hlen
  match cs, hlen with
  | [c0, c1, c2, c3, c4, c5], _ =>
    have g0 : DataW.trod enc Try.prog W base sp held n 3 (([c0, c1, c2, c3, c4, c5].drop 0).take (Try.prog.cellsOf 3)) = xs[0]? := hf 0 _ rfl
    have g1 : DataW.trod enc Try.prog W base sp held n 3 (([c0, c1, c2, c3, c4, c5].drop 1).take (Try.prog.cellsOf 3)) = xs[1]? := hf 1 _ rfl
    have g2 : DataW.trod enc Try.prog W base sp held n 5 (([c0, c1, c2, c3, c4, c5].drop 2).take (Try.prog.cellsOf 5)) = xs[2]? := hf 2 _ rfl
    have g3 : DataW.trod enc Try.prog W base sp held n 23 (([c0, c1, c2, c3, c4, c5].drop 3).take (Try.prog.cellsOf 23)) = xs[3]? := hf 3 _ rfl
    have g4 : DataW.trod enc Try.prog W base sp held n 3 (([c0, c1, c2, c3, c4, c5].drop 4).take (Try.prog.cellsOf 3)) = xs[4]? := hf 4 _ rfl
    have g5 : DataW.trod enc Try.prog W base sp held n 3 (([c0, c1, c2, c3, c4, c5].drop 5).take (Try.prog.cellsOf 3)) = xs[5]? := hf 5 _ rfl
    rw [Try.cells3] at g0 g1 g4 g5
    rw [Try.cells5] at g2
    rw [Try.cells23] at g3
    have hx : xs.length = 6 := hxl
    match xs, hx with
    | [x0, x1, x2, x3, x4, x5], _ =>
      simp only [List.drop_zero, List.drop_succ_cons, List.take_succ_cons, List.take_zero, List.getElem?_cons_zero, List.getElem?_cons_succ] at g0 g1 g2 g3 g4 g5
      obtain ⟨z0, e0, _, b0⟩ := DataW.trod_int Try.underlying3 g0
      obtain ⟨z1, e1, _, b1⟩ := DataW.trod_int Try.underlying3 g1
      obtain ⟨z2, e2, _, b2⟩ := DataW.trod_int Try.underlying5 g2
      obtain ⟨z4, e4, _, b4⟩ := DataW.trod_int Try.underlying3 g4
      obtain ⟨z5, e5, _, b5⟩ := DataW.trod_int Try.underlying3 g5
      obtain ⟨zs, hzs⟩ := ints_of Try.underlying23 Try.underlying3 Try.cells3 g3
      simp only [List.cons.injEq, and_true] at e0 e1 e2 e4 e5
      subst e0 e1 e2 e4 e5
      have hu : 0 ≤ z2 ∧ z2 ≤ 255 := by simpa [Lit.wf, IntKind.min, IntKind.max, IntKind.signed, IntKind.bits] using b2
      have hk : -9223372036854775808 ≤ z0 ∧ z0 ≤ 9223372036854775807 := by simpa [Lit.wf, IntKind.min, IntKind.max, IntKind.signed, IntKind.bits] using b0
      have hi : -9223372036854775808 ≤ z1 ∧ z1 ≤ 9223372036854775807 := by simpa [Lit.wf, IntKind.min, IntKind.max, IntKind.signed, IntKind.bits] using b1
      refine ⟨⟨z0, z1, UInt8.ofNat z2.toNat, c3, zs, z4, z5⟩, ?_, hzs, hk, hi⟩
      have e : ((UInt8.ofNat z2.toNat).toNat : Int) = z2 := by simp; omega
      show [Value.int .i64 z0, .int .i64 z1, .int .u8 z2, c3, .int .i64 z4, .int .i64 z5] = [.int .i64 z0, .int .i64 z1, .int .u8 ((UInt8.ofNat z2.toNat).toNat : Int), c3, .int .i64 z4, .int .i64 z5]
      rw [e]

/-- A row of acts that came in. -/
theorem acts_of {base : Nat} {sp : Nat → Bool} {held : Bool} {fuel : Nat} {v : Value} {x : DataW H × List MemPlace}
    (h : DataW.trod enc Try.prog W base sp held fuel 22 [v] = some x) : ∃ l, ReadsActs (whole W) v l := by
  rcases open_slice Try.underlying22 h with ⟨hv, _⟩ | ⟨a, len, cap, m, n, D, Pl, hv, _, hl, hm, hmm, _, hi⟩
  · cases hv
    exact ⟨[], ⟨none, 0, rfl, by simp, .inl rfl⟩, by simp, by simp⟩
  · cases hv
    have hlm : len ≤ m := by rw [hmm]; split <;> omega
    rw [Try.cells31] at hi
    have : Inhabited Act4 := ⟨⟨0, 0, 0, .bool false, [], 0, 0⟩⟩
    obtain ⟨g, hg⟩ := choose_lt (n := len) (p := fun i (z : Act4) => W.cells? base (a.add (i * 6)) 6 = some [.int .i64 z.K, .int .i64 z.I, .int .u8 (z.B.toNat : Int), z.kv, .int .i64 z.T, .int .i64 z.C] ∧ ReadsInts (whole W) z.kv z.keep ∧
        (-9223372036854775808 ≤ z.K ∧ z.K ≤ 9223372036854775807) ∧ (-9223372036854775808 ≤ z.I ∧ z.I ≤ 9223372036854775807)) (fun i hi' => by
      obtain ⟨cs', h1, h2⟩ := hi i (by omega)
      obtain ⟨z, rfl, e2, e3, e4⟩ := act_of h2
      exact ⟨z, h1, e2, e3, e4⟩)
    have hll : ((List.range len).map g).length = len := by simp
    refine ⟨(List.range len).map g, ⟨some a, cap, by rw [hll], by unfold maxLen at hm; omega, ?_⟩, ?_, ?_⟩
    · rcases Nat.eq_zero_or_pos len with h0 | h0
      · exact .inl (by rw [hll]; exact h0)
      · right
        obtain ⟨c0, _⟩ := hg 0 h0
        obtain ⟨_, _, c0⟩ := World.cells?_some c0
        have c00 := c0 0 (by omega)
        have hsp : a.spot = none := by
          cases hs : a.spot with
          | none => rfl
          | some k => simp [Addr.add, World.cell?, hs] at c00; split at c00 <;> simp_all
        obtain ⟨b, off, spot⟩ := a
        simp only at hsp
        subst hsp
        refine ⟨b, off, rfl, fun w hw i hi' => ?_⟩
        have hil : i < len := by rw [hll] at hi'; exact hi'
        obtain ⟨ci, _⟩ := hg i hil
        obtain ⟨_, _, ci⟩ := World.cells?_some ci
        have hx : ((List.range len).map g)[i] = g i := by simp
        rw [hx]
        have ea : ∀ j, ((⟨b, off, none⟩ : Addr).add (i * 6)).add j = ⟨b, off + i * 6 + j, none⟩ := by
          intro j
          unfold Addr.add
          split <;> split <;> simp_all <;> omega
        have q0 := ci 0 (by omega)
        have q1 := ci 1 (by omega)
        have q2 := ci 2 (by omega)
        have q3 := ci 3 (by omega)
        have q4 := ci 4 (by omega)
        have q5 := ci 5 (by omega)
        rw [ea] at q0 q1 q2 q3 q4 q5
        exact ⟨whole_cell hw q0, whole_cell hw q1, whole_cell hw q2, whole_cell hw q3, whole_cell hw q4, whole_cell hw q5⟩
    · intro z hz
      obtain ⟨i, hi', rfl⟩ := List.mem_map.1 hz
      exact (hg i (List.mem_range.1 hi')).2.1
    · intro z hz
      obtain ⟨i, hi', rfl⟩ := List.mem_map.1 hz
      exact ⟨(hg i (List.mem_range.1 hi')).2.2.1, (hg i (List.mem_range.1 hi')).2.2.2⟩
end
end Go.Proofs.Ytnkekdeicgmelaa
