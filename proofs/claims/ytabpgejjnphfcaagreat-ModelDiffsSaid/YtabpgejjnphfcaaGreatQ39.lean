/-
  How the arguments of the statements of this seat read, and how a walk that ends in true closes a row. It proves no statement by itself.
-/
import Derived.Test.YtabpgejjnphfcaaGreatQ04
import Derived.Test.YtabpgejjnphfcaaGreatRows
import Derived.ProofKit
import Derived.Deep.Slices
import Derived.OpenShut
import Derived.Lib.SmallJoins
namespace Go.Proofs.YtabpgejjnphfcaaGreat
open Go.ChangeShapes Go.WideShapes Go.ChangeAt Go.RowKit Go.Deep Go.Joins
set_option linter.unusedSimpArgs false
set_option linter.unusedVariables false

theorem own : ownKnob Tryz.prog.godebug = none := by kernel_rfl
theorem laidOut : laidOutB Tryz.prog = true := by kernel_rfl

section
variable {H : Type} {enc : TypeId × Value → H} {P : Program} {W : World}

/-- A cell of the heap that was there reads as it did, wherever W's heap is still held. -/
theorem whole_cell {w : World} (h : Sat (whole W) w) {a : Addr} {v : Value} (hc : W.cell? a = some v) : w.cell? a = some v := by
  have hlt := World.block_lt_of_cell? W a hc
  rw [World.cell?_of_block (w := W) (h.was a.block hlt)]
  exact hc

/-- The arguments read behind the call as they did. -/
theorem trodAll_below (hl : laidOutB P = true) {W' : World} (hb : Below W.heap.size W W') : ∀ (ts : List TypeId) (vs : List Value) (ds : List (DataW H)) (p : List MemPlace),
    ts.all (fun t => P.readableRec t && decide (t < P.types.size)) = true → DataW.TrodAll enc P W 0 (fun _ => true) true ts vs ds p → (∀ x ∈ p, x.block < W.heap.size) →
    DataW.TrodAll enc P W' 0 (fun b => decide (b < W.heap.size)) true ts vs ds p
  | [], [], [], p, _, h, _ => h
  | t :: ts, v :: vs, d :: ds, p, hr, h, hlt => by
    obtain ⟨p1, q1, h1, h2, rfl⟩ := h
    simp only [List.all_cons, Bool.and_eq_true, decide_eq_true_eq] at hr
    exact ⟨p1, q1, Below.trod hl hr.1.1 hr.1.2 h1 hb (fun x hx => hlt x (List.mem_append_left _ hx)), trodAll_below hl hb ts vs ds q1 hr.2 h2 (fun x hx => hlt x (List.mem_append_right _ hx)), rfl⟩
  | [], [], _ :: _, _, _, h, _ => absurd h (by simp [DataW.TrodAll])
  | [], _ :: _, _, _, _, h, _ => absurd h (by simp [DataW.TrodAll])
  | _ :: _, [], _, _, _, h, _ => absurd h (by simp [DataW.TrodAll])
  | _ :: _, _ :: _, [], _, _, h, _ => absurd h (by simp [DataW.TrodAll])

/-- A law's row behind a walk that has answered true and turned nothing that was there. -/
theorem law_post {f : Func} {s : ChangeSpec} {tb : TypeId} {W' : World} {args : Array Value} {ds gs : List (DataW H)} {before : List MemPlace} (hl : laidOutB P = true) (htb : P.underlying tb = some .bool)
    (hrt : f.resultTypes = #[tb]) (hvs : s.vars = []) (hread : f.params.toList.all (fun t => P.readableRec t && decide (t < P.types.size)) = true)
    (hW : DataW.Whole enc P f.params.toList s.vars false W args.toList ds gs before) (hb : Below W.heap.size W W')
    (hsr : (s.fn H (ds ++ gs)).results = [.lit (.bool true)]) (hsa : (s.fn H (ds ++ gs)).args = ds) (hsv : (s.fn H (ds ++ gs)).vars = []) :
    s.post enc P f false true false false W args (.bool true) W' := by
  have hW0 := hW
  obtain ⟨p, q, hA, hV, rfl, hfz, hnd⟩ := hW
  have hlt : ∀ x ∈ p, x.block < W.heap.size := fun x hx => hW0.lt x (List.mem_append_left _ hx)
  refine ⟨ds, gs, p ++ q, [], p, [], hW0, ?_, ?_, ?_, hb.frame _, fun h => by cases h⟩
  · rw [hrt, hsr]
    exact trodAll_mk1 (shut_bool htb true)
  · rw [hsa]
    exact trodAll_below hl hb _ _ _ _ hread hA hlt
  · rw [hvs, hsv]
    rfl

theorem take_one {l : List Value} {n j : Nat} (hl : l.length = n) (hj : j < n) : (l.drop j).take 1 = [l[j]'(by omega)] := by
  rw [List.drop_eq_getElem_cons (by omega)]
  rfl

/-- A row of records that came in: an element's cells are a record's. -/
theorem reads_of {α : Type} [Inhabited α] {rc : α → List Value} {sz : Nat} (he : Enc rc sz) (B : α → Prop) {base : Nat} {sp : Nat → Bool} {held : Bool} {t e : TypeId} {fuel : Nat} {v : Value} {x : DataW H × List MemPlace} (ht : P.underlying t = some (.slice e)) (hc : P.cellsOf e = sz) (h0 : 0 < sz)
    (dec : ∀ n cs' x', DataW.trod enc P W base sp held n e cs' = some x' → ∃ z, cs' = rc z ∧ B z)
    (h : DataW.trod enc P W base sp held fuel t [v] = some x) : ∃ l, Reads rc (whole W) v l ∧ ∀ z ∈ l, B z := by
  rcases open_slice ht h with ⟨hv, _⟩ | ⟨a, len, cap, m, n, D, Pl, hv, _, hl, hm, hmm, _, hi⟩
  · cases hv
    exact ⟨[], ⟨none, 0, rfl, by simp, .inl rfl⟩, by simp⟩
  · cases hv
    have hlm : len ≤ m := by rw [hmm]; split <;> omega
    rw [hc] at hi
    obtain ⟨g, hg⟩ := choose_lt (n := len) (p := fun i (z : α) => W.cells? base (a.add (i * sz)) sz = some (rc z) ∧ B z) (fun i hi' => by
      obtain ⟨cs', h1, h2⟩ := hi i (by omega)
      obtain ⟨z, rfl, e2⟩ := dec _ _ _ h2
      exact ⟨z, h1, e2⟩)
    have hll : ((List.range len).map g).length = len := by simp
    refine ⟨(List.range len).map g, ⟨some a, cap, by rw [hll], by unfold maxLen at hm; omega, ?_⟩, ?_⟩
    · rcases Nat.eq_zero_or_pos len with hz | hz
      · exact .inl (List.eq_nil_of_length_eq_zero (by rw [hll]; exact hz))
      · right
        obtain ⟨c0, _⟩ := hg 0 hz
        obtain ⟨_, _, c0⟩ := World.cells?_some c0
        have c00 := c0 0 h0
        have hsp : a.spot = none := by
          cases hs : a.spot with
          | none => rfl
          | some k =>
            have hl0 : 0 < (rc (g 0)).length := by rw [he.len]; exact h0
            rw [List.getElem?_eq_getElem hl0] at c00
            simp [Addr.add, World.cell?, hs] at c00
            split at c00 <;> simp_all
        obtain ⟨b, off, spot⟩ := a
        simp only at hsp
        subst hsp
        refine ⟨b, off, rfl, fun w hw j u hu => ?_⟩
        have hj : j < len * sz := by
          have := (List.getElem?_eq_some_iff.1 hu).1
          rwa [cellsOf_length he, hll] at this
        have hjl : j / sz < len := Nat.div_lt_of_lt_mul (by rw [Nat.mul_comm]; exact hj)
        have hjr : j % sz < sz := Nat.mod_lt _ h0
        have hjd : j / sz * sz + j % sz = j := by rw [Nat.mul_comm]; exact Nat.div_add_mod _ _
        obtain ⟨ci, _⟩ := hg (j / sz) hjl
        obtain ⟨_, _, ci⟩ := World.cells?_some ci
        have q := ci (j % sz) hjr
        have ea : ((⟨b, off, none⟩ : Addr).add (j / sz * sz)).add (j % sz) = ⟨b, off + j, none⟩ := by
          have : ∀ (o k : Nat), (⟨b, o, none⟩ : Addr).add k = ⟨b, o + k, none⟩ := fun o k => by unfold Addr.add; split <;> simp_all
          rw [this, this, Nat.add_assoc, hjd]
        rw [ea] at q
        have hu2 := cellsOf_get he ((List.range len).map g) (j / sz) (by rw [hll]; exact hjl) (j % sz) hjr
        rw [hjd, hu] at hu2
        have hx : ((List.range len).map g)[j / sz]'(by rw [hll]; exact hjl) = g (j / sz) := by simp
        rw [hx] at hu2
        rw [← hu2] at q
        exact whole_cell hw q
    · intro z hz
      obtain ⟨i, hi', rfl⟩ := List.mem_map.1 hz
      exact (hg i (List.mem_range.1 hi')).2
end
theorem wf_i64 {x : Int} (h : (Lit.int .i64 x).wf = true) : -9223372036854775808 ≤ x ∧ x ≤ 9223372036854775807 := by
  simpa [Lit.wf, IntKind.min, IntKind.max, IntKind.signed, IntKind.bits] using h
end Go.Proofs.YtabpgejjnphfcaaGreat
