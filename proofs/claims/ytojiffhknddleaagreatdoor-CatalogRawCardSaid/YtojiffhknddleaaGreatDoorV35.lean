/-
  Versions and branches, plain: what the statements of the chapter say of the model. No program in sight. It proves no statement by itself.
-/
import Derived.Test.YtojiffhknddleaaGreatDoorV20
namespace Go.Proofs.YtojiffhknddleaaGreatDoor
set_option linter.unusedSimpArgs false
set_option linter.unusedVariables false
set_option linter.unusedSectionVars false
namespace Md
theorem mem_vlist {k : Nat} {S : St} (h : Inv k S) (v : Ver) : v ∈ vlist S ↔ ∃ x, aget S.vers v.id = some x ∧ v = toVer (v.id, x) := by
  unfold vlist
  rw [(List.mergeSort_perm _ _).mem_iff, List.mem_map]
  constructor
  · rintro ⟨⟨i, x⟩, hx, rfl⟩
    exact ⟨x, aget_of_mem h.ndv hx, rfl⟩
  · rintro ⟨x, hx, e⟩
    exact ⟨(v.id, x), aget_mem hx, e.symm⟩
/-- What was a version has the same edges, or is gone; numbers rise. -/
structure Later (S T : St) : Prop where
  next : S.next ≤ T.next
  kept : ∀ id, id < S.next → aget T.vers id = none ∨ aget T.vers id = aget S.vers id
theorem Later.refl (S : St) : Later S S := ⟨Int.le_refl _, fun _ _ => .inr rfl⟩
theorem Later.trans {S T U : St} (h : Later S T) (k : Later T U) : Later S U := by
  refine ⟨Int.le_trans h.next k.next, fun id hid => ?_⟩
  have := h.next
  rcases k.kept id (by omega) with e | e
  · exact .inl e
  · rw [e]; exact h.kept id hid
/-- What a list is behind the first changes. -/
def cur (a b : List Pr) (i : Nat) : List Pr := ((Eg.diff a b).take i).foldl Eg.one a
/-- But for what is pending on n, the same. -/
structure But (n : Nm) (S T : St) : Prop where
  vers : T.vers = S.vers
  heads : T.heads = S.heads
  next : T.next = S.next
  pend : ∀ m, m ≠ n → aget T.pend m = aget S.pend m
theorem But.refl (n : Nm) (S : St) : But n S S := ⟨rfl, rfl, rfl, fun _ _ => rfl⟩
theorem But.trans {n : Nm} {S T U : St} (h : But n S T) (k : But n T U) : But n S U := ⟨k.vers.trans h.vers, k.heads.trans h.heads, k.next.trans h.next, fun m hm => (k.pend m hm).trans (h.pend m hm)⟩
theorem But.same {n : Nm} {S T : St} (h : But n (abort S n) T) : Same (abort T n) (abort S n) := by
  refine ⟨h.next, fun m => by show aget T.heads m = _; rw [h.heads], fun m hm => ?_, fun id => by show aget T.vers id = _; rw [h.vers]⟩
  have hp : aget (abort T n).pend m = aget (abort S n).pend m := by
    show aget (adel T.pend n) m = aget (adel S.pend n) m
    by_cases e : n = m
    · subst e; rw [aget_del_same, aget_del_same]
    · rw [aget_del_other _ e, h.pend m (Ne.symm e)]
      rfl
  unfold now
  rw [hp]
  have : vget (abort T n) (hget (abort T n) m) = vget (abort S n) (hget (abort S n) m) := by
    unfold vget hget
    show (aget T.vers ((aget T.heads m).getD 0)).getD _ = _
    rw [h.vers, h.heads]
  rw [this]
end Md
end Go.Proofs.YtojiffhknddleaaGreatDoor

/-
  The document's model, plain: its lists, what it does, and that it does what the index's model does. No program in sight. It proves no statement by itself.
-/
namespace Go.Proofs.YtojiffhknddleaaGreatDoor
set_option linter.unusedSimpArgs false
set_option linter.unusedVariables false
set_option linter.unusedSectionVars false
namespace Md
def blt (a b : Br) : Prop := nlt a.name b.name = true
theorem mem_blist {k : Nat} {S : St} (h : Inv k S) (x : Br) : x ∈ blist S ↔ aget S.heads x.name = some x.head := by
  unfold blist
  rw [(List.mergeSort_perm _ _).mem_iff, List.mem_map]
  constructor
  · rintro ⟨⟨i, y⟩, hx, rfl⟩
    exact aget_of_mem h.ndh hx
  · intro e
    exact ⟨(x.name, x.head), aget_mem e, rfl⟩
def vplace (V : List Ver) (id : Int) : Nat := V.findIdx fun v => decide (v.id = id)
def bplace (B : List Br) (n : Nm) : Nat := B.findIdx fun b => decide (b.name = n)
/-- Where a name would be put. -/
def bput (B : List Br) (n : Nm) : Nat := B.findIdx fun b => nlt n b.name
theorem vplace_lt {V : List Ver} {id : Int} : vplace V id < V.length ↔ ∃ v ∈ V, v.id = id := by unfold vplace; rw [List.findIdx_lt_length]; simp
theorem bplace_lt {B : List Br} {n : Nm} : bplace B n < B.length ↔ ∃ b ∈ B, b.name = n := by unfold bplace; rw [List.findIdx_lt_length]; simp
theorem vplace_get {V : List Ver} {id : Int} (h : vplace V id < V.length) : (V[vplace V id]).id = id := by
  have := List.findIdx_getElem (w := h)
  exact of_decide_eq_true this
theorem bplace_get {B : List Br} {n : Nm} (h : bplace B n < B.length) : (B[bplace B n]).name = n := by
  have := List.findIdx_getElem (w := h)
  exact of_decide_eq_true this
theorem vplace_some {k : Nat} {S : St} (h : Inv k S) (id : Int) : vplace (vlist S) id < (vlist S).length ↔ (aget S.vers id).isSome = true := by
  rw [vplace_lt]
  constructor
  · rintro ⟨v, hv, rfl⟩
    obtain ⟨x, hx, _⟩ := (mem_vlist h v).1 hv
    rw [hx]; rfl
  · intro hs
    obtain ⟨x, hx⟩ := Option.isSome_iff_exists.1 hs
    exact ⟨toVer (id, x), (mem_vlist h _).2 ⟨x, hx, rfl⟩, rfl⟩
theorem bplace_some {k : Nat} {S : St} (h : Inv k S) (n : Nm) : bplace (blist S) n < (blist S).length ↔ (aget S.heads n).isSome = true := by
  rw [bplace_lt]
  constructor
  · rintro ⟨v, hv, rfl⟩
    rw [(mem_blist h v).1 hv]; rfl
  · intro hs
    obtain ⟨x, hx⟩ := Option.isSome_iff_exists.1 hs
    exact ⟨⟨n, x⟩, (mem_blist h _).2 hx, rfl⟩
theorem bhead {k : Nat} {S : St} (h : Inv k S) {n : Nm} (hp : bplace (blist S) n < (blist S).length) : (blist S)[bplace (blist S) n].head = hget S n := by
  have h1 := (mem_blist h _).1 (List.getElem_mem hp)
  rw [bplace_get hp] at h1
  unfold hget
  rw [h1]; rfl
/-! ### The document's state. -/
structure Dv where
  V : List Ver
  B : List Br
  E : List (List Pr)
  Q : List (List Pr)
  D : List Bool
  n : Int
structure Sim (S : St) (d : Dv) : Prop where
  v : d.V = vlist S
  b : d.B = blist S
  le : d.E.length = d.V.length
  lq : d.Q.length = d.B.length
  ld : d.D.length = d.B.length
  e : ∀ i (h : i < d.V.length), d.E[i]'(by omega) = (vget S d.V[i].id).2
  p : ∀ i (h : i < d.B.length), aget S.pend d.B[i].name = if d.D[i]'(by omega) then some (d.Q[i]'(by omega)) else none
  n : d.n = S.next
def Dv.of (d : Dv) (id : Int) : List Pr := d.E.getD (vplace d.V id) []
def Dv.now (d : Dv) (i : Nat) : List Pr := if d.D.getD i false then d.Q.getD i [] else d.of (d.B.getD i ⟨⟨#[]⟩, 0⟩).head
theorem Sim.of {k : Nat} {S : St} {d : Dv} (h : Sim S d) (hI : Inv k S) {id : Int} (hs : (aget S.vers id).isSome = true) : d.of id = (vget S id).2 := by
  have h1 := (vplace_some hI id).2 hs
  rw [← h.v] at h1
  have := h.e _ h1
  rw [vplace_get h1] at this
  unfold Dv.of
  rw [← this, List.getD_eq_getElem?_getD, List.getElem?_eq_getElem (by rw [h.le]; exact h1)]
  rfl
theorem Sim.now {k : Nat} {S : St} {d : Dv} (h : Sim S d) (hI : Inv k S) {n : Nm} (hn : (aget S.heads n).isSome = true) : d.now (bplace d.B n) = Md.now S n := by
  have h1 := (bplace_some hI n).2 hn
  rw [← h.b] at h1
  have h2 := h.p _ h1
  rw [bplace_get h1] at h2
  have h3 := bhead hI (n := n) (by rw [← h.b]; exact h1)
  have hD : bplace d.B n < d.D.length := by rw [h.ld]; exact h1
  have hQ : bplace d.B n < d.Q.length := by rw [h.lq]; exact h1
  unfold Dv.now Md.now
  simp only [List.getD_eq_getElem?_getD, List.getElem?_eq_getElem h1, List.getElem?_eq_getElem hD, List.getElem?_eq_getElem hQ, Option.getD_some]
  rw [h2]
  obtain ⟨hd, ehd⟩ := Option.isSome_iff_exists.1 hn
  have hh : hget S n = hd := by unfold hget; rw [ehd]; rfl
  have e4 : (d.B[bplace d.B n]).head = hget S n := by
    have : d.B[bplace d.B n] = (blist S)[bplace (blist S) n]'(by rw [← h.b]; exact h1) := by congr 1 <;> simp [h.b]
    rw [this, h3]
  cases hc : d.D[bplace d.B n] with
  | true => simp
  | false =>
    simp only [Bool.false_eq_true, if_false]
    rw [e4]
    exact h.of hI (hI.head n _ (by rw [hh, ehd]))
end Md
end Go.Proofs.YtojiffhknddleaaGreatDoor
