/-
  Versions and branches, plain: what the statements of the chapter say of the model. No program in sight. It proves no statement by itself.
-/
import Derived.Test.YtojiffhknddleaaGreatDoorU20
namespace Go.Proofs.YtojiffhknddleaaGreatDoor
set_option linter.unusedSimpArgs false
set_option linter.unusedVariables false
set_option linter.unusedSectionVars false
namespace Md
theorem mem_vlist {k : Nat} {S : St} (h : Inv k S) (v : Ver) : v ∈ vlist S ↔ ∃ x, aget S.vers v.id = some x ∧ v = toVer (v.id, x) := by
  unfold vlist
  rw [(List.mergeSort_perm _ _).mem_iff, List.mem_map]
  constructor
  · rintro ⟨⟨i, x⟩, hx, rfl⟩
    exact ⟨x, aget_of_mem h.ndv hx, rfl⟩
  · rintro ⟨x, hx, e⟩
    exact ⟨(v.id, x), aget_mem hx, e.symm⟩
/-- What was a version has the same edges, or is gone; numbers rise. -/
structure Later (S T : St) : Prop where
  next : S.next ≤ T.next
  kept : ∀ id, id < S.next → aget T.vers id = none ∨ aget T.vers id = aget S.vers id
theorem Later.refl (S : St) : Later S S := ⟨Int.le_refl _, fun _ _ => .inr rfl⟩
theorem Later.trans {S T U : St} (h : Later S T) (k : Later T U) : Later S U := by
  refine ⟨Int.le_trans h.next k.next, fun id hid => ?_⟩
  have := h.next
  rcases k.kept id (by omega) with e | e
  · exact .inl e
  · rw [e]; exact h.kept id hid
/-- What a list is behind the first changes. -/
def cur (a b : List Pr) (i : Nat) : List Pr := ((Eg.diff a b).take i).foldl Eg.one a
/-- But for what is pending on n, the same. -/
structure But (n : Nm) (S T : St) : Prop where
  vers : T.vers = S.vers
  heads : T.heads = S.heads
  next : T.next = S.next
  pend : ∀ m, m ≠ n → aget T.pend m = aget S.pend m
theorem But.refl (n : Nm) (S : St) : But n S S := ⟨rfl, rfl, rfl, fun _ _ => rfl⟩
theorem But.trans {n : Nm} {S T U : St} (h : But n S T) (k : But n T U) : But n S U := ⟨k.vers.trans h.vers, k.heads.trans h.heads, k.next.trans h.next, fun m hm => (k.pend m hm).trans (h.pend m hm)⟩
theorem But.same {n : Nm} {S T : St} (h : But n (abort S n) T) : Same (abort T n) (abort S n) := by
  refine ⟨h.next, fun m => by show aget T.heads m = _; rw [h.heads], fun m hm => ?_, fun id => by show aget T.vers id = _; rw [h.vers]⟩
  have hp : aget (abort T n).pend m = aget (abort S n).pend m := by
    show aget (adel T.pend n) m = aget (adel S.pend n) m
    by_cases e : n = m
    · subst e; rw [aget_del_same, aget_del_same]
    · rw [aget_del_other _ e, h.pend m (Ne.symm e)]
      rfl
  unfold now
  rw [hp]
  have : vget (abort T n) (hget (abort T n) m) = vget (abort S n) (hget (abort S n) m) := by
    unfold vget hget
    show (aget T.vers ((aget T.heads m).getD 0)).getD _ = _
    rw [h.vers, h.heads]
  rw [this]
end Md
end Go.Proofs.YtojiffhknddleaaGreatDoor

/-
  The document's model, plain: its lists, what it does, and that it does what the index's model does. No program in sight. It proves no statement by itself.
-/
namespace Go.Proofs.YtojiffhknddleaaGreatDoor
set_option linter.unusedSimpArgs false
set_option linter.unusedVariables false
set_option linter.unusedSectionVars false
/-- Two lists in a strict order with the same members are one. -/
theorem strict_ext {α : Type} {r : α → α → Prop} (hi : ∀ x, ¬ r x x) (ht : ∀ x y, r x y → ¬ r y x) : ∀ {l m : List α}, l.Pairwise r → m.Pairwise r → (∀ x, x ∈ l ↔ x ∈ m) → l = m
  | [], [], _, _, _ => rfl
  | [], y :: m, _, _, h => by have := (h y).2 (by simp); simp at this
  | x :: l, [], _, _, h => by have := (h x).1 (by simp); simp at this
  | x :: l, y :: m, hl, hm, h => by
    have hxl := (List.pairwise_cons.1 hl).1
    have hym := (List.pairwise_cons.1 hm).1
    have e : x = y := by
      rcases List.mem_cons.1 ((h x).1 (by simp)) with e | e
      · exact e
      · rcases List.mem_cons.1 ((h y).2 (by simp)) with e2 | e2
        · exact e2.symm
        · exact absurd (hxl y e2) (ht _ _ (hym x e))
    subst e
    congr 1
    refine strict_ext hi ht (List.pairwise_cons.1 hl).2 (List.pairwise_cons.1 hm).2 fun z => ?_
    constructor
    · intro hz
      rcases List.mem_cons.1 ((h z).1 (by simp [hz])) with e | e
      · subst e; exact absurd (hxl z hz) (hi z)
      · exact e
    · intro hz
      rcases List.mem_cons.1 ((h z).2 (by simp [hz])) with e | e
      · subst e; exact absurd (hym z hz) (hi z)
      · exact e
namespace Md
def vlt (a b : Ver) : Prop := a.id < b.id
def blt (a b : Br) : Prop := nlt a.name b.name = true
theorem vlt_irr (x : Ver) : ¬ vlt x x := by unfold vlt; omega
theorem vlt_asym (x y : Ver) (h : vlt x y) : ¬ vlt y x := by unfold vlt at *; omega
theorem blt_irr (x : Br) : ¬ blt x x := by unfold blt; rw [nlt_irrefl]; simp
theorem blt_asym (x y : Br) (h : blt x y) : ¬ blt y x := by unfold blt at *; rw [nlt_asym h]; simp
theorem vlist_strict {k : Nat} {S : St} (h : Inv k S) : (vlist S).Pairwise vlt := by
  have hp : (vlist S).Pairwise fun a b => decide (a.id ≤ b.id) = true := List.pairwise_mergeSort (by intro a b c; simp; omega) (by intro a b; simp; omega) _
  have hn : ((vlist S).map (·.id)).Nodup := by
    have : ((vlist S).map (·.id)).Perm ((S.vers.map toVer).map (·.id)) := (List.mergeSort_perm _ _).map _
    rw [this.nodup_iff]
    have := h.ndv
    rw [List.map_map]
    exact this
  rw [List.Nodup, List.pairwise_map] at hn
  refine (hp.and hn).imp ?_
  intro a b ⟨h1, h2⟩
  have := of_decide_eq_true h1
  unfold vlt
  omega
theorem blist_strict {k : Nat} {S : St} (h : Inv k S) : (blist S).Pairwise blt := by
  have hp : (blist S).Pairwise fun a b => (!nlt b.name a.name) = true := List.pairwise_mergeSort (by
    intro a b c h1 h2
    simp only [Bool.not_eq_true'] at h1 h2 ⊢
    exact nlt_ntrans h2 h1) (by
    intro a b
    simp only [Bool.or_eq_true, Bool.not_eq_true']
    by_cases hb : nlt b.name a.name = true
    · exact .inr (nlt_asym hb)
    · exact .inl (by simpa using hb)) _
  have hn : ((blist S).map (·.name)).Nodup := by
    have : ((blist S).map (·.name)).Perm ((S.heads.map toBr).map (·.name)) := (List.mergeSort_perm _ _).map _
    rw [this.nodup_iff]
    have := h.ndh
    rw [List.map_map]
    exact this
  rw [List.Nodup, List.pairwise_map] at hn
  refine (hp.and hn).imp ?_
  intro a b ⟨h1, h2⟩
  unfold blt
  simp only [Bool.not_eq_true'] at h1
  by_cases hb : nlt a.name b.name = true
  · exact hb
  · exact absurd (nlt_total (by simpa using hb) h1) h2
theorem mem_blist {k : Nat} {S : St} (h : Inv k S) (x : Br) : x ∈ blist S ↔ aget S.heads x.name = some x.head := by
  unfold blist
  rw [(List.mergeSort_perm _ _).mem_iff, List.mem_map]
  constructor
  · rintro ⟨⟨i, y⟩, hx, rfl⟩
    exact aget_of_mem h.ndh hx
  · intro e
    exact ⟨(x.name, x.head), aget_mem e, rfl⟩
theorem vlist_is {k : Nat} {S : St} (h : Inv k S) {l : List Ver} (hl : l.Pairwise vlt) (hm : ∀ v, v ∈ l ↔ ∃ x, aget S.vers v.id = some x ∧ v = toVer (v.id, x)) : vlist S = l :=
  strict_ext vlt_irr vlt_asym (vlist_strict h) hl fun v => by rw [mem_vlist h, hm]
theorem blist_is {k : Nat} {S : St} (h : Inv k S) {l : List Br} (hl : l.Pairwise blt) (hm : ∀ x, x ∈ l ↔ aget S.heads x.name = some x.head) : blist S = l :=
  strict_ext blt_irr blt_asym (blist_strict h) hl fun v => by rw [mem_blist h, hm]
/-! ### Places. -/
def vplace (V : List Ver) (id : Int) : Nat := V.findIdx fun v => decide (v.id = id)
def bplace (B : List Br) (n : Nm) : Nat := B.findIdx fun b => decide (b.name = n)
/-- Where a name would be put. -/
def bput (B : List Br) (n : Nm) : Nat := B.findIdx fun b => nlt n b.name
theorem vplace_lt {V : List Ver} {id : Int} : vplace V id < V.length ↔ ∃ v ∈ V, v.id = id := by unfold vplace; rw [List.findIdx_lt_length]; simp
theorem bplace_lt {B : List Br} {n : Nm} : bplace B n < B.length ↔ ∃ b ∈ B, b.name = n := by unfold bplace; rw [List.findIdx_lt_length]; simp
theorem vplace_get {V : List Ver} {id : Int} (h : vplace V id < V.length) : (V[vplace V id]).id = id := by
  have := List.findIdx_getElem (w := h)
  exact of_decide_eq_true this
theorem bplace_get {B : List Br} {n : Nm} (h : bplace B n < B.length) : (B[bplace B n]).name = n := by
  have := List.findIdx_getElem (w := h)
  exact of_decide_eq_true this
theorem vplace_some {k : Nat} {S : St} (h : Inv k S) (id : Int) : vplace (vlist S) id < (vlist S).length ↔ (aget S.vers id).isSome = true := by
  rw [vplace_lt]
  constructor
  · rintro ⟨v, hv, rfl⟩
    obtain ⟨x, hx, _⟩ := (mem_vlist h v).1 hv
    rw [hx]; rfl
  · intro hs
    obtain ⟨x, hx⟩ := Option.isSome_iff_exists.1 hs
    exact ⟨toVer (id, x), (mem_vlist h _).2 ⟨x, hx, rfl⟩, rfl⟩
theorem bplace_some {k : Nat} {S : St} (h : Inv k S) (n : Nm) : bplace (blist S) n < (blist S).length ↔ (aget S.heads n).isSome = true := by
  rw [bplace_lt]
  constructor
  · rintro ⟨v, hv, rfl⟩
    rw [(mem_blist h v).1 hv]; rfl
  · intro hs
    obtain ⟨x, hx⟩ := Option.isSome_iff_exists.1 hs
    exact ⟨⟨n, x⟩, (mem_blist h _).2 hx, rfl⟩
theorem bhead {k : Nat} {S : St} (h : Inv k S) {n : Nm} (hp : bplace (blist S) n < (blist S).length) : (blist S)[bplace (blist S) n].head = hget S n := by
  have h1 := (mem_blist h _).1 (List.getElem_mem hp)
  rw [bplace_get hp] at h1
  unfold hget
  rw [h1]; rfl
/-! ### The document's state. -/
structure Dv where
  V : List Ver
  B : List Br
  E : List (List Pr)
  Q : List (List Pr)
  D : List Bool
  n : Int
structure Sim (S : St) (d : Dv) : Prop where
  v : d.V = vlist S
  b : d.B = blist S
  le : d.E.length = d.V.length
  lq : d.Q.length = d.B.length
  ld : d.D.length = d.B.length
  e : ∀ i (h : i < d.V.length), d.E[i]'(by omega) = (vget S d.V[i].id).2
  p : ∀ i (h : i < d.B.length), aget S.pend d.B[i].name = if d.D[i]'(by omega) then some (d.Q[i]'(by omega)) else none
  n : d.n = S.next
def Dv.of (d : Dv) (id : Int) : List Pr := d.E.getD (vplace d.V id) []
def Dv.now (d : Dv) (i : Nat) : List Pr := if d.D.getD i false then d.Q.getD i [] else d.of (d.B.getD i ⟨⟨#[]⟩, 0⟩).head
theorem Sim.of {k : Nat} {S : St} {d : Dv} (h : Sim S d) (hI : Inv k S) {id : Int} (hs : (aget S.vers id).isSome = true) : d.of id = (vget S id).2 := by
  have h1 := (vplace_some hI id).2 hs
  rw [← h.v] at h1
  have := h.e _ h1
  rw [vplace_get h1] at this
  unfold Dv.of
  rw [← this, List.getD_eq_getElem?_getD, List.getElem?_eq_getElem (by rw [h.le]; exact h1)]
  rfl
theorem Sim.now {k : Nat} {S : St} {d : Dv} (h : Sim S d) (hI : Inv k S) {n : Nm} (hn : (aget S.heads n).isSome = true) : d.now (bplace d.B n) = Md.now S n := by
  have h1 := (bplace_some hI n).2 hn
  rw [← h.b] at h1
  have h2 := h.p _ h1
  rw [bplace_get h1] at h2
  have h3 := bhead hI (n := n) (by rw [← h.b]; exact h1)
  have hD : bplace d.B n < d.D.length := by rw [h.ld]; exact h1
  have hQ : bplace d.B n < d.Q.length := by rw [h.lq]; exact h1
  unfold Dv.now Md.now
  simp only [List.getD_eq_getElem?_getD, List.getElem?_eq_getElem h1, List.getElem?_eq_getElem hD, List.getElem?_eq_getElem hQ, Option.getD_some]
  rw [h2]
  obtain ⟨hd, ehd⟩ := Option.isSome_iff_exists.1 hn
  have hh : hget S n = hd := by unfold hget; rw [ehd]; rfl
  have e4 : (d.B[bplace d.B n]).head = hget S n := by
    have : d.B[bplace d.B n] = (blist S)[bplace (blist S) n]'(by rw [← h.b]; exact h1) := by congr 1 <;> simp [h.b]
    rw [this, h3]
  cases hc : d.D[bplace d.B n] with
  | true => simp
  | false =>
    simp only [Bool.false_eq_true, if_false]
    rw [e4]
    exact h.of hI (hI.head n _ (by rw [hh, ehd]))
end Md
end Go.Proofs.YtojiffhknddleaaGreatDoor

/-
  What the document's model does is what the index's model does, plain. No program in sight. It proves no statement by itself.
-/
namespace Go.Proofs.YtojiffhknddleaaGreatDoor
set_option linter.unusedSimpArgs false
set_option linter.unusedVariables false
set_option linter.unusedSectionVars false
namespace Md
theorem bplace_of {B : List Br} (hB : B.Pairwise blt) {j : Nat} (hj : j < B.length) : bplace B B[j].name = j := by
  have h1 : bplace B B[j].name < B.length := bplace_lt.2 ⟨B[j], List.getElem_mem hj, rfl⟩
  have h2 := bplace_get h1
  rw [List.pairwise_iff_getElem] at hB
  rcases Nat.lt_trichotomy (bplace B B[j].name) j with h | h | h
  · have := hB _ _ h1 hj h
    unfold blt at this
    rw [h2, nlt_irrefl] at this
    cases this
  · exact h
  · have := hB _ _ hj h1 h
    unfold blt at this
    rw [h2, nlt_irrefl] at this
    cases this
theorem vplace_of {V : List Ver} (hV : V.Pairwise vlt) {j : Nat} (hj : j < V.length) : vplace V V[j].id = j := by
  have h1 : vplace V V[j].id < V.length := vplace_lt.2 ⟨V[j], List.getElem_mem hj, rfl⟩
  have h2 := vplace_get h1
  rw [List.pairwise_iff_getElem] at hV
  rcases Nat.lt_trichotomy (vplace V V[j].id) j with h | h | h
  · have := hV _ _ h1 hj h
    unfold vlt at this
    omega
  · exact h
  · have := hV _ _ hj h1 h
    unfold vlt at this
    omega
section
variable {k : Nat} {S : St} {d : Dv}
theorem Sim.sB (h : Sim S d) (hI : Inv k S) : d.B.Pairwise blt := by rw [h.b]; exact blist_strict hI
theorem Sim.sV (h : Sim S d) (hI : Inv k S) : d.V.Pairwise vlt := by rw [h.v]; exact vlist_strict hI
theorem Sim.bsome (h : Sim S d) (hI : Inv k S) (n : Nm) : bplace d.B n < d.B.length ↔ (aget S.heads n).isSome = true := by rw [h.b]; exact bplace_some hI n
theorem Sim.vsome (h : Sim S d) (hI : Inv k S) (id : Int) : vplace d.V id < d.V.length ↔ (aget S.vers id).isSome = true := by rw [h.v]; exact vplace_some hI id
theorem Sim.head (h : Sim S d) (hI : Inv k S) {n : Nm} (hp : bplace d.B n < d.B.length) : d.B[bplace d.B n].head = hget S n := by
  have h1 := (mem_blist hI d.B[bplace d.B n]).1 (by rw [← h.b]; exact List.getElem_mem hp)
  rw [bplace_get hp] at h1
  unfold hget
  rw [h1]; rfl
theorem Sim.change (h : Sim S d) (hI : Inv k S) {n : Nm} (hn : (aget S.heads n).isSome = true) (l : List Pr) : Sim { S with pend := aput S.pend n l } { d with Q := d.Q.set (bplace d.B n) l, D := d.D.set (bplace d.B n) true } := by
  refine { v := h.v, b := h.b, le := h.le, lq := by simpa using h.lq, ld := by simpa using h.ld, e := h.e, p := fun j hj => ?_, n := h.n }
  have h1 := (h.bsome hI n).2 hn
  simp only at hj ⊢
  rw [aget_put]
  by_cases e : bplace d.B n = j
  · subst e
    rw [if_pos (bplace_get h1).symm]
    simp
  · rw [if_neg (fun e2 => e (by rw [e2]; exact bplace_of (h.sB hI) hj)), h.p j hj]
    simp [List.getElem_set_ne e]
theorem Sim.abort (h : Sim S d) (hI : Inv k S) {n : Nm} (hn : (aget S.heads n).isSome = true) : Sim (abort S n) { d with D := d.D.set (bplace d.B n) false } := by
  refine { v := h.v, b := h.b, le := h.le, lq := h.lq, ld := by simpa using h.ld, e := h.e, p := fun j hj => ?_, n := h.n }
  have h1 := (h.bsome hI n).2 hn
  simp only at hj ⊢
  unfold Md.abort
  simp only
  rw [aget_del]
  by_cases e : bplace d.B n = j
  · subst e
    rw [if_pos (bplace_get h1).symm]
    simp
  · rw [if_neg (fun e2 => e (by rw [e2]; exact bplace_of (h.sB hI) hj)), h.p j hj]
    simp [List.getElem_set_ne e]
theorem Sim.commit (h : Sim S d) (hI : Inv k S) {n : Nm} (hn : (aget S.heads n).isSome = true) (hx : S.next ≤ 1048576) :
    Sim (commit S n).1 { V := d.V ++ [⟨d.n, hget S n, 0, ((Md.now S n).length : Int)⟩], B := d.B.set (bplace d.B n) ⟨n, d.n⟩, E := d.E ++ [Md.now S n], Q := d.Q, D := d.D.set (bplace d.B n) false, n := d.n + 1 } := by
  have hI' := inv_commit hI n hn
  have hc : (Md.commit S n).1 = { vers := aput S.vers S.next (hget S n, Md.now S n), heads := aput S.heads n S.next, pend := adel S.pend n, next := S.next + 1 } := by
    unfold Md.commit; rw [if_neg (by omega)]
  have h1 := (h.bsome hI n).2 hn
  have hnx : ∀ v ∈ d.V, v.id < S.next := by
    intro v hv
    rw [h.v] at hv
    obtain ⟨x, hx, _⟩ := (mem_vlist hI v).1 hv
    exact (hI.ids v.id (by rw [hx]; rfl)).2
  have hV : vlist (Md.commit S n).1 = d.V ++ [⟨d.n, hget S n, 0, ((Md.now S n).length : Int)⟩] := by
    refine vlist_is hI' ?_ ?_
    · rw [List.pairwise_append]
      refine ⟨h.sV hI, List.pairwise_singleton _ _, fun a ha b hb => ?_⟩
      rw [List.mem_singleton] at hb
      subst hb
      have := hnx a ha
      unfold vlt
      simp only
      rw [h.n]; exact this
    · intro v
      rw [hc]
      simp only [List.mem_append, List.mem_singleton, aget_put]
      constructor
      · rintro (hv | rfl)
        · have := hnx v hv
          rw [if_neg (by omega)]
          rw [h.v] at hv
          exact (mem_vlist hI v).1 hv
        · simp only
          rw [if_pos h.n.symm]
          exact ⟨_, rfl, rfl⟩
      · rintro ⟨x, hx, e⟩
        split at hx
        · rename_i e2
          right
          cases hx
          rw [e, h.n, e2]
          simp [toVer]
        · left
          rw [h.v]
          exact (mem_vlist hI v).2 ⟨x, hx, e⟩
  have hB : blist (Md.commit S n).1 = d.B.set (bplace d.B n) ⟨n, d.n⟩ := by
    have hname : ∀ j (hj : j < d.B.length), ((d.B.set (bplace d.B n) ⟨n, d.n⟩)[j]'(by simpa using hj)).name = d.B[j].name := by
      intro j hj
      rw [List.getElem_set]
      split
      · rename_i e; subst e; exact (bplace_get h1).symm
      · rfl
    refine blist_is hI' ?_ ?_
    · rw [List.pairwise_iff_getElem]
      intro i j hi hj hij
      rw [List.length_set] at hi hj
      unfold blt
      rw [hname i hi, hname j hj]
      have := h.sB hI
      rw [List.pairwise_iff_getElem] at this
      exact this i j hi hj hij
    · intro x
      rw [hc]
      simp only [aget_put]
      constructor
      · intro hx
        obtain ⟨j, hj, e⟩ := List.mem_iff_getElem.1 hx
        rw [List.length_set] at hj
        rw [List.getElem_set] at e
        split at e
        · subst e; simp [h.n]
        · rename_i hne
          have hm : x ∈ blist S := by rw [← h.b, ← e]; exact List.getElem_mem hj
          rw [if_neg, (mem_blist hI x).1 hm]
          intro e2
          have := bplace_of (h.sB hI) hj
          rw [e, ← e2] at this
          exact hne this
      · intro hx
        split at hx
        · rename_i e
          refine List.mem_iff_getElem.2 ⟨bplace d.B n, by simpa using h1, ?_⟩
          rw [List.getElem_set_self]
          obtain ⟨xn, xh⟩ := x
          simp only at e hx
          cases hx
          rw [e, h.n]
        · rename_i e
          have hm := (mem_blist hI x).2 hx
          rw [← h.b] at hm
          obtain ⟨j, hj, e3⟩ := List.mem_iff_getElem.1 hm
          refine List.mem_iff_getElem.2 ⟨j, by simpa using hj, ?_⟩
          rw [List.getElem_set_ne, e3]
          intro e4
          apply e
          rw [← e3, ← bplace_get h1]
          congr 2
  refine { v := hV.symm, b := hB.symm, le := by simp [h.le], lq := by simp [h.lq], ld := by simp [h.ld], e := ?_, p := ?_, n := by rw [hc]; simp [h.n] }
  · intro i hi
    simp only [List.length_append, List.length_singleton] at hi
    simp only
    rw [hc]
    unfold vget
    simp only [aget_put]
    by_cases hlt : i < d.V.length
    · rw [List.getElem_append_left (by rw [h.le]; exact hlt)]
      simp only [List.getElem_append_left hlt]
      have := hnx _ (List.getElem_mem hlt)
      rw [if_neg (by omega), h.e i hlt]
      rfl
    · obtain rfl : i = d.V.length := by omega
      rw [List.getElem_append_right (by rw [h.le]; exact Nat.le_refl _)]
      simp [h.n]
  · intro j hj
    simp only [List.length_set] at hj
    rw [hc]
    simp only [aget_del]
    by_cases e : bplace d.B n = j
    · subst e
      simp
    · have hne : ¬ n = d.B[j].name := fun e2 => e (by rw [e2]; exact bplace_of (h.sB hI) hj)
      simp only [List.getElem_set_ne e]
      rw [if_neg hne, h.p j hj]
theorem Sim.branch (h : Sim S d) (hI : Inv k S) {o : Op} (h1 : nameOk o.name = true) (h2 : (aget S.heads o.name).isSome = false) (h3 : (aget S.vers o.a).isSome = true) (h4 : S.heads.length < 64) :
    Sim (branch S o).1 { d with B := d.B.take (bput d.B o.name) ++ ⟨o.name, o.a⟩ :: d.B.drop (bput d.B o.name), Q := d.Q.take (bput d.B o.name) ++ [] :: d.Q.drop (bput d.B o.name), D := d.D.take (bput d.B o.name) ++ false :: d.D.drop (bput d.B o.name) } := by
  have hI' := inv_branch hI o
  have hc : (Md.branch S o).1 = { S with heads := aput S.heads o.name o.a } := by
    unfold Md.branch; rw [if_neg (by simp [h1]), if_neg (by simp [h2]), if_neg (by simp [h3]), if_neg (by omega)]
  obtain ⟨q, hq⟩ : ∃ q, q = bput d.B o.name := ⟨_, rfl⟩
  have hql : q ≤ d.B.length := by rw [hq]; exact List.findIdx_le_length
  have hnone : ∀ b ∈ d.B, b.name ≠ o.name := by
    intro b hb e
    have := (h.bsome hI o.name).1 (bplace_lt.2 ⟨b, hb, e⟩)
    rw [h2] at this; cases this
  have hpn : aget S.pend o.name = none := by
    cases e : aget S.pend o.name with
    | none => rfl
    | some x => have := hI.pendK o.name (by rw [e]; rfl); rw [h2] at this; cases this
  have hlow : ∀ j (hj : j < d.B.length), j < q → nlt d.B[j].name o.name = true := by
    intro j hj hjq
    rw [hq] at hjq
    have := List.not_of_lt_findIdx hjq
    by_cases hb : nlt d.B[j].name o.name = true
    · exact hb
    · exact absurd (nlt_total (by simpa using hb) (by simpa using this)) (hnone _ (List.getElem_mem hj))
  have hhigh : ∀ j (hj : j < d.B.length), q ≤ j → nlt o.name d.B[j].name = true := by
    intro j hj hjq
    have hlt : q < d.B.length := by omega
    have h0 : nlt o.name d.B[q].name = true := by
      have := List.findIdx_getElem (w := (show d.B.findIdx (fun b => nlt o.name b.name) < d.B.length from by rw [hq] at hlt; exact hlt))
      have e : d.B.findIdx (fun b => nlt o.name b.name) = q := hq.symm
      simp only [e] at this
      exact this
    rcases Nat.eq_or_lt_of_le hjq with e | e
    · subst e; exact h0
    · have := h.sB hI
      rw [List.pairwise_iff_getElem] at this
      exact nlt_trans h0 (this q j hlt hj e)
  have hB : blist (Md.branch S o).1 = d.B.take q ++ ⟨o.name, o.a⟩ :: d.B.drop q := by
    refine blist_is hI' ?_ ?_
    · rw [List.pairwise_append, List.pairwise_cons]
      refine ⟨(h.sB hI).sublist (List.take_sublist _ _), ⟨fun y hy => ?_, (h.sB hI).sublist (List.drop_sublist _ _)⟩, fun x hx y hy => ?_⟩
      · obtain ⟨j, hj, e⟩ := List.mem_iff_getElem.1 hy
        rw [List.length_drop] at hj
        rw [List.getElem_drop] at e
        unfold blt
        rw [← e]
        exact hhigh (q + j) (by omega) (by omega)
      · obtain ⟨i, hi, e⟩ := List.mem_iff_getElem.1 hx
        rw [List.length_take] at hi
        rw [List.getElem_take] at e
        have h5 := hlow i (by omega) (by omega)
        rw [e] at h5
        rcases List.mem_cons.1 hy with e2 | hy
        · subst e2; exact h5
        · obtain ⟨j, hj, e3⟩ := List.mem_iff_getElem.1 hy
          rw [List.length_drop] at hj
          rw [List.getElem_drop] at e3
          have h6 := hhigh (q + j) (by omega) (by omega)
          rw [e3] at h6
          exact nlt_trans h5 h6
    · intro x
      rw [hc]
      simp only [aget_put, List.mem_append, List.mem_cons]
      have hm : x ∈ d.B ↔ aget S.heads x.name = some x.head := by rw [h.b]; exact mem_blist hI x
      have hs : x ∈ d.B ↔ x ∈ d.B.take q ∨ x ∈ d.B.drop q := by rw [← List.mem_append, List.take_append_drop]
      by_cases e : o.name = x.name
      · rw [if_pos e]
        have hno : x ∉ d.B := fun hx => hnone x hx e.symm
        rw [hs] at hno
        constructor
        · rintro (h7 | rfl | h7)
          · exact absurd (.inl h7) hno
          · rfl
          · exact absurd (.inr h7) hno
        · intro e2
          right; left
          obtain ⟨xn, xh⟩ := x
          simp only at e e2
          cases e2
          rw [e]
      · rw [if_neg e, ← hm, hs]
        constructor
        · rintro (h7 | rfl | h7)
          · exact .inl h7
          · exact absurd rfl e
          · exact .inr h7
        · rintro (h7 | h7)
          · exact .inl h7
          · exact .inr (.inr h7)
  rw [← hq]
  have hlQ := h.lq
  have hlD := h.ld
  refine { v := ?_, b := hB.symm, le := h.le, lq := by simp; omega, ld := by simp; omega, e := ?_, p := ?_, n := by rw [hc]; exact h.n }
  · show d.V = _
    rw [hc, h.v]
    rfl
  · intro i hi
    have := h.e i hi
    rw [hc]
    exact this
  · intro j hj
    have hpe : (Md.branch S o).1.pend = S.pend := by rw [hc]
    simp only [List.length_append, List.length_cons, List.length_take, List.length_drop] at hj
    simp only
    rw [hpe]
    by_cases c1 : j < q
    · have := h.p j (by omega)
      rw [List.getElem_append_left (h := by rw [List.length_take]; omega), List.getElem_append_left (h := by rw [List.length_take]; omega), List.getElem_append_left (h := by rw [List.length_take]; omega)]
      simp only [List.getElem_take]
      exact this
    · by_cases c2 : j = q
      · subst c2
        have e1 : min j d.B.length = j := by omega
        have e2 : min j d.D.length = j := by omega
        simp only [List.getElem_append_right (show (d.B.take j).length ≤ j from by rw [List.length_take]; omega), List.getElem_append_right (show (d.D.take j).length ≤ j from by rw [List.length_take]; omega), List.length_take, e1, e2, Nat.sub_self, List.getElem_cons_zero]
        rw [hpn]
        rfl
      · have := h.p (j - 1) (by omega)
        obtain ⟨i, rfl⟩ : ∃ i, j = i + 1 := ⟨j - 1, by omega⟩
        have e1 : min q d.B.length = q := by omega
        have e2 : min q d.D.length = q := by omega
        have e3 : min q d.Q.length = q := by omega
        have e4 : i + 1 - q = i - q + 1 := by omega
        have e5 : q + (i - q) = i := by omega
        simp only [List.getElem_append_right (show (d.B.take q).length ≤ i + 1 from by rw [List.length_take]; omega), List.getElem_append_right (show (d.D.take q).length ≤ i + 1 from by rw [List.length_take]; omega), List.getElem_append_right (show (d.Q.take q).length ≤ i + 1 from by rw [List.length_take]; omega), List.length_take, e1, e2, e3, e4, List.getElem_cons_succ, List.getElem_drop, e5]
        exact this
theorem Sim.bput (h : Sim S d) (hI : Inv k S) {n : Nm} {a : Int} (h2 : (aget S.heads n).isSome = false) : bplace (d.B.take (bput d.B n) ++ ⟨n, a⟩ :: d.B.drop (bput d.B n)) n = Md.bput d.B n := by
  have hnone : ∀ b ∈ d.B, b.name ≠ n := by
    intro b hb e
    have := (h.bsome hI n).1 (bplace_lt.2 ⟨b, hb, e⟩)
    rw [h2] at this; cases this
  have hl : Md.bput d.B n ≤ d.B.length := List.findIdx_le_length
  unfold bplace
  rw [List.findIdx_append]
  have : List.findIdx (fun b => decide (b.name = n)) (d.B.take (Md.bput d.B n)) = (d.B.take (Md.bput d.B n)).length := by
    rw [List.findIdx_eq_length]
    intro x hx
    exact decide_eq_false (hnone x (List.mem_of_mem_take hx))
  rw [this, if_neg (by omega), List.findIdx_cons]
  simp
  omega
theorem Sim.drop (h : Sim S d) (hI : Inv k S) {id : Int} (h1 : (aget S.vers id).isSome = true) (h2 : (S.heads.any fun x => decide (x.2 = id)) = false) :
    Sim (drop S id).1 { d with V := d.V.eraseIdx (vplace d.V id), E := d.E.eraseIdx (vplace d.V id) } := by
  have hI' := inv_drop hI id
  have hc : (Md.drop S id).1 = { S with vers := adel S.vers id } := by
    unfold Md.drop; rw [if_neg (by simp [h1]), if_neg (by simp [h2])]
  have hp := (h.vsome hI id).2 h1
  have hV : vlist (Md.drop S id).1 = d.V.eraseIdx (vplace d.V id) := by
    refine vlist_is hI' ((h.sV hI).sublist (List.eraseIdx_sublist _ _)) fun v => ?_
    rw [hc]
    simp only [aget_del]
    rw [List.mem_eraseIdx_iff_getElem]
    constructor
    · rintro ⟨i, hi, hne, e⟩
      have hm : v ∈ vlist S := by rw [← h.v, ← e]; exact List.getElem_mem hi
      rw [if_neg]
      · exact (mem_vlist hI v).1 hm
      · intro e2
        have := vplace_of (h.sV hI) hi
        rw [e, ← e2] at this
        exact hne this.symm
    · rintro ⟨x, hx, e⟩
      split at hx
      · cases hx
      · rename_i hne
        have hm := (mem_vlist hI v).2 ⟨x, hx, e⟩
        rw [← h.v] at hm
        obtain ⟨i, hi, e2⟩ := List.mem_iff_getElem.1 hm
        refine ⟨i, hi, fun e3 => ?_, e2⟩
        subst e3
        exact hne (by rw [← e2, vplace_get hp])
  refine { v := hV.symm, b := ?_, le := ?_, lq := h.lq, ld := h.ld, e := ?_, p := ?_, n := by rw [hc]; exact h.n }
  · show d.B = _
    rw [hc, h.b]
    rfl
  · simp only
    rw [List.length_eraseIdx, List.length_eraseIdx, h.le]
  · intro i hi
    simp only [List.length_eraseIdx, if_pos hp] at hi
    rw [hc]
    have hle := h.le
    have key : ∀ j (hj : j < d.V.length), j ≠ vplace d.V id → d.E[j]'(by omega) = (vget { S with vers := adel S.vers id } d.V[j].id).2 := by
      intro j hj hne
      unfold vget
      simp only [aget_del]
      rw [if_neg, h.e j hj]
      · rfl
      · intro e
        have := vplace_of (h.sV hI) hj
        rw [← e] at this
        exact hne this.symm
    simp only [List.getElem_eraseIdx]
    by_cases c : i < vplace d.V id
    · simp only [dif_pos c]
      exact key i (by omega) (by omega)
    · simp only [dif_neg c]
      exact key (i + 1) (by omega) (by omega)
  · intro j hj
    have := h.p j hj
    rw [hc]
    exact this
theorem Sim.heads (h : Sim S d) (hI : Inv k S) (id : Int) : (d.B.any fun b => decide (b.head = id)) = S.heads.any fun x => decide (x.2 = id) := by
  rw [Bool.eq_iff_iff, List.any_eq_true, List.any_eq_true]
  constructor
  · rintro ⟨b, hb, e⟩
    rw [h.b] at hb
    exact ⟨(b.name, b.head), aget_mem ((mem_blist hI b).1 hb), e⟩
  · rintro ⟨x, hx, e⟩
    refine ⟨⟨x.1, x.2⟩, ?_, e⟩
    rw [h.b]
    exact (mem_blist hI _).2 (aget_of_mem hI.ndh hx)
end
end Md
end Go.Proofs.YtojiffhknddleaaGreatDoor

/-
  What the document's lists make of Make and Drop, plain. No program in sight. It proves no statement by itself.
-/
namespace Go.Proofs.YtojiffhknddleaaGreatDoor
open Go.RowKit Go.Lib
set_option linter.unusedSimpArgs false
set_option linter.unusedVariables false
namespace Md
/-- What Make makes of the branches, from the left. -/
def binsTo (B : List Br) (x : Br) (q k : Nat) : List Br := if k ≤ q then B.take k else B.take q ++ x :: (B.take k).drop q
theorem binsTo_lo {B : List Br} {x : Br} {q k : Nat} (h : k < q) (hk : k < B.length) : binsTo B x q (k + 1) = binsTo B x q k ++ [B[k]] := by
  unfold binsTo
  rw [if_pos (by omega), if_pos (by omega), List.take_succ_eq_append_getElem hk]
theorem binsTo_at {B : List Br} {x : Br} {k : Nat} (hk : k < B.length) : binsTo B x k (k + 1) = binsTo B x k k ++ [x] ++ [B[k]] := by
  unfold binsTo
  rw [if_neg (by omega), if_pos (by omega), List.take_succ_eq_append_getElem hk, List.drop_append_of_le_length (by rw [List.length_take]; omega), List.drop_of_length_le (by rw [List.length_take]; omega)]
  simp
theorem binsTo_hi {B : List Br} {x : Br} {q k : Nat} (h : q < k) (hk : k < B.length) : binsTo B x q (k + 1) = binsTo B x q k ++ [B[k]] := by
  unfold binsTo
  rw [if_neg (by omega), if_neg (by omega), List.take_succ_eq_append_getElem hk, List.drop_append_of_le_length (by simp; omega)]
  simp
theorem binsTo_len (B : List Br) (x : Br) (q k : Nat) : (binsTo B x q k).length ≤ B.length + 1 := by
  unfold binsTo
  split
  · simp; omega
  · simp; omega
theorem binsTo_end {B : List Br} {x : Br} {q : Nat} (h : q < B.length) : binsTo B x q B.length = B.take q ++ x :: B.drop q := by
  unfold binsTo
  rw [if_neg (by omega), List.take_length]
theorem binsTo_end2 {B : List Br} {x : Br} {q : Nat} (h : q = B.length) : binsTo B x q B.length ++ [x] = B.take q ++ x :: B.drop q := by
  subst h
  unfold binsTo
  simp
def mk (V : List Ver) (B : List Br) (n : Nm) (head : Int) : Int × List Br :=
  if nameOk n = false then (193, B) else
  if bplace B n < B.length then (192, B) else
  if ¬ vplace V head < V.length then (190, B) else
  if 64 ≤ B.length then (195, B) else
  (0, B.take (bput B n) ++ ⟨n, head⟩ :: B.drop (bput B n))
def drp (V : List Ver) (B : List Br) (id : Int) : Int × List Ver :=
  if ¬ vplace V id < V.length then (190, V) else
  if B.any (fun b => decide (b.head = id)) then (194, V) else
  (0, V.filter fun v => !decide (v.id = id))
theorem bput_le (B : List Br) (n : Nm) : bput B n ≤ B.length := List.findIdx_le_length
theorem bput_lo {B : List Br} {n : Nm} {k : Nat} (h : k < bput B n) (hk : k < B.length) : nlt n B[k].name = false := by
  have := List.not_of_lt_findIdx h
  simpa using this
theorem bput_at {B : List Br} {n : Nm} (hk : bput B n < B.length) : nlt n B[bput B n].name = true := List.findIdx_getElem (w := hk)
end Md
end Go.Proofs.YtojiffhknddleaaGreatDoor
