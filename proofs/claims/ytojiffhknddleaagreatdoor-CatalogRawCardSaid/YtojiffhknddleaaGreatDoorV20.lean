/-
  Versions and branches, plain: what the model of the index answers, and what stays true of it. No program in sight. It proves no statement by itself.
-/
import Derived.Test.YtojiffhknddleaaGreatDoorV19
import Derived.Test.YtojiffhknddleaaGreatDoorV15
import Derived.Sort.Walk0
namespace Go.Proofs.YtojiffhknddleaaGreatDoor
set_option linter.unusedSimpArgs false
set_option linter.unusedVariables false
set_option linter.unusedSectionVars false
namespace Md
abbrev Nm := ByteArray
/-- What of an operation is looked at. -/
structure Op where
  kind : Int
  name : Nm
  u : Int
  v : Int
  a : Int
  b : Int
structure Ver where
  id : Int
  parent : Int
  root : Int
  edges : Int
deriving DecidableEq
structure Br where
  name : Nm
  head : Int
deriving DecidableEq
structure An where
  err : Int := 0
  version : Int := 0
  yes : Bool := false
  count : Int := 0
  changes : List (Pr × Bool) := []
  pairs : List Pr := []
  versions : List Ver := []
  branches : List Br := []
deriving DecidableEq
def fail (e : Int) : An := { err := e }
structure St where
  vers : List (Int × (Int × List Pr))
  heads : List (Nm × Int)
  pend : List (Nm × List Pr)
  next : Int
def vget (S : St) (id : Int) : Int × List Pr := (aget S.vers id).getD (0, [])
def hget (S : St) (n : Nm) : Int := (aget S.heads n).getD 0
def now (S : St) (n : Nm) : List Pr := match aget S.pend n with
  | some l => l
  | none => (vget S (hget S n)).2
def vtx (v : Int) : Bool := decide (0 ≤ v ∧ v < 1048576)
def wrong (u v : Int) : Int := if vtx u && vtx v then (if u = v then 31 else 0) else 30
def pair (u v : Int) : Pr := (min u v, max u v)
def okByte (c : UInt8) : Bool := decide ((97 ≤ c.toNat ∧ c.toNat ≤ 122) ∨ (48 ≤ c.toNat ∧ c.toNat ≤ 57) ∨ c.toNat = 45)
def nameOk (s : Nm) : Bool := s.data.toList.all okByte && decide (1 ≤ s.size ∧ s.size ≤ 12)
def nlt (x y : Nm) : Bool := Op.bytesLess x.toList y.toList
def toVer (x : Int × (Int × List Pr)) : Ver := ⟨x.1, x.2.1, 0, (x.2.2.length : Int)⟩
def toBr (x : Nm × Int) : Br := ⟨x.1, x.2⟩
def vlist (S : St) : List Ver := (S.vers.map toVer).mergeSort fun a b => decide (a.id ≤ b.id)
def blist (S : St) : List Br := (S.heads.map toBr).mergeSort fun a b => !nlt b.name a.name
def change (S : St) (o : Op) : St × An :=
  if wrong o.u o.v ≠ 0 then (S, fail (wrong o.u o.v)) else
  if o.kind = 1 ∧ pair o.u o.v ∈ now S o.name then (S, fail 180) else
  if o.kind ≠ 1 ∧ pair o.u o.v ∉ now S o.name then (S, fail 181) else
  ({ S with pend := aput S.pend o.name (Eg.apply (now S o.name) [(pair o.u o.v, !decide (pair o.u o.v ∈ now S o.name))]) }, {})
def commit (S : St) (n : Nm) : St × An :=
  if 1048576 < S.next then (S, fail 195) else
  ({ vers := aput S.vers S.next (hget S n, now S n), heads := aput S.heads n S.next, pend := adel S.pend n, next := S.next + 1 }, { version := S.next })
def abort (S : St) (n : Nm) : St := { S with pend := adel S.pend n }
def branch (S : St) (o : Op) : St × An :=
  if nameOk o.name = false then (S, fail 193) else
  if (aget S.heads o.name).isSome then (S, fail 192) else
  if (aget S.vers o.a).isSome = false then (S, fail 190) else
  if 64 ≤ S.heads.length then (S, fail 195) else
  ({ S with heads := aput S.heads o.name o.a }, {})
def drop (S : St) (id : Int) : St × An :=
  if (aget S.vers id).isSome = false then (S, fail 190) else
  if S.heads.any fun x => decide (x.2 = id) then (S, fail 194) else
  ({ S with vers := adel S.vers id }, {})
def ask (S : St) (o : Op) : An :=
  if (aget S.vers o.a).isSome = false ∨ o.kind = 8 ∧ (aget S.vers o.b).isSome = false then fail 190 else
  if o.kind = 8 then { changes := Eg.diff (vget S o.a).2 (vget S o.b).2 } else
  if o.kind = 9 then (if (vtx o.u && vtx o.v) = false then fail 30 else { yes := decide (o.v ∈ Gr.members (vget S o.a).2 o.u) }) else
  if o.kind = 10 then (if vtx o.u = false then fail 30 else { count := ((Gr.members (vget S o.a).2 o.u).length : Int) }) else
  { pairs := (vget S o.a).2 }
def onB (S : St) (o : Op) : St × An :=
  if o.kind = 3 then commit S o.name else
  if o.kind = 4 then (abort S o.name, {}) else
  if o.kind = 12 then (S, { version := hget S o.name }) else
  change S o
def mdo (S : St) (o : Op) : St × An :=
  if o.kind = 5 then branch S o else
  if o.kind = 6 then drop S o.a else
  if o.kind = 7 then (S, {}) else
  if o.kind = 13 then (S, { versions := vlist S, branches := blist S }) else
  if o.kind = 8 ∨ o.kind = 9 ∨ o.kind = 10 ∨ o.kind = 11 then (S, ask S o) else
  if o.kind = 1 ∨ o.kind = 2 ∨ o.kind = 3 ∨ o.kind = 4 ∨ o.kind = 12 then
    (if (aget S.heads o.name).isSome = false then (S, fail 191) else onB S o)
  else (S, fail 1)
def run (S : St) (l : List Op) : St := l.foldl (fun S o => (mdo S o).1) S
/-- The same, as maps. -/
def Same (S T : St) : Prop := S.next = T.next ∧ (∀ n, aget S.heads n = aget T.heads n) ∧ (∀ n, (aget S.heads n).isSome → now S n = now T n) ∧ ∀ id, aget S.vers id = aget T.vers id
theorem Same.refl (S : St) : Same S S := ⟨rfl, fun _ => rfl, fun _ _ => rfl, fun _ => rfl⟩
/-- What stays true. -/
def Good (l : List Pr) : Prop := Eg.Srt l ∧ ∀ p ∈ l, 0 ≤ p.1 ∧ p.1 < p.2 ∧ p.2 < 1048576
structure Inv (k : Nat) (S : St) : Prop where
  next : 2 ≤ S.next ∧ S.next ≤ 2 + k
  ids : ∀ id, (aget S.vers id).isSome → 1 ≤ id ∧ id < S.next
  par : ∀ id p l, aget S.vers id = some (p, l) → 0 ≤ p ∧ p < id ∧ (id = 1 → p = 0) ∧ (1 < id → p ≠ 0)
  head : ∀ n h, aget S.heads n = some h → (aget S.vers h).isSome
  pendK : ∀ n, (aget S.pend n).isSome → (aget S.heads n).isSome
  goodV : ∀ id p l, aget S.vers id = some (p, l) → Good l ∧ l.length ≤ k
  goodP : ∀ n l, aget S.pend n = some l → Good l ∧ l.length ≤ k
  nv : S.vers.length ≤ 1 + k
  nh : S.heads.length ≤ 1 + k
  np : S.pend.length ≤ 1 + k
  ndv : (S.vers.map (·.1)).Nodup
  ndh : (S.heads.map (·.1)).Nodup
theorem Good.nil : Good [] := ⟨Eg.Srt.nil, by simp⟩
theorem Inv.now {k : Nat} {S : St} (h : Inv k S) (n : Nm) : Good (now S n) ∧ (Md.now S n).length ≤ k := by
  unfold Md.now
  cases e : aget S.pend n with
  | some l => exact h.goodP n l e
  | none =>
    unfold vget
    cases e2 : aget S.vers (hget S n) with
    | none => exact ⟨Good.nil, by simp⟩
    | some x => obtain ⟨p, l⟩ := x; exact h.goodV _ p l e2
theorem Inv.mono {k j : Nat} {S : St} (h : Inv k S) (hk : k ≤ j) : Inv j S where
  next := by have := h.next; omega
  ids := h.ids
  par := h.par
  head := h.head
  pendK := h.pendK
  goodV := fun id p l e => ⟨(h.goodV id p l e).1, Nat.le_trans (h.goodV id p l e).2 hk⟩
  goodP := fun n l e => ⟨(h.goodP n l e).1, Nat.le_trans (h.goodP n l e).2 hk⟩
  nv := by have := h.nv; omega
  nh := by have := h.nh; omega
  np := by have := h.np; omega
  ndv := h.ndv
  ndh := h.ndh
end Md
end Go.Proofs.YtojiffhknddleaaGreatDoor

/-
  The order of strings, plain. It proves no statement by itself.
-/
namespace Go.Proofs.YtojiffhknddleaaGreatDoor
open Md (Nm St)
set_option linter.unusedSimpArgs false
set_option linter.unusedVariables false
set_option linter.unusedSectionVars false
namespace Bl
theorem irrefl : ∀ x : List UInt8, Op.bytesLess x x = false
  | [] => rfl
  | a :: x => by
    have h : ¬ a < a := by rw [UInt8.lt_iff_toNat_lt]; omega
    simp [Op.bytesLess, irrefl x, h]
theorem trans : ∀ x y z : List UInt8, Op.bytesLess x y = true → Op.bytesLess y z = true → Op.bytesLess x z = true
  | _, [], _, h, _ => by cases ‹List UInt8› <;> simp [Op.bytesLess] at h
  | _, _ :: _, [], _, k => by simp [Op.bytesLess] at k
  | [], _ :: _, _ :: _, _, _ => rfl
  | a :: x, b :: y, c :: z, h, k => by
    simp only [Op.bytesLess, Bool.or_eq_true, Bool.and_eq_true, decide_eq_true_eq, beq_iff_eq] at h k ⊢
    simp only [UInt8.lt_iff_toNat_lt] at *
    rcases h with h | ⟨rfl, h⟩
    · rcases k with k | ⟨rfl, k⟩
      · left; omega
      · left; exact h
    · rcases k with k | ⟨rfl, k⟩
      · left; exact k
      · right; exact ⟨rfl, trans x y z h k⟩
theorem ntrans : ∀ x y z : List UInt8, Op.bytesLess x y = false → Op.bytesLess y z = false → Op.bytesLess x z = false
  | x, _, [], _, _ => by cases x <;> rfl
  | _, [], _ :: _, _, k => by simp [Op.bytesLess] at k
  | [], _ :: _, _ :: _, h, _ => by simp [Op.bytesLess] at h
  | a :: x, b :: y, c :: z, h, k => by
    simp only [Op.bytesLess, Bool.or_eq_false_iff, Bool.and_eq_false_iff, decide_eq_false_iff_not, beq_eq_false_iff_ne] at h k ⊢
    simp only [UInt8.lt_iff_toNat_lt] at *
    obtain ⟨h1, h2⟩ := h
    obtain ⟨k1, k2⟩ := k
    refine ⟨by omega, ?_⟩
    by_cases e1 : a = b
    · subst e1
      by_cases e2 : a = c
      · subst e2
        right
        exact ntrans x y z (by rcases h2 with h | h; exact absurd rfl h; exact h) (by rcases k2 with h | h; exact absurd rfl h; exact h)
      · exact .inl e2
    · left
      rintro rfl
      have : a.toNat ≠ b.toNat := fun e => e1 (UInt8.toNat_inj.1 e)
      omega
theorem total : ∀ x y : List UInt8, Op.bytesLess x y = false → Op.bytesLess y x = false → x = y
  | [], [], _, _ => rfl
  | [], _ :: _, h, _ => by simp [Op.bytesLess] at h
  | _ :: _, [], _, k => by simp [Op.bytesLess] at k
  | a :: x, b :: y, h, k => by
    simp only [Op.bytesLess, Bool.or_eq_false_iff, Bool.and_eq_false_iff, decide_eq_false_iff_not, beq_eq_false_iff_ne] at h k
    simp only [UInt8.lt_iff_toNat_lt] at *
    have e : a = b := UInt8.toNat_inj.1 (by omega)
    subst e
    rw [total x y (by rcases h.2 with h | h; exact absurd rfl h; exact h) (by rcases k.2 with h | h; exact absurd rfl h; exact h)]
end Bl
theorem nlt_irrefl (x : Nm) : Md.nlt x x = false := Bl.irrefl _
theorem nlt_trans {x y z : Nm} (h : Md.nlt x y = true) (k : Md.nlt y z = true) : Md.nlt x z = true := Bl.trans _ _ _ h k
theorem nlt_ntrans {x y z : Nm} (h : Md.nlt x y = false) (k : Md.nlt y z = false) : Md.nlt x z = false := Bl.ntrans _ _ _ h k
theorem nm_ext {x y : Nm} (h : x.toList = y.toList) : x = y := by
  rw [ByteArray.toList_eq, ByteArray.toList_eq] at h
  obtain ⟨a⟩ := x
  obtain ⟨b⟩ := y
  congr 1
  exact Array.toList_inj.1 h
theorem nlt_total {x y : Nm} (h : Md.nlt x y = false) (k : Md.nlt y x = false) : x = y := nm_ext (Bl.total _ _ h k)
theorem nlt_asym {x y : Nm} (h : Md.nlt x y = true) : Md.nlt y x = false := by
  cases e : Md.nlt y x with
  | false => rfl
  | true => have := nlt_trans h e; rw [nlt_irrefl] at this; cases this
end Go.Proofs.YtojiffhknddleaaGreatDoor
