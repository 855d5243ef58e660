/-
  Lists of pairs as sets, in plain words: sorted, each once; taken from one another, told apart, changed. No program in sight. It proves no statement by itself.
-/
import Derived.Test.YtojiffhknddleaaGreatDoorV01
namespace Go.Proofs.YtojiffhknddleaaGreatDoor
set_option linter.unusedSimpArgs false
set_option linter.unusedVariables false

abbrev Pr := Int × Int
namespace Eg
/-- In order. -/
def less (a b : Pr) : Bool := decide (a.1 < b.1) || (a.1 == b.1 && decide (a.2 < b.2))
theorem less_iff {a b : Pr} : less a b = true ↔ a.1 < b.1 ∨ (a.1 = b.1 ∧ a.2 < b.2) := by simp [less]
theorem less_trans {a b c : Pr} (h : less a b = true) (k : less b c = true) : less a c = true := by
  rw [less_iff] at *; omega
theorem less_total {a b : Pr} (h : less a b = false) (k : less b a = false) : a = b := by
  rw [Bool.eq_false_iff, ne_eq, less_iff] at h k
  exact Prod.ext (by omega) (by omega)
/-- Rising, each once. -/
def Srt (l : List Pr) : Prop := l.Pairwise (fun a b => less a b = true)
theorem Srt.cons {x : Pr} {l : List Pr} : Srt (x :: l) ↔ (∀ y ∈ l, less x y = true) ∧ Srt l := List.pairwise_cons
theorem Srt.nil : Srt [] := List.Pairwise.nil
theorem Srt.filter {l : List Pr} (h : Srt l) (p : Pr → Bool) : Srt (l.filter p) := List.Pairwise.filter p h
def ins (p : Pr) : List Pr → List Pr
  | [] => [p]
  | q :: l => if less p q then p :: q :: l else q :: ins p l
def put (l : List Pr) (p : Pr) : List Pr := if p ∈ l then l else ins p l
def sort (l : List Pr) : List Pr := l.foldl put []
def without (l : List Pr) (p : Pr) : List Pr := l.filter fun x => decide (x ≠ p)
def minus (a b : List Pr) : List Pr := (sort a).filter fun x => !decide (x ∈ b)
def diff (a b : List Pr) : List (Pr × Bool) := (sort (minus a b ++ minus b a)).map fun x => (x, decide (x ∈ b))
def one (s : List Pr) (x : Pr × Bool) : List Pr := if x.2 then put s x.1 else without s x.1
def apply (l : List Pr) (c : List (Pr × Bool)) : List Pr := c.foldl one (sort l)

theorem mem_ins (p x : Pr) : ∀ l, x ∈ ins p l ↔ x = p ∨ x ∈ l
  | [] => by simp [ins]
  | q :: l => by
    unfold ins
    split
    · simp
    · rw [List.mem_cons, mem_ins p x l, List.mem_cons]
      constructor
      · rintro (h | h | h)
        · exact .inr (.inl h)
        · exact .inl h
        · exact .inr (.inr h)
      · rintro (h | h | h)
        · exact .inr (.inl h)
        · exact .inl h
        · exact .inr (.inr h)
theorem srt_ins (p : Pr) : ∀ l, Srt l → p ∉ l → Srt (ins p l)
  | [], _, _ => Srt.cons.2 ⟨by simp, Srt.nil⟩
  | q :: l, h, hp => by
    obtain ⟨h1, h2⟩ := Srt.cons.1 h
    unfold ins
    split
    · rename_i hl
      refine Srt.cons.2 ⟨fun y hy => ?_, h⟩
      rcases List.mem_cons.1 hy with rfl | hy
      · exact hl
      · exact less_trans hl (h1 y hy)
    · rename_i hl
      have hpl : p ∉ l := fun k => hp (List.mem_cons_of_mem _ k)
      have hpq : p ≠ q := fun e => hp (e ▸ List.mem_cons_self ..)
      refine Srt.cons.2 ⟨fun y hy => ?_, srt_ins p l h2 hpl⟩
      rcases (mem_ins p y l).1 hy with rfl | hy
      · cases k : less q y with
        | true => rfl
        | false => exact absurd (less_total (by simpa using hl) k) hpq
      · exact h1 y hy
theorem mem_put (l : List Pr) (p x : Pr) : x ∈ put l p ↔ x = p ∨ x ∈ l := by
  unfold put
  split
  · rename_i h
    constructor
    · exact .inr
    · rintro (rfl | k)
      · exact h
      · exact k
  · exact mem_ins p x l
theorem srt_put {l : List Pr} (h : Srt l) (p : Pr) : Srt (put l p) := by
  unfold put
  split
  · exact h
  · exact srt_ins p l h (by assumption)
theorem sort_key : ∀ (l s : List Pr), Srt s → Srt (l.foldl put s) ∧ ∀ x, x ∈ l.foldl put s ↔ x ∈ l ∨ x ∈ s
  | [], s, h => ⟨h, fun x => by simp⟩
  | p :: l, s, h => by
    obtain ⟨h1, h2⟩ := sort_key l (put s p) (srt_put h p)
    refine ⟨h1, fun x => ?_⟩
    rw [List.foldl_cons, h2, mem_put, List.mem_cons]
    constructor
    · rintro (k | k | k)
      · exact .inl (.inr k)
      · exact .inl (.inl k)
      · exact .inr k
    · rintro ((k | k) | k)
      · exact .inr (.inl k)
      · exact .inl k
      · exact .inr (.inr k)
theorem mem_sort (l : List Pr) (x : Pr) : x ∈ sort l ↔ x ∈ l := by rw [sort, (sort_key l [] Srt.nil).2]; simp
theorem mem_minus (a b : List Pr) (x : Pr) : x ∈ minus a b ↔ x ∈ a ∧ x ∉ b := by simp [minus, mem_sort]
end Eg
end Go.Proofs.YtojiffhknddleaaGreatDoor

/-
  Lists of pairs as sets: where a pair stands, or would stand; what goes in there, and what goes out. Plain. It proves no statement by itself.
-/
namespace Go.Proofs.YtojiffhknddleaaGreatDoor
set_option linter.unusedSimpArgs false
set_option linter.unusedVariables false
namespace Eg
end Eg
end Go.Proofs.YtojiffhknddleaaGreatDoor

/-
  Graphs: who is joined with whom: the walk's answer and the document's one. No program in sight. It proves no statement by itself.
-/
namespace Go.Proofs.YtojiffhknddleaaGreatDoor.Gr
set_option linter.unusedSimpArgs false
set_option linter.unusedVariables false
abbrev Pr := Int × Int

/-- Who is beside x, in the order of the edges. -/
def adj1 (x : Int) (p : Pr) : List Int := (if p.1 = x then [p.2] else []) ++ (if p.2 = x then [p.1] else [])
def adj (l : List Pr) (x : Int) : List Int := l.flatMap (adj1 x)
/-- Joined with v. -/
inductive Reach (l : List Pr) (v : Int) : Int → Prop
  | base : Reach l v v
  | step {x y : Int} : Reach l v x → y ∈ adj l x → Reach l v y
theorem Reach.trans {l : List Pr} {a b c : Int} (h : Reach l a b) (k : Reach l b c) : Reach l a c := by
  induction k with
  | base => exact h
  | step _ hy ih => exact ih.step hy

/-! ### The walk. -/
def Mid (l : List Pr) (M : List Int) (v : Int) (i : Nat) (Mi : List Int) : Prop :=
  (∀ x ∈ M, x ∈ Mi) ∧ v ∈ Mi ∧ (∀ x ∈ Mi, x ∈ M ∨ Reach l v x) ∧ (∀ x ∈ Mi, x ∉ M → x ≠ v → ∀ y ∈ adj l x, y ∈ Mi) ∧ (∀ y ∈ (adj l v).take i, y ∈ Mi) ∧ Mi.Nodup
def pst (n : Int) (s : List Int × Bool) (y : Int) : List Int × Bool := if s.2 = false ∧ n < y then (s.1 ++ [n] ++ [y], true) else (s.1 ++ [y], s.2)
def pfin (n : Int) (s : List Int × Bool) : List Int := if s.2 = true then s.1 else s.1 ++ [n]
def ins (l : List Int) (n : Int) : List Int := pfin n (l.foldl (pst n) ([], decide (n ∈ l)))
def insr (n : Int) : List Int → List Int
  | [] => [n]
  | y :: l => if n < y then n :: y :: l else y :: insr n l
theorem fold_done (n : Int) : ∀ (l o : List Int), l.foldl (pst n) (o, true) = (o ++ l, true)
  | [], o => by simp
  | y :: l, o => by
    rw [List.foldl_cons, show pst n (o, true) y = (o ++ [y], true) from by simp [pst], fold_done n l]
    simp
theorem fold_open (n : Int) : ∀ (l o : List Int), pfin n (l.foldl (pst n) (o, false)) = o ++ insr n l
  | [], o => by simp [pfin, insr]
  | y :: l, o => by
    rw [List.foldl_cons]
    unfold insr
    by_cases h : n < y
    · rw [show pst n (o, false) y = (o ++ [n] ++ [y], true) from by simp [pst, h], fold_done, if_pos h]
      simp [pfin]
    · rw [show pst n (o, false) y = (o ++ [y], false) from by simp [pst, h], fold_open n l, if_neg h]
      simp
theorem ins_there {l : List Int} {n : Int} (h : n ∈ l) : ins l n = l := by
  unfold ins
  rw [decide_eq_true h, fold_done]
  simp [pfin]
theorem ins_new {l : List Int} {n : Int} (h : n ∉ l) : ins l n = insr n l := by
  unfold ins
  rw [decide_eq_false h, fold_open]
  rfl
theorem mem_insr (n x : Int) : ∀ l : List Int, x ∈ insr n l ↔ x = n ∨ x ∈ l
  | [] => by simp [insr]
  | y :: l => by
    unfold insr
    split
    · simp
    · rw [List.mem_cons, mem_insr n x l, List.mem_cons]
      constructor
      · rintro (h | h | h) <;> simp [h]
      · rintro (h | h | h) <;> simp [h]
theorem mem_ins {l : List Int} {n x : Int} : x ∈ ins l n ↔ x = n ∨ x ∈ l := by
  by_cases h : n ∈ l
  · rw [ins_there h]
    exact ⟨.inr, fun k => k.elim (fun e => e ▸ h) id⟩
  · rw [ins_new h, mem_insr]
def mst (out : List Int) (p : Pr) : List Int := if p.1 ∈ out ∨ p.2 ∈ out then ins (ins out p.1) p.2 else out
def rnd (l : List Pr) (out : List Int) : List Int := l.foldl mst out
def itr (l : List Pr) (v : Int) : Nat → List Int
  | 0 => [v]
  | k + 1 => rnd l (itr l v k)
def members (l : List Pr) (v : Int) : List Int := itr l v l.length
end Go.Proofs.YtojiffhknddleaaGreatDoor.Gr
