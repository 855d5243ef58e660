/-
  A part of a proof. It proves no statement by itself.
-/
import Derived.Test.YtfknjmoekbabcaaGreatDoorA29
import Derived.Test.YtfknjmoekbabcaaGreatDoorA14
set_option linter.unusedSimpArgs false
set_option linter.unusedVariables false
set_option linter.unusedSectionVars false
set_option maxRecDepth 100000
set_option maxHeartbeats 64000000
namespace Go.Proofs.YtfknjmoekbabcaaGreatDoor
open Go.RowKit Go.Lib
section
variable {α : Type} {A : α → Asn} {B : Nat → α → Prop} {gi : Nat} {ci : Array Value} {step : α → Ky.En → α × Bool}
end
namespace Tb
open Ky
end Tb
section
variable {c : Cq} {r : Int} {L : Tb.Pg} {F : Asn} {w : World} {R : Ending → World → Prop}
end
namespace Ky
theorem zn1 {x y : Nm} (h : Md.nlt x y = true) : x ≠ y := fun e => by rw [e, zbk] at h; cases h
theorem xa4 (k v : Nm) : put [] k v = [(k, v)] := by simp [put, has, pos]
theorem xa3 (k w v : Nm) : put [(k, w)] k v = [(k, v)] := by simp [put, has, pos, zbk]
theorem xb8 (k : Nm) : del [] k = [] := by simp [del, has]
theorem xb7 (k w : Nm) : del [(k, w)] k = [] := by simp [del, has, pos, zbk]
theorem get_nil (k : Nm) : get [] k = none := by simp [get, has]
theorem xby (k w : Nm) : get [(k, w)] k = some w := by simp [get, has, pos, zbk]
theorem zox {l : List En} (hr : Right l) (key : Nm) : ∃ E1 Ec E2, l = E1 ++ (Ec ++ E2) ∧ (∀ x ∈ E1, Md.nlt x.1 key = true) ∧ (∀ x ∈ E2, Md.nlt key x.1 = true) ∧ (Ec = [] ∨ ∃ v, Ec = [(key, v)]) := by
 have ha : ∀ x ∈ l.take (pos key l), Md.nlt x.1 key = true := by
  intro x hx
  obtain ⟨j, hj, rfl⟩ := List.getElem_of_mem hx
  rw [List.length_take] at hj
  rw [List.getElem_take]
  exact zin (by omega) (by omega)
 by_cases hh : has key l = true
 ·obtain ⟨hl, hk⟩ := (zct hr).1 hh
  refine ⟨l.take (pos key l), [l[pos key l]], l.drop (pos key l + 1), ?_, ha, ?_, .inr ⟨(l[pos key l]).2, ?_⟩⟩
  ·rw [List.singleton_append, ← List.drop_eq_getElem_cons hl, List.take_append_drop]
  ·intro x hx
   obtain ⟨j, hj, rfl⟩ := List.getElem_of_mem hx
   rw [List.length_drop] at hj
   rw [List.getElem_drop]
   have := List.pairwise_iff_getElem.1 hr.2 (pos key l) (pos key l + 1 + j) hl (by omega) (by omega)
   rw [hk] at this
   exact this
  ·have : l[pos key l] = ((l[pos key l]).1, (l[pos key l]).2) := rfl
   rw [hk] at this
   rw [this]
 ·refine ⟨l.take (pos key l), [], l.drop (pos key l), ?_, ha, ?_, .inl rfl⟩
  ·rw [List.nil_append, List.take_append_drop]
  ·intro x hx
   have hx' := List.mem_of_mem_drop hx
   obtain ⟨j, hj, rfl⟩ := List.getElem_of_mem hx
   rw [List.length_drop] at hj
   rw [List.getElem_drop] at hx' ⊢
   have h1 := znz (key := key) hr (j := pos key l + j) (by omega) (by omega)
   cases h2 : Md.nlt key (l[pos key l + j]).1 with
   | true => rfl
   | false =>
    have e := zir h1 h2
    refine absurd ?_ hh
    unfold has
    rw [List.any_eq_true]
    exact ⟨_, hx', by simp [e]⟩
theorem zll {l : List En} {k v : Nm} {x : En} (hr : Right l) : x ∈ put l k v ↔ x = (k, v) ∨ (x ∈ l ∧ x.1 ≠ k) := by
 obtain ⟨E1, Ec, E2, rfl, h1, h2, h3⟩ := zox hr k
 rw [Tb.zuv h1 h2 hr]
 have hp : put Ec k v = [(k, v)] := by
  rcases h3 with rfl | ⟨w, rfl⟩
  ·exact xa4 _ _
  ·exact xa3 _ _ _
 rw [hp]
 simp only [List.mem_append, List.mem_singleton]
 constructor
 ·rintro (h | h | h)
  ·exact .inr ⟨.inl h, zn1 (h1 x h)⟩
  ·exact .inl h
  ·exact .inr ⟨.inr (.inr h), (zn1 (h2 x h)).symm⟩
 ·rintro (h | ⟨h | h | h, hne⟩)
  ·exact .inr (.inl h)
  ·exact .inl h
  ·exfalso
   rcases h3 with rfl | ⟨w, rfl⟩
   ·cases h
   ·rw [List.mem_singleton] at h; exact hne (by rw [h])
  ·exact .inr (.inr h)
theorem zu5 {l : List En} {k : Nm} {x : En} (hr : Right l) : x ∈ del l k ↔ x ∈ l ∧ x.1 ≠ k := by
 obtain ⟨E1, Ec, E2, rfl, h1, h2, h3⟩ := zox hr k
 rw [Tb.zvq h1 h2 hr]
 have hp : del Ec k = [] := by
  rcases h3 with rfl | ⟨w, rfl⟩
  ·exact xb8 _
  ·exact xb7 _ _
 rw [hp]
 simp only [List.mem_append, List.nil_append]
 constructor
 ·rintro (h | h)
  ·exact ⟨.inl h, zn1 (h1 x h)⟩
  ·exact ⟨.inr (.inr h), (zn1 (h2 x h)).symm⟩
 ·rintro ⟨h | h | h, hne⟩
  ·exact .inl h
  ·exfalso
   rcases h3 with rfl | ⟨w, rfl⟩
   ·cases h
   ·rw [List.mem_singleton] at h; exact hne (by rw [h])
  ·exact .inr h
theorem xbv {l : List En} {k : Nm} : has k l = true ↔ ∃ v, (k, v) ∈ l := by
 unfold has
 rw [List.any_eq_true]
 constructor
 ·rintro ⟨⟨a, b⟩, h, e⟩
  simp only [decide_eq_true_eq] at e
  exact ⟨b, e ▸ h⟩
 ·rintro ⟨v, h⟩
  exact ⟨_, h, by simp⟩
theorem get_mem {l : List En} {k v : Nm} (hr : Right l) : get l k = some v ↔ (k, v) ∈ l := by
 obtain ⟨E1, Ec, E2, rfl, h1, h2, h3⟩ := zox hr k
 rw [Tb.z1y h1 h2 hr]
 simp only [List.mem_append]
 have n1 : (k, v) ∉ E1 := fun h => zn1 (h1 _ h) rfl
 have n2 : (k, v) ∉ E2 := fun h => zn1 (h2 _ h) rfl
 rcases h3 with rfl | ⟨w, rfl⟩
 ·rw [get_nil]; simp [n1, n2]
 ·rw [xby]; simp [n1, n2, eq_comm]
theorem get_none {l : List En} {k : Nm} (hr : Right l) : get l k = none ↔ ∀ v, (k, v) ∉ l := by
 constructor
 ·intro h v hv
  rw [(get_mem hr).2 hv] at h
  cases h
 ·intro h
  cases e : get l k with
  | none => rfl
  | some v => exact absurd ((get_mem hr).1 e) (h v)
end Ky
namespace Sq
open Ky
structure Rep (es : List En) (M : Mp) (O : List En) : Prop where
 right : Right es
 okm : ∀ k n, M k = some n → OkT k
 okn : ∀ k n, M k = some n → OkN n
 mem : ∀ k v, OkT k → ((kk k, v) ∈ es ↔ ∃ n, M k = some n ∧ v = zhl n)
 other : ∀ x ∈ es, (∃ k, OkT k ∧ x.1 = kk k) ∨ x ∈ O
 sub : ∀ x ∈ O, x ∈ es
 apart : ∀ x ∈ O, ∀ k, x.1 ≠ kk k
def nope : Mp := fun _ => none
theorem xa1 {O : List En} (hr : Right O) (ha : ∀ x ∈ O, ∀ k, x.1 ≠ kk k) : Rep O nope O where
 right := hr
 okm := fun k n h => by cases h
 okn := fun k n h => by cases h
 mem := fun k v _ => ⟨fun h => absurd rfl (ha _ h k), fun ⟨n, h, _⟩ => by cases h⟩
 other := fun x hx => .inr hx
 sub := fun x hx => hx
 apart := ha
variable {es O : List En} {M : Mp}
theorem Rep.get (r : Rep es M O) {k : Tk} {n : Nd} (h : M k = some n) : Ky.get es (kk k) = some (zhl n) :=
 (get_mem r.right).2 ((r.mem k _ (r.okm k n h)).2 ⟨n, h, rfl⟩)
theorem Rep.get_none (r : Rep es M O) {k : Tk} (ok : OkT k) (h : M k = none) : Ky.get es (kk k) = none :=
 (Ky.get_none r.right).2 fun v hv => by
  obtain ⟨n, hn, _⟩ := (r.mem k v ok).1 hv
  rw [h] at hn
  cases hn
theorem Rep.has (r : Rep es M O) {k : Tk} (ok : OkT k) : Ky.has (kk k) es = true ↔ M k ≠ none := by
 rw [xbv]
 constructor
 ·rintro ⟨v, hv⟩
  obtain ⟨n, hn, _⟩ := (r.mem k v ok).1 hv
  rw [hn]
  simp
 ·intro h
  obtain ⟨n, hn⟩ := Option.ne_none_iff_exists'.1 h
  exact ⟨_, (r.mem k _ ok).2 ⟨n, hn, rfl⟩⟩
theorem Rep.put (r : Rep es M O) {k : Tk} (ok : OkT k) {n : Nd} (okn : OkN n) : Rep (Ky.put es (kk k) (zhl n)) (upd M k n) O where
 right := Tb.zla r.right (zr3 k n)
 okm := fun x y h => by
  by_cases e : x = k
  ·rw [e]; exact ok
  ·rw [upd_ne e] at h; exact r.okm x y h
 okn := fun x y h => by
  by_cases e : x = k
  ·subst e; rw [zkj] at h; cases h; exact okn
  ·rw [upd_ne e] at h; exact r.okn x y h
 mem := fun x v hx => by
  rw [zll r.right]
  by_cases e : x = k
  ·subst e
   rw [zkj]
   constructor
   ·rintro (h | ⟨_, h⟩)
    ·cases h; exact ⟨n, rfl, rfl⟩
    ·exact absurd rfl h
   ·rintro ⟨y, h, rfl⟩
    cases h
    exact .inl rfl
  ·rw [upd_ne e, ← r.mem x v hx]
   constructor
   ·rintro (h | ⟨h, _⟩)
    ·rw [Prod.mk.injEq] at h
     exact absurd (z1c hx.inT ok.inT h.1) e
    ·exact h
   ·intro h
    exact .inr ⟨h, fun h2 => e (z1c hx.inT ok.inT h2)⟩
 other := fun x hx => by
  rcases (zll r.right).1 hx with rfl | ⟨h, _⟩
  ·exact .inl ⟨k, ok, rfl⟩
  ·exact r.other x h
 sub := fun x hx => (zll r.right).2 (.inr ⟨r.sub x hx, r.apart x hx k⟩)
 apart := r.apart
def del (M : Mp) (k : Tk) : Mp := fun x => if x = k then none else M x
theorem zwz (M : Mp) (k : Tk) : del M k k = none := by unfold del; rw [if_pos rfl]
theorem z2h {k x : Tk} (h : x ≠ k) : del M k x = M x := by unfold del; rw [if_neg h]
theorem Rep.del (r : Rep es M O) {k : Tk} (ok : OkT k) : Rep (Ky.del es (kk k)) (del M k) O where
 right := Tb.zlb r.right
 okm := fun x y h => by
  by_cases e : x = k
  ·rw [e]; exact ok
  ·rw [z2h e] at h; exact r.okm x y h
 okn := fun x y h => by
  by_cases e : x = k
  ·subst e; rw [zwz] at h; cases h
  ·rw [z2h e] at h; exact r.okn x y h
 mem := fun x v hx => by
  rw [zu5 r.right]
  by_cases e : x = k
  ·subst e
   rw [zwz]
   constructor
   ·rintro ⟨_, h⟩; exact absurd rfl h
   ·rintro ⟨y, h, _⟩; cases h
  ·rw [z2h e, ← r.mem x v hx]
   exact ⟨fun h => h.1, fun h => ⟨h, fun h2 => e (z1c hx.inT ok.inT h2)⟩⟩
 other := fun x hx => r.other x ((zu5 r.right).1 hx).1
 sub := fun x hx => (zu5 r.right).2 ⟨r.sub x hx, r.apart x hx k⟩
 apart := r.apart
theorem Rep.over (r : Rep es M O) {k : Tk} (h : M k ≠ none) (n : Nd) : Ky.has (kk k) es = true ∧ ∀ x ∈ es, x.1 = kk k → (zhl n).size ≤ x.2.size := by
 obtain ⟨y, hy⟩ := Option.ne_none_iff_exists'.1 h
 have ok := r.okm k y hy
 refine ⟨(r.has ok).2 h, fun x hx e => ?_⟩
 obtain ⟨z, v⟩ := x
 simp only at e
 subst e
 obtain ⟨m, _, rfl⟩ := (r.mem k v ok).1 hx
 rw [zeb, zeb]
 exact Nat.le_refl _
end Sq
end Go.Proofs.YtfknjmoekbabcaaGreatDoor
