/-
  Lists of pairs as sets: where a pair stands, or would stand; what goes in there, and what goes out. Plain. It proves no statement by itself.
-/
import Derived.Test.YtmacannchaalaaaE3
namespace Go.Proofs.Ytmacannchaalaaa
set_option linter.unusedSimpArgs false
set_option linter.unusedVariables false
namespace Eg
/-- How many stand ahead of p. -/
def cnt (p : Pr) : List Pr → Nat
  | [] => 0
  | q :: l => if less q p then cnt p l + 1 else 0
theorem cnt_le (p : Pr) : ∀ l, cnt p l ≤ l.length
  | [] => Nat.le_refl _
  | q :: l => by
    have := cnt_le p l
    unfold cnt
    split <;> simp <;> omega
theorem cnt_ahead (p : Pr) : ∀ (l : List Pr) (j : Nat) (h : j < cnt p l) (hl : j < l.length), less l[j] p = true
  | [], j, h, hl => absurd hl (by simp)
  | q :: l, j, h, hl => by
    unfold cnt at h
    split at h
    · rename_i hq
      cases j with
      | zero => exact hq
      | succ j => exact cnt_ahead p l j (by omega) (by simpa using hl)
    · omega
theorem cnt_behind (p : Pr) : ∀ (l : List Pr), Srt l → ∀ (j : Nat) (h : cnt p l ≤ j) (hl : j < l.length), less l[j] p = false
  | [], _, j, h, hl => absurd hl (by simp)
  | q :: l, hs, j, h, hl => by
    obtain ⟨h1, h2⟩ := Srt.cons.1 hs
    unfold cnt at h
    split at h
    · cases j with
      | zero => omega
      | succ j => exact cnt_behind p l h2 j (by omega) (by simpa using hl)
    · rename_i hq
      cases j with
      | zero => simpa using hq
      | succ j =>
        cases k : less (q :: l)[j + 1] p with
        | false => rfl
        | true =>
          have hm : l[j]'(by simpa using hl) ∈ l := List.getElem_mem _
          have := less_trans (h1 _ hm) k
          simp [this] at hq
/-- Such a place is the only one. -/
theorem cnt_unique {p : Pr} {l : List Pr} (hs : Srt l) {c : Nat} (hc : c ≤ l.length) (h1 : ∀ j (hl : j < l.length), j < c → less l[j] p = true) (h2 : ∀ j (hl : j < l.length), c ≤ j → less l[j] p = false) : c = cnt p l := by
  have a := cnt_ahead p l
  have b := cnt_behind p l hs
  have n := cnt_le p l
  rcases Nat.lt_trichotomy c (cnt p l) with k | k | k
  · have e1 := a c k (by omega)
    have e2 := h2 c (by omega) (Nat.le_refl _)
    rw [e1] at e2
    cases e2
  · exact k
  · have e1 := b (cnt p l) (Nat.le_refl _) (by omega)
    have e2 := h1 (cnt p l) (by omega) k
    rw [e1] at e2
    cases e2
theorem there_iff {p : Pr} {l : List Pr} (hs : Srt l) : p ∈ l ↔ ∃ h : cnt p l < l.length, l[cnt p l] = p := by
  constructor
  · intro hp
    obtain ⟨j, hj, e⟩ := List.getElem_of_mem hp
    have h1 : ¬ j < cnt p l := fun k => by have := cnt_ahead p l j k hj; rw [e, less_irrefl] at this; cases this
    have h2 : ¬ cnt p l < j := fun k => by
      have x := (List.pairwise_iff_getElem.1 hs) (cnt p l) j (by omega) hj k
      rw [e] at x
      rw [cnt_behind p l hs (cnt p l) (Nat.le_refl _) (by omega)] at x
      cases x
    have : j = cnt p l := by omega
    subst this
    exact ⟨hj, e⟩
  · rintro ⟨h, e⟩
    rw [← e]
    exact List.getElem_mem h
theorem ins_at (p : Pr) : ∀ l, Srt l → p ∉ l → ins p l = l.take (cnt p l) ++ p :: l.drop (cnt p l)
  | [], _, _ => rfl
  | q :: l, hs, hp => by
    obtain ⟨h1, h2⟩ := Srt.cons.1 hs
    have hpl : p ∉ l := fun k => hp (List.mem_cons_of_mem _ k)
    have hpq : p ≠ q := fun e => hp (e ▸ List.mem_cons_self ..)
    unfold ins cnt
    by_cases k : less p q = true
    · rw [if_pos k, if_neg (by rw [less_asym k]; simp)]
      rfl
    · have k2 : less q p = true := by
        cases e : less q p with
        | true => rfl
        | false => exact absurd (less_total (by simpa using k) e) hpq
      rw [if_neg k, if_pos k2, ins_at p l h2 hpl]
      rfl
theorem without_at (p : Pr) : ∀ l, Srt l → p ∈ l → without l p = l.take (cnt p l) ++ l.drop (cnt p l + 1)
  | [], _, h => absurd h (by simp)
  | q :: l, hs, hp => by
    obtain ⟨h1, h2⟩ := Srt.cons.1 hs
    unfold cnt
    by_cases e : q = p
    · subst e
      rw [if_neg (by rw [less_irrefl]; simp)]
      have hn : q ∉ l := fun k => by have := h1 q k; rw [less_irrefl] at this; cases this
      show (q :: l).filter _ = _
      rw [List.filter_cons_of_neg (by simp)]
      simp only [List.take_zero, List.nil_append, Nat.zero_add, List.drop_succ_cons, List.drop_zero]
      rw [List.filter_eq_self]
      intro x hx
      simp
      rintro rfl
      exact hn hx
    · have hp' : p ∈ l := by
        rcases List.mem_cons.1 hp with k | k
        · exact absurd k.symm e
        · exact k
      rw [if_pos (h1 p hp')]
      show (q :: l).filter _ = _
      rw [List.filter_cons_of_pos (by simpa using e)]
      have := without_at p l h2 hp'
      unfold without at this
      rw [this]
      rfl
theorem put_at {p : Pr} {l : List Pr} (hs : Srt l) (hp : p ∉ l) : put l p = l.take (cnt p l) ++ p :: l.drop (cnt p l) := by
  unfold put
  rw [if_neg hp, ins_at p l hs hp]
theorem put_same {p : Pr} {l : List Pr} (hp : p ∈ l) : put l p = l := by unfold put; rw [if_pos hp]
theorem without_same {p : Pr} {l : List Pr} (hp : p ∉ l) : without l p = l := by
  unfold without
  rw [List.filter_eq_self]
  intro x hx
  simp
  rintro rfl
  exact hp hx
theorem minus_len (a b : List Pr) : (diff a b).length = (minus a b).length + (minus b a).length := by
  unfold diff
  rw [List.length_map]
  have nd : ∀ {l : List Pr}, Srt l → l.Nodup := fun {l} h => List.Pairwise.imp (fun {x y} k e => by subst e; rw [less_irrefl] at k; cases k) h
  have p : (sort (minus a b ++ minus b a)).Perm (minus a b ++ minus b a) := by
    refine (List.perm_ext_iff_of_nodup (nd (srt_sort _)) ?_).2 fun x => mem_sort _ x
    rw [List.nodup_append]
    refine ⟨nd (srt_minus _ _), nd (srt_minus _ _), fun x hx y hy e => ?_⟩
    subst e
    exact ((mem_minus b a x).1 hy).2 ((mem_minus a b x).1 hx).1
  rw [p.length_eq, List.length_append]
theorem diff_none (a : List Pr) : diff a a = [] := by
  have : (minus a a) = [] := by
    apply List.eq_nil_iff_forall_not_mem.2
    intro x hx
    have := (mem_minus a a x).1 hx
    exact this.2 this.1
  unfold diff
  rw [this]
  rfl
/-- Two steps. -/
theorem diff_steps (a b c : List Pr) : apply a (diff a b ++ diff b c) = sort c := by
  have e : apply a (diff a b ++ diff b c) = (diff b c).foldl one (apply a (diff a b)) := by unfold apply; rw [List.foldl_append]
  rw [e, diff_there]
  exact diff_there b c
theorem sort_both {a b : List Pr} (h : ∀ x, x ∈ a ↔ x ∈ b) : sort a = sort b := sort_of (srt_sort a) fun x => by rw [mem_sort, h]
end Eg
end Go.Proofs.Ytmacannchaalaaa
