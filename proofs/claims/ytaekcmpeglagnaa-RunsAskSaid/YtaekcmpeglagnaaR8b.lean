/-
  Sets of numbers as runs: lengths, and folds one step on. No program in sight. It proves no statement by itself.
-/
import Derived.Test.YtaekcmpeglagnaaR8
namespace Go.Proofs.Ytaekcmpeglagnaa
set_option linter.unusedSimpArgs false
set_option linter.unusedVariables false

namespace Rs
theorem fold_take {α β : Type} (f : β → α → β) (l : List α) (s : β) (k : Nat) (hk : k < l.length) : (l.take (k + 1)).foldl f s = f ((l.take k).foldl f s) l[k] := by
  rw [List.take_succ_eq_append_getElem hk, List.foldl_append]
  rfl
theorem pstep_len (s : Rn × List Rn × Bool) (y : Rn) : (pstep s y).2.1.length + (if (pstep s y).2.2 = true then 0 else 1) ≤ s.2.1.length + (if s.2.2 = true then 0 else 1) + 1 := by
  unfold pstep
  split
  · simp only [List.length_append, List.length_cons, List.length_nil]; omega
  · split
    · split
      · simp_all
      · simp_all
    · show s.2.1.length + (if s.2.2 = true then 0 else 1) ≤ _
      omega
theorem pfold_len : ∀ (l : List Rn) (s : Rn × List Rn × Bool), (l.foldl pstep s).2.1.length + (if (l.foldl pstep s).2.2 = true then 0 else 1) ≤ s.2.1.length + (if s.2.2 = true then 0 else 1) + l.length
  | [], s => Nat.le_refl _
  | y :: l, s => by
    have h1 := pfold_len l (pstep s y)
    have h2 := pstep_len s y
    rw [List.foldl_cons, List.length_cons]
    omega
theorem put_len (l : List Rn) (x : Rn) : (put l x).length ≤ l.length + 1 := by
  unfold put
  split
  · have h := pfold_len l (clip x, [], false)
    unfold pend
    split
    · simp_all; omega
    · simp_all; omega
  · omega
theorem pfold_ok : ∀ (l : List Rn) (s : Rn × List Rn × Bool), (∀ y ∈ l, Ok y) → Ok s.1 → Ok (l.foldl pstep s).1
  | [], s, _, h => h
  | y :: l, s, hl, h => by
    rw [List.foldl_cons]
    refine pfold_ok l _ (fun z hz => hl z (List.mem_cons_of_mem _ hz)) ?_
    obtain ⟨y0, y1, y2⟩ := hl y (List.mem_cons_self ..)
    unfold pstep
    split
    · exact h
    · split
      · split <;> exact h
      · obtain ⟨a, b, c⟩ := h
        exact ⟨by show 0 ≤ min s.1.1 y.1; omega, by show min s.1.1 y.1 ≤ max s.1.2 y.2; omega, by show max s.1.2 y.2 ≤ most; omega⟩
theorem nfold_len : ∀ (l s : List Rn), (l.foldl put s).length ≤ s.length + l.length
  | [], s => by simp
  | x :: l, s => by
    have h1 := nfold_len l (put s x)
    have h2 := put_len s x
    rw [List.foldl_cons, List.length_cons]
    omega
theorem norm_len (l : List Rn) : (norm l).length ≤ l.length := by
  have := nfold_len l []
  simpa [norm] using this
theorem canon_nfold (l : List Rn) : Canon (l.foldl put []) := (norm_key l [] canon_nil).1
/-! ### what is cut away -/
theorem put_empty (l : List Rn) (x : Rn) (h : ¬ (clip x).1 ≤ (clip x).2) : put l x = l := by unfold put; rw [if_neg h]
theorem cut1_len (r : Rn) (hr : Ok r) : ∀ (out next : List Rn), Canon out → (out.foldl (cut1 r) next).length ≤ next.length + out.length + (if ∃ o ∈ out, o.1 < r.1 ∧ r.2 < o.2 then 1 else 0)
  | [], next, _ => by simp
  | o :: out, next, h => by
    obtain ⟨ok, h1, h2⟩ := canon_cons.1 h
    have ih := cut1_len r hr out (cut1 r next o) h2
    have c1 : ∀ x : Rn, (clip x).1 = max x.1 0 := fun _ => rfl
    have c2 : ∀ x : Rn, (clip x).2 = min x.2 most := fun _ => rfl
    obtain ⟨o0, o1, o2⟩ := ok
    obtain ⟨r0, r1, r2⟩ := hr
    rw [List.foldl_cons, List.length_cons]
    by_cases hb : o.1 < r.1 ∧ r.2 < o.2
    · have hno : ¬ ∃ p ∈ out, p.1 < r.1 ∧ r.2 < p.2 := by
        rintro ⟨p, hp, q1, q2⟩
        have := h1 p hp
        omega
      rw [if_neg hno] at ih
      rw [if_pos ⟨o, List.mem_cons_self .., hb⟩]
      have l1 := put_len next (o.1, min o.2 (r.1 - 1))
      have l2 := put_len (put next (o.1, min o.2 (r.1 - 1))) (max o.1 (r.2 + 1), o.2)
      have : (cut1 r next o).length ≤ next.length + 2 := by unfold cut1; omega
      omega
    · have hc : (cut1 r next o).length ≤ next.length + 1 := by
        unfold cut1
        by_cases ha : o.1 < r.1
        · rw [put_empty _ (max o.1 (r.2 + 1), o.2) (by rw [c1, c2]; show ¬ max (max o.1 (r.2 + 1)) 0 ≤ min o.2 most; omega)]
          exact put_len _ _
        · rw [put_empty next (o.1, min o.2 (r.1 - 1)) (by rw [c1, c2]; show ¬ max o.1 0 ≤ min (min o.2 (r.1 - 1)) most; omega)]
          exact put_len _ _
      have : (if ∃ p ∈ out, p.1 < r.1 ∧ r.2 < p.2 then 1 else 0) ≤ (if ∃ p ∈ o :: out, p.1 < r.1 ∧ r.2 < p.2 then 1 else 0) := by
        by_cases he : ∃ p ∈ out, p.1 < r.1 ∧ r.2 < p.2
        · obtain ⟨p, hp, hq⟩ := he
          rw [if_pos ⟨p, hp, hq⟩, if_pos ⟨p, List.mem_cons_of_mem _ hp, hq⟩]
          exact Nat.le_refl _
        · rw [if_neg he]; omega
      omega
theorem clip_ok {b : Rn} (h : (clip b).1 ≤ (clip b).2) : Ok (clip b) := by
  have c1 : (clip b).1 = max b.1 0 := rfl
  have c2 : (clip b).2 = min b.2 most := rfl
  exact ⟨by omega, h, by omega⟩
theorem cut1_le (r : Rn) (hr : Ok r) (out : List Rn) (h : Canon out) : (out.foldl (cut1 r) []).length ≤ out.length + 1 := by
  have := cut1_len r hr out [] h
  have h2 : (if ∃ o ∈ out, o.1 < r.1 ∧ r.2 < o.2 then 1 else 0) ≤ 1 := by split <;> omega
  simp only [List.length_nil] at this
  omega
theorem cut_len (out : List Rn) (h : Canon out) (b : Rn) : (cut out b).length ≤ out.length + 1 := by
  unfold cut
  split
  · rename_i hb
    exact cut1_le _ (clip_ok hb) out h
  · omega
theorem cfold_len : ∀ (b out : List Rn), Canon out → (b.foldl cut out).length ≤ out.length + b.length
  | [], out, _ => by simp
  | x :: b, out, h => by
    have h1 := cfold_len b (cut out x) (cut_key h x).1
    have h2 := cut_len out h x
    rw [List.foldl_cons, List.length_cons]
    omega
theorem canon_cfold (a b : List Rn) : Canon (b.foldl cut (norm a)) := canon_minus a b
theorem minus_len (a b : List Rn) : (minus a b).length ≤ a.length + b.length := by
  have h1 := cfold_len b (norm a) (canon_norm a)
  have h2 := norm_len a
  unfold minus
  omega
theorem canon_take {l : List Rn} (h : Canon l) (k : Nat) : Canon (l.take k) := by
  have := List.take_append_drop k l
  rw [← this] at h
  exact (canon_append.1 h).1
theorem cut1_canon (r : Rn) {out : List Rn} (h : Canon out) : Canon (out.foldl (cut1 r) []) := (cut1_key r out [] h canon_nil).1
/-! ### the program's -/
theorem clips_take (l : List Rn) (k : Nat) (hk : k < l.length) : clips (l.take (k + 1)) = if (clip l[k]).1 ≤ (clip l[k]).2 then clips (l.take k) ++ [clip l[k]] else clips (l.take k) := by
  unfold clips
  rw [List.take_succ_eq_append_getElem hk, List.map_append, List.filter_append]
  by_cases h : (clip l[k]).1 ≤ (clip l[k]).2 <;> simp [h]
theorem clips_len (l : List Rn) : (clips l).length ≤ l.length := by
  unfold clips
  have := List.length_filter_le (fun r : Rn => decide (r.1 ≤ r.2)) (l.map clip)
  rw [List.length_map] at this
  exact this
theorem mstep_len (o : List Rn) (r : Rn) : (mstep o r).length ≤ o.length + 1 := by
  rcases List.eq_nil_or_concat o with rfl | ⟨o, c, rfl⟩
  · rw [mstep_nil]; simp
  · rw [List.concat_eq_append, mstep_snoc]
    split <;> simp
theorem mfold_len : ∀ (l s : List Rn), (l.foldl mstep s).length ≤ s.length + l.length
  | [], s => by simp
  | x :: l, s => by
    have h1 := mfold_len l (mstep s x)
    have h2 := mstep_len s x
    rw [List.foldl_cons, List.length_cons]
    omega
theorem mfold_canon {s : List Rn} (hs : ∀ r ∈ s, Ok r) (hp : s.Pairwise (fun a b => a.1 ≤ b.1)) (k : Nat) : Canon ((s.take k).foldl mstep []) := by
  refine (mfold_key (s.take k) [] (fun r hr => hs r (List.mem_of_mem_take hr)) ?_ canon_nil (by simp)).1
  have := List.take_append_drop k s
  rw [← this] at hp
  exact (List.pairwise_append.1 hp).1
theorem rst_len : ∀ (l : List Rn) (f : Int), (rst f l).length ≤ l.length + 1
  | [], f => by unfold rst; split <;> simp
  | r :: l, f => by
    have := rst_len l (r.2 + 1)
    unfold rst
    split <;> simp <;> omega
theorem rest_rst (l : List Rn) : rest l = rst 0 (norm l) := by
  unfold rest
  rw [rfold_rst]
  rfl
theorem rest_len (l : List Rn) : (rest l).length ≤ l.length + 1 := by
  have h1 := rst_len (norm l) 0
  have h2 := norm_len l
  rw [rest_rst]
  omega
theorem union_len (a b : List Rn) : (union a b).length ≤ a.length + b.length := by
  have := norm_len (a ++ b)
  rw [List.length_append] at this
  exact this
theorem meet_len (a b : List Rn) : (meet a b).length ≤ a.length + b.length + 3 := by
  have h1 := rest_len (union (rest a) (rest b))
  have h2 := union_len (rest a) (rest b)
  have h3 := rest_len a
  have h4 := rest_len b
  unfold meet
  omega
theorem pminus_len (a b : List Rn) : (pminus a b).length ≤ a.length + b.length + 4 := by
  have h1 := meet_len a (rest b)
  have h4 := rest_len b
  unfold pminus
  omega
theorem rstep_len (s : List Rn × Int) (r : Rn) : (rstep s r).1.length ≤ s.1.length + 1 := by
  unfold rstep
  simp only
  split <;> simp
theorem rfold_len : ∀ (l : List Rn) (s : List Rn × Int), (l.foldl rstep s).1.length ≤ s.1.length + l.length
  | [], s => by simp
  | x :: l, s => by
    have h1 := rfold_len l (rstep s x)
    have h2 := rstep_len s x
    rw [List.foldl_cons, List.length_cons]
    omega
theorem rfold_from : ∀ (l : List Rn) (s : List Rn × Int), (∀ r ∈ l, Ok r) → (0 ≤ s.2 ∧ s.2 ≤ most + 1) → 0 ≤ (l.foldl rstep s).2 ∧ (l.foldl rstep s).2 ≤ most + 1
  | [], s, _, h => h
  | x :: l, s, hl, h => by
    obtain ⟨a, b, c⟩ := hl x (List.mem_cons_self ..)
    rw [List.foldl_cons]
    exact rfold_from l _ (fun r hr => hl r (List.mem_cons_of_mem _ hr)) ⟨by show 0 ≤ x.2 + 1; omega, by show x.2 + 1 ≤ most + 1; omega⟩
/-- How many numbers the first runs of a list have is bounded. -/
theorem len_bound {l : List Rn} (h : Canon l) (k : Nat) : 0 ≤ len (l.take k) ∧ len (l.take k) ≤ most + 1 := by
  have e := len_below (l.take k) (canon_take h k)
  have hb : ∀ (p : Int → Bool) (N : Nat), below p N ≤ N := by
    intro p N
    induction N with
    | zero => exact Nat.le_refl _
    | succ N ih => unfold below; split <;> omega
  have := hb (fun n => decide (Mem n (l.take k))) 4294967296
  rw [e]
  have := most_def
  omega
theorem len_take (l : List Rn) (k : Nat) (hk : k < l.length) : len (l.take (k + 1)) = len (l.take k) + (l[k].2 - l[k].1 + 1) := by
  rw [List.take_succ_eq_append_getElem hk, len_append, len_cons]
  simp [len]
theorem has_take (l : List Rn) (n : Int) (k : Nat) (hk : k < l.length) : Has (l.take (k + 1)) n ↔ Has (l.take k) n ∨ (0 ≤ n ∧ n ≤ most ∧ l[k].1 ≤ n ∧ n ≤ l[k].2) := by
  unfold Has
  rw [List.take_succ_eq_append_getElem hk, mem_append, mem_one]
  constructor
  · rintro ⟨a, b, c | c⟩
    · exact .inl ⟨a, b, c⟩
    · exact .inr ⟨a, b, c⟩
  · rintro (⟨a, b, c⟩ | ⟨a, b, c⟩)
    · exact ⟨a, b, .inl c⟩
    · exact ⟨a, b, .inr c⟩
instance (l : List Rn) (n : Int) : Decidable (Has l n) := by unfold Has; infer_instance
end Rs
end Go.Proofs.Ytaekcmpeglagnaa
