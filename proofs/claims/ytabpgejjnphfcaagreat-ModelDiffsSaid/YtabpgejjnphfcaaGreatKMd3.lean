/-
  Versions and branches, plain: what ModelDiffs and ModelStays rest on. No program in sight. It proves no statement by itself.
-/
import Derived.Test.YtabpgejjnphfcaaGreatKWS
import Derived.Test.YtabpgejjnphfcaaGreatKWP
namespace Go.Proofs.YtabpgejjnphfcaaGreat
set_option linter.unusedSimpArgs false
set_option linter.unusedVariables false
set_option linter.unusedSectionVars false
namespace Md
abbrev newN : Nm := ⟨#[110, 101, 119, 45, 111, 110, 101]⟩
theorem diff_no {S : St} {a b : Int} (h : aget S.vers a = none ∨ aget S.vers b = none) : mdo S ⟨8, ⟨#[]⟩, 0, 0, a, b⟩ = (S, { err := 190 }) := by
  rw [mdo_q _ _ (by simp)]
  unfold ask
  rw [if_pos (by rcases h with h | h <;> simp [h])]
  rfl
theorem diff_some {S : St} {a b : Int} {x y : Int × List Pr} (ha : aget S.vers a = some x) (hb : aget S.vers b = some y) : mdo S ⟨8, ⟨#[]⟩, 0, 0, a, b⟩ = (S, { changes := Eg.diff x.2 y.2 }) := by
  rw [mdo_q _ _ (by simp)]
  unfold ask vget
  rw [if_neg (by simp [ha, hb]), if_pos rfl]
  simp [ha, hb]
theorem diff_le (a b : List Pr) : (Eg.diff a b).length ≤ a.length + b.length := by
  rw [Eg.minus_len]
  have := Eg.minus_le a b
  have := Eg.minus_le b a
  omega
/-- What stands when so many changes were done on the new branch. -/
structure At (S U : St) (a : Int) (la lb : List Pr) (i : Nat) : Prop where
  vers : U.vers = S.vers
  next : U.next = S.next
  head : aget U.heads newN = some a
  nw : Md.now U newN = cur la lb i
theorem branch_new {j : Nat} {S : St} {a : Int} {x : Int × List Pr} (lb : List Pr) (hI : Inv j S) (h : aget S.vers a = some x) : mdo S ⟨5, newN, 0, 0, a, 0⟩ = (S, { err := 192 }) ∨ mdo S ⟨5, newN, 0, 0, a, 0⟩ = (S, { err := 195 }) ∨ ∃ U, mdo S ⟨5, newN, 0, 0, a, 0⟩ = (U, {}) ∧ At S U a x.2 lb 0 := by
  have hk : nameOk newN = true := by decide
  have hb : mdo S ⟨5, newN, 0, 0, a, 0⟩ = branch S ⟨5, newN, 0, 0, a, 0⟩ := by unfold mdo; rw [if_pos rfl]
  rw [hb]
  unfold branch
  rw [if_neg (by simp only [hk]; simp)]
  by_cases h1 : (aget S.heads newN).isSome = true
  · exact .inl (by rw [if_pos h1]; rfl)
  · rw [if_neg h1, if_neg (by simp [h])]
    by_cases h2 : 64 ≤ S.heads.length
    · exact .inr (.inl (by rw [if_pos h2]; rfl))
    · refine .inr (.inr ⟨{ S with heads := aput S.heads newN a }, by rw [if_neg h2], rfl, rfl, aget_put_same _ _ _, ?_⟩)
      have hp : aget S.pend newN = none := by
        cases e : aget S.pend newN with
        | none => rfl
        | some l => exact absurd (hI.pendK newN (by rw [e]; rfl)) h1
      unfold now
      simp only [hp]
      unfold vget hget
      simp only [aget_put_same, Option.getD_some, h]
      rfl
theorem At.step {S U : St} {a : Int} {la lb : List Pr} {i : Nat} (h : At S U a la lb i) (ha : Good la) (hb : Good lb) (hi : i < (Eg.diff la lb).length) :
    ∃ U', mdo U ⟨if (Eg.diff la lb)[i].2 then 1 else 2, newN, (Eg.diff la lb)[i].1.2, (Eg.diff la lb)[i].1.1, 0, 0⟩ = (U', {}) ∧ At S U' a la lb (i + 1) := by
  have hg : 0 ≤ (Eg.diff la lb)[i].1.1 ∧ (Eg.diff la lb)[i].1.1 < (Eg.diff la lb)[i].1.2 ∧ (Eg.diff la lb)[i].1.2 < 1048576 := by
    rcases diff_at hi with ⟨h1, _⟩ | ⟨_, h1, _⟩
    · exact ha.2 _ h1
    · exact hb.2 _ h1
  have hm := mdo_change (S := U) (n := newN) (o := ⟨if (Eg.diff la lb)[i].2 then 1 else 2, newN, (Eg.diff la lb)[i].1.2, (Eg.diff la lb)[i].1.1, 0, 0⟩) (p := (Eg.diff la lb)[i].1) (b := (Eg.diff la lb)[i].2)
    (by rw [h.head]; rfl) (by rw [h.nw]; exact cur_srt ha.1 i) hg (by rw [h.nw]; exact cur_there ha.1 hi) rfl rfl rfl rfl
  refine ⟨_, hm, h.vers, h.next, h.head, ?_⟩
  rw [now_put, h.nw, cur_step hi]
theorem At.tail {j : Nat} {S U : St} {a b : Int} {la : List Pr} {y : Int × List Pr} (h : At S U a la y.2 (Eg.diff la y.2).length) (ha : Eg.Srt la) (hb : Eg.Srt y.2) (hI : Inv j S) (hj : j ≤ 1000) (hy : aget S.vers b = some y) :
    ∃ U', mdo U ⟨3, newN, 0, 0, 0, 0⟩ = (U', { version := S.next }) ∧ mdo U' ⟨11, ⟨#[]⟩, 0, 0, S.next, 0⟩ = (U', { pairs := y.2 }) ∧ mdo U' ⟨11, ⟨#[]⟩, 0, 0, b, 0⟩ = (U', { pairs := y.2 }) := by
  have hn := hI.next
  have hbn := hI.ids b (by rw [hy]; rfl)
  have hnow : Md.now U newN = y.2 := by rw [h.nw]; exact cur_all ha hb
  have hc : (commit U newN).1 = { vers := aput U.vers S.next (hget U newN, y.2), heads := aput U.heads newN S.next, pend := adel U.pend newN, next := S.next + 1 } := by
    unfold commit
    rw [if_neg (by rw [h.next]; omega), hnow, h.next]
  refine ⟨(commit U newN).1, by rw [commit_some h.head (by rw [h.next]; omega), h.next], ?_, ?_⟩
  · rw [hc]
    exact mdo_edges (o := ⟨11, ⟨#[]⟩, 0, 0, S.next, 0⟩) rfl (x := (hget U newN, y.2)) (aget_put_same _ _ _)
  · rw [hc]
    refine mdo_edges (o := ⟨11, ⟨#[]⟩, 0, 0, b, 0⟩) rfl (x := y) ?_
    show aget (aput U.vers S.next (hget U newN, y.2)) b = some y
    rw [aget_put, if_neg (by omega), h.vers]
    exact hy
end Md
end Go.Proofs.YtabpgejjnphfcaaGreat
