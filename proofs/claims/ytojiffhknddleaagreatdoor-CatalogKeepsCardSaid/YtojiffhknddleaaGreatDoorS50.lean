/-
  What one call makes of a catalogue. Plain. It proves no statement by itself.
-/
import Derived.Test.YtojiffhknddleaaGreatDoorS44
namespace Go.Proofs.YtojiffhknddleaaGreatDoor
open Go.RowKit Go.Lib
set_option linter.unusedSimpArgs false
set_option linter.unusedVariables false
namespace Ca
open Md (Ver Br Nm)
variable {V V' : List Ver} {B B' : List Br}
/-- What CatalogKeeps' last act makes. -/
inductive Done (V : List Ver) (B : List Br) (v : Ver) (n : Int) (s : Nm) : Int → Int → List Ver → List Br → Prop
  | put : OkV v → Done V B v n s 0 0 (vput V v) B
  | noput : ¬ OkV v → Done V B v n s 0 1 V B
  | drop {e : Int} {V' : List Ver} : Md.drp V B n = (e, V') → Done V B v n s 1 e V' B
  | make {e : Int} {B' : List Br} : Md.mk V B s n = (e, B') → Done V B v n s 2 e V B'
  | move {e : Int} {B' : List Br} : mv V B s n = (e, B') → Done V B v n s 3 e V B'
  | none {m : Int} : m ≠ 0 → m ≠ 1 → m ≠ 2 → m ≠ 3 → Done V B v n s m 0 V B
theorem mk_cases {n : Nm} {id e : Int} (h : Md.mk V B n id = (e, B')) : (e ≠ 0 ∧ B' = B) ∨ (e = 0 ∧ B' = bins B n id) := by
  unfold Md.mk at h
  split at h
  · cases h; exact .inl ⟨by decide, rfl⟩
  · split at h
    · cases h; exact .inl ⟨by decide, rfl⟩
    · split at h
      · cases h; exact .inl ⟨by decide, rfl⟩
      · split at h
        · cases h; exact .inl ⟨by decide, rfl⟩
        · cases h; exact .inr ⟨rfl, rfl⟩
theorem mv_cases {n : Nm} {id e : Int} (h : mv V B n id = (e, B')) : (e ≠ 0 ∧ B' = B) ∨ (e = 0 ∧ B' = bset B n id) := by
  unfold mv at h
  split at h
  · cases h; exact .inl ⟨by decide, rfl⟩
  · split at h
    · cases h; exact .inl ⟨by decide, rfl⟩
    · cases h; exact .inr ⟨rfl, rfl⟩
theorem drp_cases {id e : Int} (h : Md.drp V B id = (e, V')) : (e ≠ 0 ∧ V' = V) ∨ (e = 0 ∧ V' = V.filter fun v => !decide (v.id = id)) := by
  unfold Md.drp at h
  split at h
  · cases h; exact .inl ⟨by decide, rfl⟩
  · split at h
    · cases h; exact .inl ⟨by decide, rfl⟩
    · cases h; exact .inr ⟨rfl, rfl⟩
theorem bins_len1 (B : List Br) (n : Nm) (id : Int) : (bins B n id).length = B.length + 1 := by
  unfold bins
  have := Md.bput_le B n
  simp only [List.length_append, List.length_take, List.length_cons, List.length_drop]
  omega
theorem mk_len {n : Nm} {id e : Int} (h : Md.mk V B n id = (e, B')) : B'.length ≤ B.length + 1 := by
  rcases mk_cases h with ⟨_, rfl⟩ | ⟨_, rfl⟩
  · omega
  · rw [bins_len1]; omega
variable {v : Ver} {n : Int} {s : Nm} {m g : Int}
theorem Done.same (d : Done V B v n s m g V' B') (h : g ≠ 0) : V' = V ∧ B' = B := by
  cases d with
  | put => exact absurd rfl h
  | noput => exact ⟨rfl, rfl⟩
  | drop e =>
    rcases drp_cases e with ⟨_, rfl⟩ | ⟨rfl, _⟩
    · exact ⟨rfl, rfl⟩
    · exact absurd rfl h
  | make e =>
    rcases mk_cases e with ⟨_, rfl⟩ | ⟨rfl, _⟩
    · exact ⟨rfl, rfl⟩
    · exact absurd rfl h
  | move e =>
    rcases mv_cases e with ⟨_, rfl⟩ | ⟨rfl, _⟩
    · exact ⟨rfl, rfl⟩
    · exact absurd rfl h
  | none => exact ⟨rfl, rfl⟩
theorem Done.len (d : Done V B v n s m g V' B') : V'.length ≤ V.length + 1 ∧ B'.length ≤ B.length + 1 := by
  cases d with
  | put => exact ⟨vput_len V v, by omega⟩
  | noput => exact ⟨by omega, by omega⟩
  | drop e =>
    rcases drp_cases e with ⟨_, rfl⟩ | ⟨_, rfl⟩
    · exact ⟨by omega, by omega⟩
    · exact ⟨by have := List.length_filter_le (fun v : Ver => !decide (v.id = n)) V; omega, by omega⟩
  | make e => exact ⟨by omega, mk_len e⟩
  | move e =>
    rcases mv_cases e with ⟨_, rfl⟩ | ⟨_, rfl⟩
    · exact ⟨by omega, by omega⟩
    · exact ⟨by omega, by unfold bset; simp⟩
  | none => exact ⟨by omega, by omega⟩
theorem Done.keepV {es : List Ky.En} (c : Cat es V' B') (d : Done V B v n s m g V' B') {x : Ver} (hx : x ∈ V) (hn : ¬ (g = 0 ∧ (m = 0 ∧ v.id = x.id ∨ m = 1 ∧ n = x.id))) : vat V' x.id = (x, 0) := by
  refine vat_mem c.riseV ?_
  cases d with
  | put => exact vput_keep hx fun e => hn ⟨rfl, .inl ⟨rfl, e.symm⟩⟩
  | noput => exact hx
  | drop e =>
    rcases drp_cases e with ⟨_, rfl⟩ | ⟨rfl, rfl⟩
    · exact hx
    · exact List.mem_filter.2 ⟨hx, by have : x.id ≠ n := fun e => hn ⟨rfl, .inr ⟨rfl, e.symm⟩⟩; simpa using this⟩
  | make => exact hx
  | move => exact hx
  | none => exact hx
theorem Done.keepB {es es' : List Ky.En} (c0 : Cat es V B) (c : Cat es' V' B') (d : Done V B v n s m g V' B') {b : Br} (hb : b ∈ B) : ∃ hd, hat B' b.name = (hd, 0) ∧ (¬ (g = 0 ∧ m = 3 ∧ s = b.name) → hd = b.head) := by
  cases d with
  | put => exact ⟨_, hat_mem c.riseB hb, fun _ => rfl⟩
  | noput => exact ⟨_, hat_mem c.riseB hb, fun _ => rfl⟩
  | drop => exact ⟨_, hat_mem c.riseB hb, fun _ => rfl⟩
  | none => exact ⟨_, hat_mem c.riseB hb, fun _ => rfl⟩
  | make e =>
    rcases mk_cases e with ⟨_, rfl⟩ | ⟨_, rfl⟩
    · exact ⟨_, hat_mem c.riseB hb, fun _ => rfl⟩
    · exact ⟨_, hat_mem c.riseB (bins_keep hb), fun _ => rfl⟩
  | move e =>
    rcases mv_cases e with ⟨_, rfl⟩ | ⟨rfl, rfl⟩
    · exact ⟨_, hat_mem c.riseB hb, fun _ => rfl⟩
    · rcases bset_keep c0.riseB (n := s) (h := n) hb with ⟨_, h⟩ | ⟨e1, h⟩
      · exact ⟨_, hat_mem c.riseB h, fun _ => rfl⟩
      · have := hat_mem c.riseB h
        exact ⟨n, by rw [e1]; exact this, fun hn => absurd ⟨rfl, rfl, e1.symm⟩ hn⟩
end Ca
end Go.Proofs.YtojiffhknddleaaGreatDoor
