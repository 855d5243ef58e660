/-
  What one call makes of a catalogue. Plain. It proves no statement by itself.
-/
import Derived.Test.YtojiffhknddleaaGreatDoorU42
import Derived.Test.YtojiffhknddleaaGreatDoorU46
namespace Go.Proofs.YtojiffhknddleaaGreatDoor
open Go.RowKit Go.Lib
set_option linter.unusedSimpArgs false
set_option linter.unusedVariables false
namespace Ca
open Md (Ver Br Nm)
variable {V V' : List Ver} {B B' : List Br}
/-- What CatalogKeeps' last act makes. -/
inductive Done (V : List Ver) (B : List Br) (v : Ver) (n : Int) (s : Nm) : Int → Int → List Ver → List Br → Prop
  | put : OkV v → Done V B v n s 0 0 (vput V v) B
  | noput : ¬ OkV v → Done V B v n s 0 1 V B
  | drop {e : Int} {V' : List Ver} : Md.drp V B n = (e, V') → Done V B v n s 1 e V' B
  | make {e : Int} {B' : List Br} : Md.mk V B s n = (e, B') → Done V B v n s 2 e V B'
  | move {e : Int} {B' : List Br} : mv V B s n = (e, B') → Done V B v n s 3 e V B'
  | none {m : Int} : m ≠ 0 → m ≠ 1 → m ≠ 2 → m ≠ 3 → Done V B v n s m 0 V B
theorem mk_cases {n : Nm} {id e : Int} (h : Md.mk V B n id = (e, B')) : (e ≠ 0 ∧ B' = B) ∨ (e = 0 ∧ B' = bins B n id) := by
  unfold Md.mk at h
  split at h
  · cases h; exact .inl ⟨by decide, rfl⟩
  · split at h
    · cases h; exact .inl ⟨by decide, rfl⟩
    · split at h
      · cases h; exact .inl ⟨by decide, rfl⟩
      · split at h
        · cases h; exact .inl ⟨by decide, rfl⟩
        · cases h; exact .inr ⟨rfl, rfl⟩
theorem mv_cases {n : Nm} {id e : Int} (h : mv V B n id = (e, B')) : (e ≠ 0 ∧ B' = B) ∨ (e = 0 ∧ B' = bset B n id) := by
  unfold mv at h
  split at h
  · cases h; exact .inl ⟨by decide, rfl⟩
  · split at h
    · cases h; exact .inl ⟨by decide, rfl⟩
    · cases h; exact .inr ⟨rfl, rfl⟩
theorem drp_cases {id e : Int} (h : Md.drp V B id = (e, V')) : (e ≠ 0 ∧ V' = V) ∨ (e = 0 ∧ V' = V.filter fun v => !decide (v.id = id)) := by
  unfold Md.drp at h
  split at h
  · cases h; exact .inl ⟨by decide, rfl⟩
  · split at h
    · cases h; exact .inl ⟨by decide, rfl⟩
    · cases h; exact .inr ⟨rfl, rfl⟩
theorem bins_len1 (B : List Br) (n : Nm) (id : Int) : (bins B n id).length = B.length + 1 := by
  unfold bins
  have := Md.bput_le B n
  simp only [List.length_append, List.length_take, List.length_cons, List.length_drop]
  omega
theorem mk_len {n : Nm} {id e : Int} (h : Md.mk V B n id = (e, B')) : B'.length ≤ B.length + 1 := by
  rcases mk_cases h with ⟨_, rfl⟩ | ⟨_, rfl⟩
  · omega
  · rw [bins_len1]; omega
variable {v : Ver} {n : Int} {s : Nm} {m g : Int}
theorem Done.same (d : Done V B v n s m g V' B') (h : g ≠ 0) : V' = V ∧ B' = B := by
  cases d with
  | put => exact absurd rfl h
  | noput => exact ⟨rfl, rfl⟩
  | drop e =>
    rcases drp_cases e with ⟨_, rfl⟩ | ⟨rfl, _⟩
    · exact ⟨rfl, rfl⟩
    · exact absurd rfl h
  | make e =>
    rcases mk_cases e with ⟨_, rfl⟩ | ⟨rfl, _⟩
    · exact ⟨rfl, rfl⟩
    · exact absurd rfl h
  | move e =>
    rcases mv_cases e with ⟨_, rfl⟩ | ⟨rfl, _⟩
    · exact ⟨rfl, rfl⟩
    · exact absurd rfl h
  | none => exact ⟨rfl, rfl⟩
theorem Done.len (d : Done V B v n s m g V' B') : V'.length ≤ V.length + 1 ∧ B'.length ≤ B.length + 1 := by
  cases d with
  | put => exact ⟨vput_len V v, by omega⟩
  | noput => exact ⟨by omega, by omega⟩
  | drop e =>
    rcases drp_cases e with ⟨_, rfl⟩ | ⟨_, rfl⟩
    · exact ⟨by omega, by omega⟩
    · exact ⟨by have := List.length_filter_le (fun v : Ver => !decide (v.id = n)) V; omega, by omega⟩
  | make e => exact ⟨by omega, mk_len e⟩
  | move e =>
    rcases mv_cases e with ⟨_, rfl⟩ | ⟨_, rfl⟩
    · exact ⟨by omega, by omega⟩
    · exact ⟨by omega, by unfold bset; simp⟩
  | none => exact ⟨by omega, by omega⟩
end Ca
end Go.Proofs.YtojiffhknddleaaGreatDoor

/-
  The catalogue's calls, as CatalogKeeps and CatalogDoes use them. It proves no statement by itself.
-/
namespace Go.Proofs.YtojiffhknddleaaGreatDoor
open Go.RowKit Go.Lib
set_option linter.unusedSimpArgs false
set_option linter.unusedVariables false
set_option linter.unusedSectionVars false
namespace Ca
def Pt (V : List Md.Ver) (v : Md.Ver) (e : Int) (V' : List Md.Ver) : Prop := (OkV v ∧ e = 0 ∧ V' = vput V v) ∨ (¬ OkV v ∧ e = 1 ∧ V' = V)
theorem Pt.len {V V' : List Md.Ver} {v : Md.Ver} {e : Int} (h : Pt V v e V') : V'.length ≤ V.length + 1 := by
  rcases h with ⟨_, _, rfl⟩ | ⟨_, _, rfl⟩
  · exact vput_len V v
  · omega
theorem Pt.done {V V' : List Md.Ver} {B : List Md.Br} {v : Md.Ver} {n : Int} {s : Ky.Nm} {e : Int} (h : Pt V v e V') : Done V B v n s 0 e V' B := by
  rcases h with ⟨a, rfl, rfl⟩ | ⟨a, rfl, rfl⟩
  · exact .put a
  · exact .noput a
end Ca
section
variable {a : Nat} {c : Cq} {F : Asn} {w : World} {R : Ending → World → Prop} {V : List Md.Ver} {B : List Md.Br} {q g : Nat}
/-- Put, whatever is put. -/
theorem kput_any (x1 x2 x3 x4 : Int) (hk : c.k.n ≤ 3000) (hg : g ≤ 240) (hq : 60 ≤ q) (hroom : Hid (30 + (Tb.most q g : Int) < c.k.room)) (H : Sat (KtAt a c V B q g * F) w)
    (hR : ∀ e V' w', Hid (Ca.Pt V ⟨x1, x2, x3, x4⟩ e V') → Sat (KtAt a c V' B (q + 19) (g + 1) * F) w' → Io w w' → R (.returned (.int .i64 e)) w') :
    Calls Tryz.prog 10 #[.pointer (some ⟨a, 0, none⟩), .agg #[.int .i64 x1, .int .i64 x2, .int .i64 x3, .int .i64 x4]] w R := by
  by_cases ok : Ca.OkV ⟨x1, x2, x3, x4⟩
  · exact kput_yes ⟨x1, x2, x3, x4⟩ ok hk hg hq hroom H fun w' H' I => hR _ _ w' (Lib.hid (.inl ⟨ok, rfl, rfl⟩)) H' I
  · exact kput_no ⟨x1, x2, x3, x4⟩ ok H fun w' H' I => hR _ _ w' (Lib.hid (.inr ⟨ok, rfl, rfl⟩)) (KtAt.mono (by omega) (by omega) H') I
theorem room_keeps {c : Cq} {k : Nat} (hc : Hid (c.k.n = 1500)) (hk : k ≤ 201) : Hid (30 + (Tb.most (60 + 19 * k) k : Int) < c.k.room) := Lib.hid (kroom hc.out (by
  unfold Tb.most
  have h1 : k / 11 + 2 ≤ 20 := by omega
  have h2 := Nat.mul_le_mul (show 60 + 19 * k ≤ 3879 by omega) h1
  omega))
theorem kk_put {k : Nat} (x1 x2 x3 x4 : Int) (hc : Hid (c.k.n = 1500)) (hk : k ≤ 201) (H : Sat (KtAt a c V B (60 + 19 * k) k * F) w)
    (hR : ∀ e V' w', Hid (Ca.Pt V ⟨x1, x2, x3, x4⟩ e V') → Sat (KtAt a c V' B (60 + 19 * (k + 1)) (k + 1) * F) w' → Io w w' → R (.returned (.int .i64 e)) w') :
    Calls Tryz.prog 10 #[.pointer (some ⟨a, 0, none⟩), .agg #[.int .i64 x1, .int .i64 x2, .int .i64 x3, .int .i64 x4]] w R :=
  kput_any x1 x2 x3 x4 (by have := hc.out; omega) (by omega) (by omega) (room_keeps hc hk) H hR
theorem kk_make {k : Nat} (n : Ky.Nm) (id : Int) (hc : Hid (c.k.n = 1500)) (hk : k ≤ 201) (ZN : Hid (n.size ≤ 1000)) (hl : Hid (V.length + B.length ≤ 1000)) (H : Sat (KtAt a c V B (60 + 19 * k) k * F) w)
    (hR : ∀ e B' w', Hid (Md.mk V B n id = (e, B')) → Sat (KtAt a c V B' (60 + 19 * (k + 1)) (k + 1) * F) w' → Io w w' → R (.returned (.int .i64 e)) w') :
    Calls Tryz.prog 11 #[.pointer (some ⟨a, 0, none⟩), .string n, .int .i64 id] w R :=
  kmake_any n id (Lib.hid rfl) ZN hl.out (by have := hc.out; omega) (by omega) (by omega) (room_keeps hc hk) H fun w' H' I => hR _ _ w' (Lib.hid rfl) H' I
theorem kk_move {k : Nat} (n : Ky.Nm) (id : Int) (hc : Hid (c.k.n = 1500)) (hk : k ≤ 201) (ZN : Hid (n.size ≤ 1000)) (hl : Hid (V.length + B.length ≤ 1000)) (H : Sat (KtAt a c V B (60 + 19 * k) k * F) w)
    (hR : ∀ e B' w', Hid (Ca.mv V B n id = (e, B')) → Sat (KtAt a c V B' (60 + 19 * (k + 1)) (k + 1) * F) w' → Io w w' → R (.returned (.int .i64 e)) w') :
    Calls Tryz.prog 19 #[.pointer (some ⟨a, 0, none⟩), .string n, .int .i64 id] w R :=
  kmove_any n id (Lib.hid rfl) ZN hl.out (by have := hc.out; omega) (by omega) (by omega) (room_keeps hc hk) H fun w' H' I => hR _ _ w' (Lib.hid rfl) H' I
theorem kk_drop {k : Nat} (id : Int) (hc : Hid (c.k.n = 1500)) (hk : k ≤ 201) (hl : Hid (V.length + B.length ≤ 1000)) (H : Sat (KtAt a c V B (60 + 19 * k) k * F) w)
    (hR : ∀ e V' w', Hid (Md.drp V B id = (e, V')) → Sat (KtAt a c V' B (60 + 19 * (k + 1)) (k + 1) * F) w' → Io w w' → R (.returned (.int .i64 e)) w') :
    Calls Tryz.prog 16 #[.pointer (some ⟨a, 0, none⟩), .int .i64 id] w R :=
  kdrop_any id (Lib.hid rfl) hl.out (by have := hc.out; omega) (by omega) (by omega) (room_keeps hc hk) H fun w' H' I => hR _ _ w' (Lib.hid rfl) (KtAt.mono (by omega) (by omega) H') I
end
end Go.Proofs.YtojiffhknddleaaGreatDoor
