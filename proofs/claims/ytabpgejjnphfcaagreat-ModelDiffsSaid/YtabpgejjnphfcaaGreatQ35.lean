/-
  The model of the index: Same (the maps held against one another), by walks. It proves no statement by itself.
-/
import Derived.Test.YtabpgejjnphfcaaGreatQ26
import Derived.Test.YtabpgejjnphfcaaGreatQ32
namespace Go.Proofs.YtabpgejjnphfcaaGreat
open Go.RowKit Go.Lib Go.MapKept
open Md (Nm St)
set_option linter.unusedSimpArgs false
set_option linter.unusedVariables false
set_option linter.unusedSectionVars false
section
variable {κ ν μ : Type} [DecidableEq κ]
theorem sub_back : ∀ {a b : List κ}, a.Nodup → (∀ x ∈ a, x ∈ b) → b.length ≤ a.length → ∀ x ∈ b, x ∈ a
  | [], b, _, _, hl, x, hx => by
    have : b = [] := List.eq_nil_of_length_eq_zero (by simpa using hl)
    subst this; cases hx
  | a :: t, b, hn, hs, hl, x, hx => by
    rw [List.nodup_cons] at hn
    have ha : a ∈ b := hs a (List.mem_cons_self ..)
    have h1 : ∀ y ∈ t, y ∈ b.erase a := fun y hy => by
      have hne : y ≠ a := fun e => hn.1 (e ▸ hy)
      exact (List.mem_erase_of_ne hne).2 (hs y (List.mem_cons_of_mem _ hy))
    have h2 : (b.erase a).length ≤ t.length := by
      rw [List.length_erase_of_mem ha]
      simp at hl
      omega
    by_cases e : x = a
    · rw [e]; exact List.mem_cons_self ..
    · exact List.mem_cons_of_mem _ (sub_back hn.2 h1 h2 x ((List.mem_erase_of_ne e).2 hx))
theorem aget_isSome {l : List (κ × ν)} {k : κ} : (aget l k).isSome = true ↔ k ∈ l.map (·.1) := by
  cases h : aget l k with
  | none =>
    rw [aget_none] at h
    simp only [Option.isSome_none, List.mem_map, false_iff, Bool.false_eq_true]
    rintro ⟨p, hp, rfl⟩
    exact h p hp rfl
  | some v => exact ⟨fun _ => List.mem_map.2 ⟨_, aget_mem h, rfl⟩, fun _ => rfl⟩
/-- Two maps say the same (through f, g). -/
theorem maps_same {l : List (κ × ν)} {m : List (κ × ν)} {f : ν → μ} (hl : (l.map (·.1)).Nodup) (hm : (m.map (·.1)).Nodup) :
    (l.length = m.length ∧ ∀ p ∈ l, (aget m p.1).map f = some (f p.2)) ↔ ∀ k, (aget l k).map f = (aget m k).map f := by
  constructor
  · rintro ⟨h1, h2⟩ k
    cases h : aget l k with
    | some v => exact (h2 (k, v) (aget_mem h)).symm
    | none =>
      cases h' : aget m k with
      | none => rfl
      | some u =>
        have hsub : ∀ x ∈ l.map (·.1), x ∈ m.map (·.1) := by
          intro x hx
          obtain ⟨p, hp, rfl⟩ := List.mem_map.1 hx
          have := h2 p hp
          rw [← aget_isSome]
          cases e : aget m p.1 with
          | none => rw [e] at this; cases this
          | some _ => rfl
        have hk : k ∈ m.map (·.1) := by rw [← aget_isSome, h']; rfl
        have := sub_back hl hsub (by simp [h1]) k hk
        rw [← aget_isSome, h] at this
        cases this
  · intro h
    refine ⟨?_, fun p hp => ?_⟩
    · have e : ∀ x, x ∈ l.map (·.1) ↔ x ∈ m.map (·.1) := fun x => by
        rw [← aget_isSome, ← aget_isSome]
        have := congrArg Option.isSome (h x)
        simp only [Option.isSome_map] at this
        rw [this]
      have := ((List.perm_ext_iff_of_nodup hl hm).2 e).length_eq
      simpa using this
    · rw [← h p.1, aget_of_mem hl hp]
      rfl
end
section
variable {F : Asn} {w : World} {R : Ending → World → Prop}
set_option maxRecDepth 100000 in
set_option maxHeartbeats 4000000 in
theorem equalH_any {a b : Nat} {l m : List (Nm × Int)} (hl : l.length ≤ 1000000) (hm : m.length ≤ 1000000) (H : Sat (MapAt ekS ekI a l * (MapAt ekS ekI b m * F)) w) {d : Bool} (hd : Hid (d = true ↔ ∀ n, aget l n = aget m n))
    (hh : ∀ w', Sat (MapAt ekS ekI a l * (MapAt ekS ekI b m * F)) w' → Io w w' → R (.returned (.bool d)) w') :
    Calls Tryz.prog 40 #[.map (some a), .map (some b)] w R := by
  have HH := Lib.hid hh
  clear hh
  have H2 : Sat (MapAt ekS ekI b m * (MapAt ekS ekI a l * F)) w := H.of_eq (by ac_rfl)
  have hsame := maps_same (f := fun x : Int => x) (keys_nodup H) (keys_nodup H2)
  simp only [Option.map_id'] at hsame
  have HD : Hid (d = true ↔ (l.length = m.length ∧ ∀ p ∈ l, aget m p.1 = some p.2)) := Lib.hid (by rw [hd.out, hsame])
  clear hsame hd
  have e1 := run_len_map (P := Tryz.prog) Tryz.underlying71 H 3
  have e2 := run_len_map (P := Tryz.prog) Tryz.underlying71 H2 3
  by_cases hn : l.length = m.length
  · have hni : (l.length : Int) = (m.length : Int) := by omega
    go_enter Tryz.func40, Tryz.ntmps40
    go_wp2_with (at_range; refine wpList_range_sl Tryz.underlying71 rfl (.tmp 14) rfl rfl H ?_; intro w4 H4 I4)
    go_frame
    clear e1 e2 H2
    generalize w.heap.size = rb at *
    go_loopw [16] (fun _ wr => ∃ left : List (Nm × Int), Hid ((∀ p ∈ left, p ∈ l) ∧ ∀ p ∈ l, p ∈ left ∨ aget m p.1 = some p.2) ∧ Sat (Ranging ekS ekI a rb l left none * (MapAt ekS ekI b m * F)) wr ∧ Io w wr) (fun _ wr => rngLeft a rb wr)
    case atStart => exact ⟨l, Lib.hid ⟨fun _ h => h, fun _ h => .inl h⟩, H4, I4⟩
    case round =>
      obtain ⟨left, hl, Hk, Ik⟩ := hrel
      clear H4 I4 H
      have hm := rngLeft_eq Hk
      go_wp2_with (at_next; refine wpList_next_sl rfl (.tmp 15) rfl rfl Hk ?_ ?_)
      · intro h0
        subst h0
        have hdt : d = true := by
          rw [HD.out]
          exact ⟨hn, fun p hp => by rcases hl.out.2 p hp with h | h; cases h; exact h⟩
        subst hdt
        go_wp2_with fail
        exact HH.out _ (Ranging.stop Hk) Ik
      · intro l1 nm hv l2 w5 e5 H5 I5
        have e6 := run_entry (P := Tryz.prog) H5
        have hm5 := rngLeft_eq H5
        have M5 : Sat (MapAt ekS ekI b m * (Ranging ekS ekI a rb l (l1 ++ l2) (some (nm, hv)) * F)) w5 := H5.of_eq (by ac_rfl)
        have e7 := run_lookup (P := Tryz.prog) (T := 71) strKey Tryz.underlying71 Tryz.underlying9 (Tryz.zeroInt w5) M5 nm true
        simp only [if_true] at e7
        have hin : (nm, hv) ∈ l := hl.out.1 _ (by rw [e5]; simp)
        obtain ⟨q, hq⟩ : ∃ q, q = aget m nm := ⟨_, rfl⟩
        rw [← hq] at e7
        have HQ := Lib.hid hq
        clear hq
        cases q with
        | none =>
          have hdf : d = false := by
            cases d with
            | false => rfl
            | true =>
              have := (HD.out.1 rfl).2 _ hin
              rw [← HQ.out] at this
              cases this
          subst hdf
          simp only [Option.map_none, Option.getD_none, Option.isSome_none] at e7
          clear hm hm5 hl HD
          go_wp2_with fail
          exact HH.out _ (Ranging.stop H5) (Ik.trans I5)
        | some u =>
          simp only [Option.map_some, Option.getD_some, Option.isSome_some] at e7
          by_cases hu : hv = u
          · have HL : Hid ((∀ p ∈ l1 ++ l2, p ∈ l) ∧ ∀ p ∈ l, p ∈ l1 ++ l2 ∨ aget m p.1 = some p.2) := Lib.hid (by
              refine ⟨fun p hp => hl.out.1 p (by rw [e5]; simp at hp ⊢; rcases hp with h | h <;> simp [h]), fun p hp => ?_⟩
              rcases hl.out.2 p hp with h | h
              · rw [e5] at h
                simp only [List.mem_append, List.mem_cons] at h ⊢
                rcases h with h | rfl | h
                · exact .inl (.inl h)
                · right; rw [← HQ.out, hu]
                · exact .inl (.inr h)
              · exact .inr h)
            have hmm : rngLeft a rb w5 < rngLeft a rb wr := by rw [hm, hm5, e5]; simp
            clear hl hm hm5 HD
            subst hu
            go_wp2_with fail
            go_roundw
            case rel => exact ⟨l1 ++ l2, HL, Ranging.forget H5, Ik.trans I5⟩
            case measure => exact hmm
          · have hdf : d = false := by
              cases d with
              | false => rfl
              | true =>
                have := (HD.out.1 rfl).2 _ hin
                rw [← HQ.out] at this
                cases this
                exact absurd rfl hu
            subst hdf
            clear hm hm5 hl HD
            go_wp2_with fail
            exact HH.out _ (Ranging.stop H5) (Ik.trans I5)
  · have hni : ¬ (l.length : Int) = (m.length : Int) := by omega
    have hdf : d = false := by
      cases d with
      | false => rfl
      | true => exact absurd (HD.out.1 rfl).1 hn
    subst hdf
    go_enter Tryz.func40, Tryz.ntmps40
    go_wp2_with fail
    exact HH.out _ H (Io.refl _)
end
end Go.Proofs.YtabpgejjnphfcaaGreat

/-
  The model of the index: Same, by its walk. It proves no statement by itself.
-/
namespace Go.Proofs.YtabpgejjnphfcaaGreat
open Go.RowKit Go.Lib Go.MapKept
open Md (Nm St)
set_option linter.unusedSimpArgs false
set_option linter.unusedVariables false
set_option linter.unusedSectionVars false
section
variable {F : Asn} {w : World} {R : Ending → World → Prop} {p : Pl}
set_option maxRecDepth 100000 in
set_option maxHeartbeats 4000000 in
theorem same1_any (x y : Int) {v u : Value} {l m : List Pr} (hv : ReadsP F v l) (hu : ReadsP F u m) {d : Bool} (hd : Hid (d = (decide (x = y) && decide (l = m)))) (H : Sat F w) (hh : ∀ w', Sat F w' → Io w w' → R (.returned (.bool d)) w') :
    Calls Tryz.prog 44 #[.agg #[.int .i64 x, v], .agg #[.int .i64 y, u]] w R := by
  have HH := Lib.hid hh
  clear hh
  obtain ⟨a, c, rfl, hm⟩ := readsP_len hv
  obtain ⟨a', c', rfl, hm'⟩ := readsP_len hu
  have H2 : Sat F ((w.alloc (.cells #[.int .i64 x, .slice a l.length c] 69)).alloc (.cells #[.int .i64 y, .slice a' m.length c'] 69)) := (H.alloc _).alloc _
  have I2 : Io w ((w.alloc (.cells #[.int .i64 x, .slice a l.length c] 69)).alloc (.cells #[.int .i64 y, .slice a' m.length c'] 69)) := ((Io.refl w).alloc _).alloc _
  by_cases hxy : x = y
  · subst hxy
    obtain ⟨q, hq⟩ : ∃ q, q = decide (l = m) := ⟨_, rfl⟩
    have HQ := Lib.hid hq
    have hdq : d = q := by rw [hd.out, hq]; simp
    clear hd hq
    subst hdq
    go_enter Tryz.func44, Tryz.ntmps44
    go_wp2_with (go_at_call 41; with_reducible refine equal_any hv hu HQ H2 ?_; intro w3 H3 I3)
    exact HH.out _ H3 (I2.trans I3)
  · have hdf : d = false := by rw [hd.out]; simp [hxy]
    clear hd
    subst hdf
    go_enter Tryz.func44, Tryz.ntmps44
    go_wp2_with fail
    exact HH.out _ H2 I2
abbrev VL := List (Int × (Int × Value × List Pr))
/-- All rows of a list of versions are held. -/
def HeldV (p : Pl) (l : VL) : Prop := ∀ x ∈ l, Held p x.2.2.1 x.2.2.2 ∧ x.2.2.2.length ≤ 1000000
set_option maxRecDepth 100000 in
set_option maxHeartbeats 8000000 in
theorem equalV_any {a b : Nat} {l m : VL} (hl0 : l.length ≤ 1000000) (hm0 : m.length ≤ 1000000) (kl : HeldV p l) (km : HeldV p m) (H : Sat (MapAt ekI evV a l * (MapAt ekI evV b m * (Pool p * F))) w) {d : Bool} (hd : Hid (d = true ↔ ∀ n, (aget l n).map fV = (aget m n).map fV))
    (hh : ∀ w', Sat (MapAt ekI evV a l * (MapAt ekI evV b m * (Pool p * F))) w' → Io w w' → R (.returned (.bool d)) w') :
    Calls Tryz.prog 43 #[.map (some a), .map (some b), .func (.func 44) #[] #[]] w R := by
  have HH := Lib.hid hh
  clear hh
  have H2 : Sat (MapAt ekI evV b m * (MapAt ekI evV a l * (Pool p * F))) w := H.of_eq (by ac_rfl)
  have hsame := maps_same (f := fV) (keys_nodup H) (keys_nodup H2)
  have HD : Hid (d = true ↔ (l.length = m.length ∧ ∀ p ∈ l, (aget m p.1).map fV = some (fV p.2))) := Lib.hid (by rw [hd.out, hsame])
  have KL := Lib.hid kl
  have KM := Lib.hid (fun n x (h : aget m n = some x) => km _ (aget_mem h))
  clear hsame hd kl km
  have e1 := run_len_map (P := Tryz.prog) Tryz.underlying70 H 3
  have e2 := run_len_map (P := Tryz.prog) Tryz.underlying70 H2 3
  have eg : ∀ args w, (callFunc 44 args).run Tryz.prog w = .ok (.enter 44 args) w := enters_of Tryz.func44 (by kernel_rfl) rfl
  by_cases hn : l.length = m.length
  · have hni : (l.length : Int) = (m.length : Int) := by omega
    go_enter Tryz.func43, Tryz.ntmps43
    go_wp2_with (at_range; refine wpList_range_sl Tryz.underlying70 rfl (.tmp 16) rfl rfl H ?_; intro w4 H4 I4)
    try go_frame
    clear e1 e2 H2
    generalize w.heap.size = rb at *
    go_loopw [18] (fun _ wr => ∃ left : VL, Hid ((∀ p ∈ left, p ∈ l) ∧ ∀ p ∈ l, p ∈ left ∨ (aget m p.1).map fV = some (fV p.2)) ∧ Sat (Ranging ekI evV a rb l left none * (MapAt ekI evV b m * (Pool p * F))) wr ∧ Io w wr) (fun _ wr => rngLeft a rb wr)
    case atStart => exact ⟨l, Lib.hid ⟨fun _ h => h, fun _ h => .inl h⟩, H4, I4⟩
    case round =>
      obtain ⟨left, hl, Hk, Ik⟩ := hrel
      clear H4 I4 H
      have hm := rngLeft_eq Hk
      go_wp2_with (at_next; refine wpList_next_sl rfl (.tmp 17) rfl rfl Hk ?_ ?_)
      · intro h0
        subst h0
        have hdt : d = true := by
          rw [HD.out]
          exact ⟨hn, fun p hp => by rcases hl.out.2 p hp with h | h; cases h; exact h⟩
        subst hdt
        go_wp2_with fail
        exact HH.out _ (Ranging.stop Hk) Ik
      · intro l1 id pa va la l2 w5 e5 H5 I5
        have hm5 := rngLeft_eq H5
        have hin : (id, pa, va, la) ∈ l := hl.out.1 _ (by rw [e5]; simp)
        obtain ⟨xa, xc, hva⟩ := (KL.out _ hin).1.slice H5.right.right
        simp only at hva
        subst hva
        have e6 := run_entry (P := Tryz.prog) H5
        have HK1 := Lib.hid (KL.out _ hin)
        have M5 : Sat (MapAt ekI evV b m * (Ranging ekI evV a rb l (l1 ++ l2) (some (id, pa, .slice xa la.length xc, la)) * (Pool p * F))) (w5.alloc (.cells #[.int .i64 pa, .slice xa la.length xc] 69)) := (H5.alloc _).of_eq (by ac_rfl)
        have e7 := run_lookup (P := Tryz.prog) (T := 70) intKey Tryz.underlying70 Tryz.underlying3 (Tryz.zeroVer _) M5 id true
        simp only [if_true] at e7
        obtain ⟨q, hq⟩ : ∃ q, q = aget m id := ⟨_, rfl⟩
        rw [← hq] at e7
        have HQ := Lib.hid hq
        clear hq
        cases q with
        | none =>
          have hdf : d = false := by
            cases d with
            | false => rfl
            | true =>
              have := (HD.out.1 rfl).2 _ hin
              simp only at this
              rw [← HQ.out] at this
              cases this
          subst hdf
          simp only [Option.map_none, Option.getD_none, Option.isSome_none] at e7
          have fin := HH.out _ (Ranging.stop ((H5.alloc (.cells #[.int .i64 pa, .slice xa la.length xc] 69)).alloc (.cells #[.int .i64 0, .slice none 0 0] 69))) (((Ik.trans I5).alloc _).alloc _)
          clear hm hm5 hl HD
          go_wp2_with fail
          exact fin
        | some u =>
          obtain ⟨pb, vb, lb⟩ := u
          obtain ⟨ya, yc, hvb⟩ := (KM.out _ _ HQ.out.symm).1.slice H5.right.right
          simp only at hvb
          subst hvb
          have HK2 := Lib.hid (KM.out _ _ HQ.out.symm)
          simp only [Option.map_some, Option.getD_some, Option.isSome_some] at e7
          have H6 : Sat (Pool p * (Ranging ekI evV a rb l (l1 ++ l2) (some (id, pa, .slice xa la.length xc, la)) * (MapAt ekI evV b m * F))) ((w5.alloc (.cells #[.int .i64 pa, .slice xa la.length xc] 69)).alloc (.cells #[.int .i64 pb, .slice ya lb.length yc] 69)) := ((H5.alloc _).alloc _).of_eq (by ac_rfl)
          have I6 : Io w ((w5.alloc (.cells #[.int .i64 pa, .slice xa la.length xc] 69)).alloc (.cells #[.int .i64 pb, .slice ya lb.length yc] 69)) := ((Ik.trans I5).alloc _).alloc _
          have rx := HK1.out.1.reads HK1.out.2 H6
          have ry := HK2.out.1.reads HK2.out.2 H6
          obtain ⟨q1, hq1⟩ : ∃ q, q = (decide (pa = pb) && decide (la = lb)) := ⟨_, rfl⟩
          have HQ1 := Lib.hid hq1
          clear hq1
          simp only at rx ry
          cases q1 with
          | true =>
            have heq : pa = pb ∧ la = lb := by simpa using HQ1.out.symm
            have HL : Hid ((∀ p ∈ l1 ++ l2, p ∈ l) ∧ ∀ p ∈ l, p ∈ l1 ++ l2 ∨ (aget m p.1).map fV = some (fV p.2)) := Lib.hid (by
              refine ⟨fun p hp => hl.out.1 p (by rw [e5]; simp at hp ⊢; rcases hp with h | h <;> simp [h]), fun p hp => ?_⟩
              rcases hl.out.2 p hp with h | h
              · rw [e5] at h
                simp only [List.mem_append, List.mem_cons] at h ⊢
                rcases h with h | rfl | h
                · exact .inl (.inl h)
                · right
                  simp only
                  rw [← HQ.out]
                  simp [fV, heq.1, heq.2]
                · exact .inl (.inr h)
              · exact .inr h)
            have hmm : rngLeft a rb w5 < rngLeft a rb wr := by rw [hm, hm5, e5]; simp
            have hlen5 := hm5
            clear hl hm hm5 HD heq
            go_wp2_with (go_at_call 44; with_reducible refine same1_any pa pb rx ry HQ1 H6 ?_; intro w7 H7 I7)
            have K7 := H7.of_eq (show _ = Ranging ekI evV a rb l (l1 ++ l2) (some (id, pa, .slice xa la.length xc, la)) * (MapAt ekI evV b m * (Pool p * F)) from by ac_rfl)
            have hm7 := rngLeft_eq K7
            go_roundw
            case rel => exact ⟨l1 ++ l2, HL, Ranging.forget K7, I6.trans I7⟩
            case measure => omega
          | false =>
            have hdf : d = false := by
              cases d with
              | false => rfl
              | true =>
                have := (HD.out.1 rfl).2 _ hin
                simp only at this
                rw [← HQ.out] at this
                simp only [Option.map_some, Option.some.injEq, fV, Prod.mk.injEq] at this
                have h2 := HQ1.out
                rw [this.1, this.2] at h2
                simp at h2
            subst hdf
            clear hm hm5 hl HD
            go_wp2_with (go_at_call 44; with_reducible refine same1_any pa pb rx ry HQ1 H6 ?_; intro w7 H7 I7)
            have K7 := H7.of_eq (show _ = Ranging ekI evV a rb l (l1 ++ l2) (some (id, pa, .slice xa la.length xc, la)) * (MapAt ekI evV b m * (Pool p * F)) from by ac_rfl)
            exact HH.out _ (Ranging.stop K7) (I6.trans I7)
  · have hni : ¬ (l.length : Int) = (m.length : Int) := by omega
    have hdf : d = false := by
      cases d with
      | false => rfl
      | true => exact absurd (HD.out.1 rfl).1 hn
    subst hdf
    go_enter Tryz.func43, Tryz.ntmps43
    go_wp2_with fail
    exact HH.out _ H (Io.refl _)
end
end Go.Proofs.YtabpgejjnphfcaaGreat

/-
  The model of the index: Same, by its walk. It proves no statement by itself.
-/
namespace Go.Proofs.YtabpgejjnphfcaaGreat
open Go.RowKit Go.Lib Go.MapKept
open Md (Nm St)
set_option linter.unusedSimpArgs false
set_option linter.unusedVariables false
set_option linter.unusedSectionVars false
section
variable {F : Asn} {w : World} {R : Ending → World → Prop} {p : Pl} {h k : Mh} {S T : MV} {j : Nat}
set_option maxRecDepth 100000 in
set_option maxHeartbeats 1000000 in
theorem now_r (n : Nm) {v : Value} {l : List Pr} (hv : Hid ((v, l) = S.now n)) (H : Sat (ModelAt h S * F) w) (hh : ∀ m, R (.returned v) (w.drewN m)) :
    Calls Tryz.prog 42 #[h.ptr, .string n] w R := by
  have HH := Lib.hid hh
  clear hh
  obtain ⟨c0, c1, c2, c3⟩ := ModelAt.cells H
  have e1 := look_pend2 H n
  have hn := hv.out
  unfold MV.now at hn
  cases hp : aget S.pend n with
  | some x =>
    rw [hp] at e1 hn
    simp only [Option.map_some, Option.getD_some, Option.isSome_some] at e1
    have hx : evP x = v := congrArg Prod.fst hn.symm
    rw [hx] at e1
    clear hn hv
    go_enter Tryz.func42, Tryz.ntmps42
    go_wp2_with fail
    exact HH.out 0
  | none =>
    rw [hp] at e1 hn
    simp only [Option.map_none, Option.getD_none, Option.isSome_none] at e1
    have e2 := fun k => look_head (H.drewN k) n
    have e3 := fun k => look_ver (H.drewN k) (Md.hget S.st n)
    have hx : (S.vv (Md.hget S.st n)).2.1 = v := congrArg Prod.fst hn.symm
    rw [hx] at e3
    clear hn hv
    have f1 := field_ver1
    go_enter Tryz.func42, Tryz.ntmps42
    go_wp2_with fail
    go_quiet (fail)
    go_wp2_with fail
    exact HH.out _
theorem inv_vv (hI : Md.Inv j S.st) (id : Int) : (S.vv id).2.2.length ≤ j := by
  unfold MV.vv
  cases e : aget S.vers id with
  | none => simp
  | some x =>
    have e2 : aget S.st.vers id = some (fV x) := by
      have : aget S.st.vers id = (aget S.vers id).map fV := aget_amap _ _ _
      rw [this, e]; rfl
    exact (hI.goodV id _ _ e2).2
theorem inv_now (hI : Md.Inv j S.st) (n : Nm) : (S.now n).2.length ≤ j := by
  have := (hI.now n).2
  rw [S.now_st] at this
  exact this
theorem inv_len (hI : Md.Inv j S.st) : S.vers.length ≤ 1 + j ∧ S.heads.length ≤ 1 + j := by
  have h1 := hI.nv
  have h2 := hI.nh
  have e : S.st.vers.length = S.vers.length := amap_len _ _
  rw [e] at h1
  exact ⟨h1, h2⟩
theorem heldV_of (hS : S.Ok p) (hI : Md.Inv j S.st) (hj : j ≤ 2000) (hn : (S.vers.map (·.1)).Nodup) : HeldV p S.vers := by
  intro x hx
  have e : aget S.vers x.1 = some x.2 := aget_of_mem hn hx
  refine ⟨hS.v x.1 x.2 e, ?_⟩
  have := inv_vv hI x.1
  unfold MV.vv at this
  rw [e] at this
  simp only [Option.getD_some] at this
  omega
theorem same_vers : (∀ id, (aget S.vers id).map fV = (aget T.vers id).map fV) ↔ ∀ id, aget S.st.vers id = aget T.st.vers id := by
  have e : ∀ (S : MV) id, aget S.st.vers id = (aget S.vers id).map fV := fun S id => aget_amap _ _ _
  simp only [e]
theorem model2_cells (H : Sat (ModelAt h S * (ModelAt k T * F)) w) : (w.cell? ⟨h.b, 0, none⟩ = some (.map (some h.bv)) ∧ w.cell? ⟨h.b, 1, none⟩ = some (.map (some h.bh)) ∧ w.cell? ⟨h.b, 2, none⟩ = some (.map (some h.bp)) ∧ w.cell? ⟨h.b, 3, none⟩ = some (.int .i64 S.next)) ∧
    w.cell? ⟨k.b, 0, none⟩ = some (.map (some k.bv)) ∧ w.cell? ⟨k.b, 1, none⟩ = some (.map (some k.bh)) ∧ w.cell? ⟨k.b, 2, none⟩ = some (.map (some k.bp)) ∧ w.cell? ⟨k.b, 3, none⟩ = some (.int .i64 T.next) := ⟨ModelAt.cells H, ModelAt.cells H.right⟩
set_option maxRecDepth 100000 in
set_option maxHeartbeats 8000000 in
theorem same_any (hj : j ≤ 2000) (hS : S.Ok p) (hT : T.Ok p) (iS : Md.Inv j S.st) (iT : Md.Inv j T.st) (H : Sat (ModelAt h S * (ModelAt k T * (Pool p * F))) w) {d : Bool} (hd : Hid (d = true ↔ Md.Same S.st T.st))
    (hh : ∀ w', Sat (ModelAt h S * (ModelAt k T * (Pool p * F))) w' → Io w w' → R (.returned (.bool d)) w') :
    Calls Tryz.prog 19 #[h.ptr, k.ptr] w R := by
  have HH := Lib.hid hh
  clear hh
  have Z0 := model2_cells H.drew
  by_cases hnx : S.next = T.next
  · obtain ⟨d1, hd1⟩ : ∃ d1 : Bool, d1 = true ↔ ∀ n, aget S.heads n = aget T.heads n := ⟨@decide _ (Classical.propDecidable _), @decide_eq_true_iff _ (Classical.propDecidable _)⟩
    have HD1 := Lib.hid hd1
    have hbe : (S.next != T.next) = false := by simpa using hnx
    have HN := Lib.hid hnx
    clear hd1 hnx
    have lS := inv_len iS
    have lT := inv_len iT
    have H2 : Sat (MapAt ekS ekI h.bh S.heads * (MapAt ekS ekI k.bh T.heads * (MCell h S.next * (MapAt ekI evV h.bv S.vers * (MapAt ekS evP h.bp S.pend * (MCell k T.next * (MapAt ekI evV k.bv T.vers * (MapAt ekS evP k.bp T.pend * (Pool p * F))))))))) w.drew := H.drew.of_eq (by unfold ModelAt MapsAt; ac_rfl)
    cases d1 with
    | false =>
      have hdf : d = false := by
        cases d with
        | false => rfl
        | true => have := HD1.out.2 (hd.out.1 rfl).2.1; cases this
      subst hdf
      go_enter Tryz.func19, Tryz.ntmps19
      go_upto_region 1 with fail
      go_region_held3 (fun W => (W.cell? ⟨h.b, 0, none⟩ = some (.map (some h.bv)) ∧ W.cell? ⟨h.b, 1, none⟩ = some (.map (some h.bh)) ∧ W.cell? ⟨h.b, 2, none⟩ = some (.map (some h.bp)) ∧ W.cell? ⟨h.b, 3, none⟩ = some (.int .i64 S.next)) ∧
        W.cell? ⟨k.b, 0, none⟩ = some (.map (some k.bv)) ∧ W.cell? ⟨k.b, 1, none⟩ = some (.map (some k.bh)) ∧ W.cell? ⟨k.b, 2, none⟩ = some (.map (some k.bp)) ∧ W.cell? ⟨k.b, 3, none⟩ = some (.int .i64 T.next)) (first | exact Z0 | exact Z1) (first
        | (go_at_call 40; with_reducible refine equalH_any (by omega) (by omega) H2 HD1 ?_; intro w1 H1 I1; have K1 := H1.of_eq (show _ = ModelAt h S * (ModelAt k T * (Pool p * F)) from by unfold ModelAt MapsAt; ac_rfl); have Z1 := model2_cells K1))
      all_goals
        clear Z0 Z1
        go_wp2_with fail
        exact HH.out _ K1 ((Io.refl w).drew.trans I1)
    | true =>
      go_enter Tryz.func19, Tryz.ntmps19
      go_upto_region 1 with fail
      go_region_held3 (fun W => (W.cell? ⟨h.b, 0, none⟩ = some (.map (some h.bv)) ∧ W.cell? ⟨h.b, 1, none⟩ = some (.map (some h.bh)) ∧ W.cell? ⟨h.b, 2, none⟩ = some (.map (some h.bp)) ∧ W.cell? ⟨h.b, 3, none⟩ = some (.int .i64 S.next)) ∧
        W.cell? ⟨k.b, 0, none⟩ = some (.map (some k.bv)) ∧ W.cell? ⟨k.b, 1, none⟩ = some (.map (some k.bh)) ∧ W.cell? ⟨k.b, 2, none⟩ = some (.map (some k.bp)) ∧ W.cell? ⟨k.b, 3, none⟩ = some (.int .i64 T.next)) (first | exact Z0 | exact Z1) (first
        | (go_at_call 40; with_reducible refine equalH_any (by omega) (by omega) H2 HD1 ?_; intro w1 H1 I1; have K1 := H1.of_eq (show _ = ModelAt h S * (ModelAt k T * (Pool p * F)) from by unfold ModelAt MapsAt; ac_rfl); have Z1 := model2_cells K1))
      all_goals
        have I1' := (Io.refl w).drew.trans I1
        obtain ⟨c0, c1, c2, c3⟩ := Z1.1
        clear Z0 Z1 H1 I1 H2
        have A1 := ModelAt.asH K1
        go_wp2_with (at_range; refine wpList_range_sl Tryz.underlying71 rfl (.tmp 34) rfl rfl A1 ?_; intro w4 H4 I4)
        try go_frame
        generalize w1.heap.size = rb at *
        have A2 : Sat (Ranging ekS ekI h.bh rb S.heads S.heads none * (MCell h S.next * (MapAt ekI evV h.bv S.vers * (MapAt ekS evP h.bp S.pend * (ModelAt k T * (Pool p * F)))))) w4 := H4
        have I4' := I1'.trans I4
        clear c0 c1 c2 c3 A1 K1 H4 I4 I1'
        go_loopw [36] (fun _ wr => ∃ left : List (Nm × Int), Hid ((∀ q ∈ left, q ∈ S.heads) ∧ ∀ q ∈ S.heads, q ∈ left ∨ Md.now S.st q.1 = Md.now T.st q.1) ∧ Sat (Ranging ekS ekI h.bh rb S.heads left none * (MCell h S.next * (MapAt ekI evV h.bv S.vers * (MapAt ekS evP h.bp S.pend * (ModelAt k T * (Pool p * F)))))) wr ∧ Io w wr) (fun _ wr => rngLeft h.bh rb wr)
        case atStart => exact ⟨S.heads, Lib.hid ⟨fun _ h => h, fun _ h => .inl h⟩, A2, I4'⟩
        case round =>
          obtain ⟨left, hl, Hk, Ik⟩ := hrel
          clear A2 I4'
          have hm := rngLeft_eq Hk
          go_wp2_with (at_next; refine wpList_next_sl rfl (.tmp 35) rfl rfl Hk ?_ ?_)
          · intro h0
            subst h0
            have KS : Sat (ModelAt h S * (ModelAt k T * (Pool p * F))) wr := (Ranging.stop Hk).of_eq (by unfold ModelAt MapsAt; ac_rfl)
            have KV : Sat (MapAt ekI evV h.bv S.vers * (MapAt ekI evV k.bv T.vers * (Pool p * (MCell h S.next * (MapAt ekS ekI h.bh S.heads * (MapAt ekS evP h.bp S.pend * (MCell k T.next * (MapAt ekS ekI k.bh T.heads * (MapAt ekS evP k.bp T.pend * F))))))))) wr.drew := KS.drew.of_eq (by unfold ModelAt MapsAt; ac_rfl)
            have kl := heldV_of hS iS hj (keys_nodup KV)
            have km := heldV_of hT iT hj (keys_nodup KV.right)
            have HDV : Hid (d = true ↔ ∀ n, (aget S.vers n).map fV = (aget T.vers n).map fV) := Lib.hid (by
              rw [hd.out, same_vers]
              constructor
              · intro hs; exact hs.2.2.2
              · intro hv
                refine ⟨HN.out, HD1.out.1 (by simp), fun n hn => ?_, hv⟩
                obtain ⟨u, hu⟩ := Option.isSome_iff_exists.1 hn
                rcases hl.out.2 (n, u) (aget_mem hu) with h | h
                · cases h
                · exact h)
            have Z0 := model2_cells KS.drew
            clear hm hl Hk
            go_upto_region 8 with fail
            go_region_held3 (fun W => (W.cell? ⟨h.b, 0, none⟩ = some (.map (some h.bv)) ∧ W.cell? ⟨h.b, 1, none⟩ = some (.map (some h.bh)) ∧ W.cell? ⟨h.b, 2, none⟩ = some (.map (some h.bp)) ∧ W.cell? ⟨h.b, 3, none⟩ = some (.int .i64 S.next)) ∧
              W.cell? ⟨k.b, 0, none⟩ = some (.map (some k.bv)) ∧ W.cell? ⟨k.b, 1, none⟩ = some (.map (some k.bh)) ∧ W.cell? ⟨k.b, 2, none⟩ = some (.map (some k.bp)) ∧ W.cell? ⟨k.b, 3, none⟩ = some (.int .i64 T.next)) (first | exact Z0 | exact Z1) (first
              | (go_at_call 43; with_reducible refine equalV_any (by omega) (by omega) kl km KV HDV ?_; intro w6 H6 I6; have K6 := H6.of_eq (show _ = ModelAt h S * (ModelAt k T * (Pool p * F)) from by unfold ModelAt MapsAt; ac_rfl); have Z1 := model2_cells K6))
            all_goals
              clear Z0 Z1
              go_wp2_with fail
              exact HH.out _ K6 (Ik.drew.trans I6)
          · intro l1 nm hv l2 w5 e5 H5 I5
            have e6 := run_entry (P := Tryz.prog) H5
            have hm5 := rngLeft_eq H5
            have KS : Sat (ModelAt h S * (ModelAt k T * (Pool p * F))) w5 := (Ranging.stop H5).of_eq (by unfold ModelAt MapsAt; ac_rfl)
            obtain ⟨v1, m1, hvm1⟩ : ∃ v l, (v, l) = S.now nm := ⟨_, _, rfl⟩
            obtain ⟨v2, m2, hvm2⟩ : ∃ v l, (v, l) = T.now nm := ⟨_, _, rfl⟩
            have hh1 := hS.now nm
            have hh2 := hT.now nm
            have hn1 := inv_now iS nm
            have hn2 := inv_now iT nm
            have hs1 := S.now_st nm
            have hs2 := T.now_st nm
            rw [← hvm1] at hh1 hn1 hs1
            rw [← hvm2] at hh2 hn2 hs2
            simp only at hh1 hn1 hh2 hn2 hs1 hs2
            obtain ⟨a1, q1, rfl⟩ := hh1.slice KS.right.right
            obtain ⟨a2, q2, rfl⟩ := hh2.slice KS.right.right
            have V1 := Lib.hid hvm1
            have V2 := Lib.hid hvm2
            have KT := fun n => ((KS.drewN n).of_eq (show _ = ModelAt k T * (ModelAt h S * (Pool p * F)) from by ac_rfl))
            have KP := fun n => ((H5.drewN n).of_eq (show _ = Pool p * (Ranging ekS ekI h.bh rb S.heads (l1 ++ l2) (some (nm, hv)) * (MCell h S.next * (MapAt ekI evV h.bv S.vers * (MapAt ekS evP h.bp S.pend * (ModelAt k T * F))))) from by ac_rfl))
            have IP := fun n => ((Ik.trans I5).drewN n)
            have rx := fun n => hh1.reads (by omega) (KP n)
            have ry := fun n => hh2.reads (by omega) (KP n)
            obtain ⟨qe, hqe⟩ : ∃ b, b = decide (m1 = m2) := ⟨_, rfl⟩
            have HQ := Lib.hid hqe
            have HS12 := Lib.hid (And.intro hs1 hs2)
            clear hqe hvm1 hvm2 hs1 hs2 hh1 hh2 hn1 hn2
            cases qe with
            | true =>
              have HL : Hid ((∀ q ∈ l1 ++ l2, q ∈ S.heads) ∧ ∀ q ∈ S.heads, q ∈ l1 ++ l2 ∨ Md.now S.st q.1 = Md.now T.st q.1) := Lib.hid (by
                refine ⟨fun p hp => hl.out.1 p (by rw [e5]; simp at hp ⊢; rcases hp with h | h <;> simp [h]), fun p hp => ?_⟩
                rcases hl.out.2 p hp with h | h
                · rw [e5] at h
                  simp only [List.mem_append, List.mem_cons] at h ⊢
                  rcases h with h | rfl | h
                  · exact .inl (.inl h)
                  · right
                    simp only
                    rw [HS12.out.1, HS12.out.2]
                    exact of_decide_eq_true HQ.out.symm
                  · exact .inl (.inr h)
                · exact .inr h)
              have hmm : rngLeft h.bh rb w5 < rngLeft h.bh rb wr := by rw [hm, hm5, e5]; simp
              clear hl hm Hk
              go_wp2_with (first
                | (go_at_call 42; first
                  | (with_reducible refine now_r nm V1 KS ?_; intro n1)
                  | (with_reducible refine now_r nm V2 (KT n1) ?_; intro n2))
                | (go_at_call 41; with_reducible refine equal_any (rx (n1 + n2)) (ry (n1 + n2)) HQ (KP (n1 + n2)) ?_; intro w8 H8 I8))
              have K8 := H8.of_eq (show _ = Ranging ekS ekI h.bh rb S.heads (l1 ++ l2) (some (nm, hv)) * (MCell h S.next * (MapAt ekI evV h.bv S.vers * (MapAt ekS evP h.bp S.pend * (ModelAt k T * (Pool p * F))))) from by ac_rfl)
              have hm8 := rngLeft_eq K8
              go_roundw
              case rel => exact ⟨l1 ++ l2, HL, Ranging.forget K8, (IP (n1 + n2)).trans I8⟩
              case measure => omega
            | false =>
              have hdf : d = false := by
                cases d with
                | false => rfl
                | true =>
                  have hin : (nm, hv) ∈ S.heads := hl.out.1 _ (by rw [e5]; simp)
                  have := (hd.out.1 rfl).2.2.1 nm (by
                    show (aget S.heads nm).isSome = true
                    rw [aget_isSome]
                    exact List.mem_map.2 ⟨_, hin, rfl⟩)
                  rw [HS12.out.1, HS12.out.2] at this
                  exact absurd this (of_decide_eq_false HQ.out.symm)
              subst hdf
              clear hl hm Hk
              go_wp2_with (first
                | (go_at_call 42; first
                  | (with_reducible refine now_r nm V1 KS ?_; intro n1)
                  | (with_reducible refine now_r nm V2 (KT n1) ?_; intro n2))
                | (go_at_call 41; with_reducible refine equal_any (rx (n1 + n2)) (ry (n1 + n2)) HQ (KP (n1 + n2)) ?_; intro w8 H8 I8))
              have K8 := H8.of_eq (show _ = Ranging ekS ekI h.bh rb S.heads (l1 ++ l2) (some (nm, hv)) * (MCell h S.next * (MapAt ekI evV h.bv S.vers * (MapAt ekS evP h.bp S.pend * (ModelAt k T * (Pool p * F))))) from by ac_rfl)
              have KF : Sat (ModelAt h S * (ModelAt k T * (Pool p * F))) w8 := (Ranging.stop K8).of_eq (by unfold ModelAt MapsAt; ac_rfl)
              exact HH.out _ KF ((IP (n1 + n2)).trans I8)
  · have hdf : d = false := by
      cases d with
      | false => rfl
      | true => exact absurd (hd.out.1 rfl).1 hnx
    subst hdf
    obtain ⟨c0, c1, c2, c3⟩ := ModelAt.cells H
    obtain ⟨b0, b1, b2, b3⟩ := ModelAt.cells H.right
    clear Z0
    go_enter Tryz.func19, Tryz.ntmps19
    go_upto_region 1 with fail
    go_quiet (fail)
    go_wp2_with fail
    exact HH.out _ (H.drewN _) ((Io.refl w).drewN _)
end
end Go.Proofs.YtabpgejjnphfcaaGreat
