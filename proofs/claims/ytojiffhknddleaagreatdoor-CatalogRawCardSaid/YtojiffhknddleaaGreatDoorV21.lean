/-
  Keys with values: which may be, when a list is right, how long it is; entry.Check, entry.right, entry.Size, by walks. It proves no statement by itself.
-/
import Derived.Test.YtojiffhknddleaaGreatDoorV08
import Derived.Test.YtojiffhknddleaaGreatDoorV11
import Derived.Test.YtojiffhknddleaaGreatDoorV20
import Derived.Test.YtojiffhknddleaaGreatDoorRows
import Derived.Test.YtojiffhknddleaaGreatDoorOShelf
import Derived.Lib.Hide
import Derived.BigQuiet
import Derived.Deep.RegionHeld3
import Derived.Test.YtojiffhknddleaaGreatDoorV12
namespace Go.Proofs.YtojiffhknddleaaGreatDoor
open Go.RowKit Go.Lib
set_option linter.unusedSimpArgs false
set_option linter.unusedVariables false
set_option linter.unusedSectionVars false
namespace Ky
abbrev Nm := ByteArray
abbrev En := Nm × Nm
def chk (k v : Nm) : Int := if k.size = 0 ∨ 16 < k.size ∨ 40 < v.size then 110 else 0
/-- Keys rise, and all may be. -/
def Right (l : List En) : Prop := (∀ x ∈ l, chk x.1 x.2 = 0) ∧ l.Pairwise fun x y => Md.nlt x.1 y.1 = true
instance (l : List En) : Decidable (Right l) := by unfold Right; exact inferInstance
def one (x : En) : Nat := 2 + x.1.size + x.2.size
def size : List En → Nat
  | [] => 0
  | x :: l => one x + size l
theorem size_append (l m : List En) : size (l ++ m) = size l + size m := by
  induction l with
  | nil => simp [size]
  | cons x l ih => simp only [List.cons_append, size, ih]; omega
theorem size_take {l : List En} {k : Nat} (hk : k < l.length) : size (l.take (k + 1)) = size (l.take k) + one l[k] := by
  rw [List.take_succ_eq_append_getElem hk, size_append]
  simp [size]
/-- The first k of them are right. -/
def RightTo (l : List En) (k : Nat) : Prop := Right (l.take k)
theorem rightTo_zero (l : List En) : RightTo l 0 := by simp [RightTo, Right]
theorem rightTo_all (l : List En) : RightTo l l.length ↔ Right l := by unfold RightTo; rw [List.take_length]
theorem rightTo_one {l : List En} (hk : 0 < l.length) (hc : chk l[0].1 l[0].2 = 0) : RightTo l 1 := by
  unfold RightTo
  rw [List.take_succ_eq_append_getElem hk]
  simp [Right, hc]
theorem rightTo_next {l : List En} {k : Nat} (hk : k + 1 < l.length) (h : RightTo l (k + 1)) (hc : chk l[k + 1].1 l[k + 1].2 = 0) (hl : Md.nlt (l[k]'(by omega)).1 l[k + 1].1 = true) : RightTo l (k + 2) := by
  unfold RightTo at h ⊢
  rw [List.take_succ_eq_append_getElem hk]
  refine ⟨fun x hx => ?_, ?_⟩
  · rcases List.mem_append.1 hx with hx | hx
    · exact h.1 x hx
    · rw [List.mem_singleton] at hx; subst hx; exact hc
  · rw [List.pairwise_append]
    refine ⟨h.2, List.pairwise_singleton _ _, fun a ha b hb => ?_⟩
    rw [List.mem_singleton] at hb
    subst hb
    obtain ⟨i, hi, e⟩ := List.mem_iff_getElem.1 ha
    rw [List.length_take] at hi
    rw [List.getElem_take] at e
    have hp := h.2
    rw [List.pairwise_iff_getElem] at hp
    rcases Nat.lt_or_ge i k with c | c
    · have := hp i k (by rw [List.length_take]; omega) (by rw [List.length_take]; omega) c
      simp only [List.getElem_take] at this
      rw [← e]
      exact nlt_trans this hl
    · obtain rfl : i = k := by omega
      rw [← e]; exact hl
theorem right_bad {l : List En} {k : Nat} (hk : k < l.length) (hc : chk l[k].1 l[k].2 ≠ 0) : ¬ Right l := fun h => hc (h.1 _ (List.getElem_mem hk))
theorem right_bad2 {l : List En} {k : Nat} (hk : k + 1 < l.length) (hl : Md.nlt (l[k]'(by omega)).1 l[k + 1].1 = false) : ¬ Right l := fun h => by
  have hp := h.2
  rw [List.pairwise_iff_getElem] at hp
  have := hp k (k + 1) (by omega) hk (by omega)
  rw [hl] at this
  cases this
/-- No string is longer than this. -/
def Short (n : Nat) (l : List En) : Prop := ∀ x ∈ l, x.1.size ≤ n ∧ x.2.size ≤ n
end Ky
def encE (x : Ky.En) : List Value := [.string x.1, .string x.2]
theorem encE_ok : Enc encE 2 := ⟨fun _ => rfl, fun x u hu => by simp [encE] at hu; rcases hu with rfl | rfl <;> rfl⟩
theorem Tryz.rowE : RowTy Tryz.prog 48 50 2 32 := ⟨Tryz.underlying48, ⟨.agg #[.string ⟨#[]⟩, .string ⟨#[]⟩], rfl, by kernel_rfl⟩, by omega⟩
abbrev RowE (v : Value) (l : List Ky.En) : Asn := RowOf 50 2 encE v l
abbrev ReadsE (F : Asn) (v : Value) (l : List Ky.En) : Prop := Reads encE F v l
theorem readsE_get {F : Asn} {a : Option Addr} {n c : Nat} {l : List Ky.En} (hl : ReadsE F (.slice a n c) l) (k : Nat) (hk : k < l.length) : ∃ b off key val, a = some ⟨b, off, none⟩ ∧ l[k] = (key, val) ∧ ∀ w, Sat F w → w.cell? ⟨b, off + k * 2, none⟩ = some (.string key) ∧ w.cell? ⟨b, off + k * 2 + 1, none⟩ = some (.string val) := by
  obtain ⟨b, off, h1, h2⟩ := hl.get encE_ok k hk
  exact ⟨b, off, _, _, h1, rfl, fun w hw => ⟨h2 w hw 0 _ (by omega) rfl, h2 w hw 1 _ (by omega) rfl⟩⟩
theorem readsE_len {F : Asn} {v : Value} {l : List Ky.En} (h : ReadsE F v l) : ∃ a c, v = .slice a l.length c ∧ (l.length : Int) ≤ 9223372036854775807 := by
  obtain ⟨a, c, h1, h2, _⟩ := h
  exact ⟨a, c, h1, by omega⟩
section
variable {F : Asn} {w : World} {R : Ending → World → Prop}
set_option maxRecDepth 100000 in
theorem check_any (k v : ByteArray) (hk : k.size ≤ 1000000) (hv : v.size ≤ 1000000) {e : Int} (he : Hid (e = Ky.chk k v)) (h : R (.returned (.int .i64 e)) w) : Calls Tryz.prog 47 #[.string k, .string v] w R := by
  have hx := he.out
  unfold Ky.chk at hx
  have HH := Lib.hid h
  clear h he
  by_cases h0 : k.size = 0
  · rw [if_pos (.inl h0)] at hx
    subst hx
    have e2 : k.toList = [] := by
      have : k = ⟨#[]⟩ := by obtain ⟨d⟩ := k; congr 1; exact Array.eq_empty_of_size_eq_zero h0
      rw [this]; simp
    have e1 : k.toList.isEmpty = true := by rw [e2]; rfl
    go_enter Tryz.func47, Tryz.ntmps47
    go_wp2_with fail
    exact HH.out
  · have e2 : ¬ k.toList = [] := fun e => h0 (by
      have : k = ⟨#[]⟩ := nm_ext (by rw [e]; simp)
      rw [this]; rfl)
    have e1 : k.toList.isEmpty = false := by
      cases hh : k.toList with
      | nil => exact absurd hh e2
      | cons a l => rfl
    by_cases h1 : 16 < k.size
    · rw [if_pos (.inr (.inl h1))] at hx
      subst hx
      have q1 : (16 : Int) < (k.size : Int) := by omega
      clear h0 h1
      go_enter Tryz.func47, Tryz.ntmps47
      go_wp2_with fail
      exact HH.out
    · have q1 : ¬ (16 : Int) < (k.size : Int) := by omega
      by_cases h2 : 40 < v.size
      · rw [if_pos (.inr (.inr h2))] at hx
        subst hx
        have q2 : (40 : Int) < (v.size : Int) := by omega
        clear h0 h1 h2
        go_enter Tryz.func47, Tryz.ntmps47
        go_wp2_with fail
        exact HH.out
      · rw [if_neg (by omega)] at hx
        subst hx
        have q2 : ¬ (40 : Int) < (v.size : Int) := by omega
        clear h0 h1 h2
        go_enter Tryz.func47, Tryz.ntmps47
        go_wp2_with fail
        exact HH.out
set_option maxRecDepth 100000 in
set_option maxHeartbeats 2000000 in
theorem size_any {l : List Ky.En} {v : Value} (hv : ReadsE F v l) (hs : Ky.Short 1000 l) (hl : l.length ≤ 100000) (H : Sat F w) {n : Nat} (hn : Hid (n = Ky.size l)) (h : ∀ w', Sat F w' → Io w w' → R (.returned (.int .i64 (n : Int))) w') :
    Calls Tryz.prog 124 #[v] w R := by
  obtain ⟨a, c, rfl, hm⟩ := readsE_len hv
  have HV := Lib.hid (fun k hk => readsE_get hv k hk)
  have HS := Lib.hid hs
  have HH := Lib.hid h
  clear h hv
  have HB : Hid (∀ k, k ≤ l.length → Ky.size (l.take k) ≤ k * 2002) := Lib.hid (by
    intro k
    induction k with
    | zero => intro _; simp [Ky.size]
    | succ k ih =>
      intro hk
      have := ih (by omega)
      have h2 := hs l[k] (List.getElem_mem (by omega))
      rw [Ky.size_take (by omega)]
      unfold Ky.one
      omega)
  go_enter Tryz.func124, Tryz.ntmps124
  go_wp2_with fail
  go_loopw [3, 8] (fun s x wr => ∃ (k : Nat), k ≤ l.length ∧ x = .int .i64 (k : Int) ∧ s = .int .i64 (Ky.size (l.take k) : Int) ∧ Sat F wr ∧ Io w wr) (fun _ x _ => l.length - (RowKit.intOf x).toNat)
  case atStart => exact ⟨0, by omega, rfl, by simp [Ky.size], H, Io.refl _⟩
  case round =>
    obtain ⟨k, hk, rfl, rfl, Hk, Ik⟩ := hrel
    have hb := HB.out k hk
    by_cases hlt : k < l.length
    · have hlti : (k : Int) < (l.length : Int) := by omega
      have hk0 : (0 : Int) ≤ (k : Int) := by omega
      obtain ⟨b, off, key, val, rfl, hx, hc⟩ := HV.out k hlt
      obtain ⟨g0, g1⟩ := hc wr Hk
      have h2 := HS.out l[k] (List.getElem_mem hlt)
      have HT : Hid (Ky.size (l.take (k + 1)) = Ky.size (l.take k) + (2 + key.size + val.size)) := Lib.hid (by rw [Ky.size_take hlt, hx]; rfl)
      rw [hx] at h2
      simp only at h2
      obtain ⟨k1, k2⟩ := h2
      clear hc hx
      generalize Ky.size (l.take k) = s at *
      have K2 := Hk.new (.cells #[.string key, .string val] 50)
      have J2 := Ik.alloc (.cells #[.string key, .string val] 50)
      obtain ⟨q0, q1⟩ : _ ∧ _ := ⟨Sat.read K2.left.at 0, Sat.read K2.left.at 1⟩
      simp only [List.getElem?_toArray, List.getElem?_cons_zero, List.getElem?_cons_succ] at q0 q1
      go_wp2_with fail
      go_roundw
      case rel => exact ⟨k + 1, by omega, by go_num, by rw [HT.out]; go_num, K2.right, J2⟩
      case measure => simp [RowKit.intOf]; omega
    · obtain rfl : k = l.length := by omega
      have hge : ¬ (l.length : Int) < (l.length : Int) := by omega
      rw [List.take_length, ← hn.out]
      clear HV
      go_wp2_with fail
      exact HH.out _ Hk Ik
set_option maxRecDepth 100000 in
set_option maxHeartbeats 4000000 in
theorem right_any {l : List Ky.En} {v : Value} (hv : ReadsE F v l) (hs : Ky.Short 1000 l) (hl : l.length ≤ 100000) (H : Sat F w) {d : Bool} (hd : Hid (d = decide (Ky.Right l))) (h : ∀ w', Sat F w' → Io w w' → R (.returned (.bool d)) w') :
    Calls Tryz.prog 72 #[v] w R := by
  obtain ⟨a, c, rfl, hm⟩ := readsE_len hv
  have HV := Lib.hid (fun k hk => readsE_get hv k hk)
  have HS := Lib.hid hs
  have HH := Lib.hid h
  clear h hv
  go_enter Tryz.func72, Tryz.ntmps72
  go_wp2_with fail
  go_loopw [7] (fun x wr => ∃ (k : Nat), k ≤ l.length ∧ x = .int .i64 (k : Int) ∧ Hid (Ky.RightTo l k) ∧ Sat F wr ∧ Io w wr) (fun x _ => l.length - (RowKit.intOf x).toNat)
  case atStart => exact ⟨0, by omega, rfl, Lib.hid (Ky.rightTo_zero l), H, Io.refl _⟩
  case round =>
    obtain ⟨k, hk, rfl, hr, Hk, Ik⟩ := hrel
    by_cases hlt : k < l.length
    · have hlti : (k : Int) < (l.length : Int) := by omega
      have hk0 : (0 : Int) ≤ (k : Int) := by omega
      obtain ⟨b, off, key, val, rfl, hx, hc⟩ := HV.out k hlt
      obtain ⟨g0, g1⟩ := hc wr Hk
      have h2 := HS.out l[k] (List.getElem_mem hlt)
      rw [hx] at h2
      simp only at h2
      obtain ⟨k1, k2⟩ := h2
      have K2 := Hk.new (.cells #[.string key, .string val] 50)
      have J2 := Ik.alloc (.cells #[.string key, .string val] 50)
      obtain ⟨q0, q1⟩ : _ ∧ _ := ⟨Sat.read K2.left.at 0, Sat.read K2.left.at 1⟩
      simp only [List.getElem?_toArray, List.getElem?_cons_zero, List.getElem?_cons_succ] at q0 q1
      obtain ⟨e, he⟩ : ∃ e, e = Ky.chk key val := ⟨_, rfl⟩
      have HE := Lib.hid he
      have hz1 : key.size ≤ 1000000 := by omega
      have hz2 : val.size ≤ 1000000 := by omega
      by_cases e0 : e = 0
      · subst e0
        by_cases hkz : k = 0
        · subst hkz
          have HN : Hid (Ky.RightTo l (0 + 1)) := Lib.hid (Ky.rightTo_one hlt (by rw [hx]; exact he.symm))
          simp only [Nat.zero_mul, Nat.add_zero, Nat.zero_add] at g0 g1
          clear hc hx he hr
          go_wp2_with fail
          go_quiet (first | (go_at_call 47; with_reducible refine check_any key val hz1 hz2 HE ?_; exact ⟨rfl, _, rfl⟩))
          go_wp2_with fail
          go_roundw
          case rel => exact ⟨0 + 1, by omega, by go_num, HN, K2.right.drewN _, J2.drewN _⟩
          case measure => simp [RowKit.intOf]; omega
        · obtain ⟨jj, hjj⟩ : ∃ jj, k = jj + 1 := ⟨k - 1, by omega⟩
          obtain ⟨b', off', key', val', hva, hx', hc'⟩ := HV.out jj (by omega)
          cases hva
          obtain ⟨p0, p1⟩ := hc' _ K2.right
          have hkp : (0 : Int) < (k : Int) := by omega
          have hkd : decide (0 < k) = true := decide_eq_true (by omega)
          have hkq : 0 < k := by omega
          have hsub : (k : Int) - 1 = (jj : Int) := by omega
          have hwr : IntKind.i64.wrap ((k : Int) - 1) = (jj : Int) := by rw [IntKind.wrap_i64]; omega
          have hwj : IntKind.i64.wrap (jj : Int) = (jj : Int) := by rw [IntKind.wrap_i64]; omega
          have hjn : (jj : Int) < (l.length : Int) := by omega
          have hj0 : (0 : Int) ≤ (jj : Int) := by omega
          obtain ⟨t, ht⟩ : ∃ t, Op.bytesLess key'.toList key.toList = t := ⟨_, rfl⟩
          have HT := Lib.hid ht
          have HJ := Lib.hid hjj
          have HX := Lib.hid hx
          have HX' : Hid (∀ h : jj < l.length, l[jj]'h = (key', val')) := Lib.hid (fun _ => hx')
          clear hx hx' he hc hc' hjj
          cases t with
          | true =>
            have HN : Hid (Ky.RightTo l (k + 1)) := Lib.hid (by
              have hj := HJ.out
              subst hj
              exact Ky.rightTo_next hlt hr.out (by rw [HX.out]; exact HE.out.symm) (by rw [HX.out, HX'.out (by omega)]; exact HT.out))
            clear hr
            go_wp2_with fail
            go_quiet (first | (go_at_call 47; with_reducible refine check_any key val hz1 hz2 HE ?_; exact ⟨rfl, _, rfl⟩))
            go_wp2_with fail
            go_roundw
            case rel => exact ⟨k + 1, by omega, by go_num, HN, K2.right.drewN _, J2.drewN _⟩
            case measure => simp [RowKit.intOf]; omega
          | false =>
            obtain rfl : d = false := by
              rw [hd.out]
              have hj := HJ.out
              subst hj
              exact decide_eq_false (Ky.right_bad2 hlt (by rw [HX.out, HX'.out (by omega)]; exact HT.out))
            clear hr
            go_wp2_with fail
            go_quiet (first | (go_at_call 47; with_reducible refine check_any key val hz1 hz2 HE ?_; exact ⟨rfl, _, rfl⟩))
            go_wp2_with fail
            exact HH.out _ (K2.right.drewN _) (J2.drewN _)
      · obtain rfl : d = false := by rw [hd.out]; exact decide_eq_false (Ky.right_bad hlt (by rw [hx]; simp only; rw [← he]; exact e0))
        have hb : (e != 0) = true := by simp [e0]
        clear hc hx he hr
        go_wp2_with fail
        go_quiet (first | (go_at_call 47; with_reducible refine check_any key val hz1 hz2 HE ?_; exact ⟨rfl, _, rfl⟩))
        go_wp2_with fail
        exact HH.out _ (K2.right.drewN _) (J2.drewN _)
    · obtain rfl : k = l.length := by omega
      have hge : ¬ (l.length : Int) < (l.length : Int) := by omega
      obtain rfl : d = true := by rw [hd.out]; exact decide_eq_true ((Ky.rightTo_all l).1 hr.out)
      clear HV hr
      go_wp2_with fail
      exact HH.out _ Hk Ik
end
end Go.Proofs.YtojiffhknddleaaGreatDoor

/-
  Keys with values: where a key stands; strings.Compare, entry.Find, entry.Get, by walks. It proves no statement by itself.
-/
namespace Go.Proofs.YtojiffhknddleaaGreatDoor
open Go.RowKit Go.Lib
set_option linter.unusedSimpArgs false
set_option linter.unusedVariables false
set_option linter.unusedSectionVars false
namespace Ky
/-- strings.Compare. -/
def cmp (x y : Nm) : Int := if Md.nlt x y = true then -1 else if Md.nlt y x = true then 1 else 0
theorem cmpB : ∀ x y : List UInt8, Lib.compareBytes x y = if Op.bytesLess x y = true then -1 else if Op.bytesLess y x = true then 1 else 0
  | [], [] => rfl
  | [], _ :: _ => rfl
  | _ :: _, [] => rfl
  | a :: x, b :: y => by
    have ih := cmpB x y
    unfold Lib.compareBytes
    simp only [Op.bytesLess]
    by_cases h1 : a < b
    · simp [h1]
    · by_cases h2 : b < a
      · have h3 : (a == b) = false := by
          rw [beq_eq_false_iff_ne]; rintro rfl; exact h1 h2
        simp [h1, h2, h3]
      · have e : a = b := by
          rw [UInt8.lt_iff_toNat_lt] at h1 h2
          exact UInt8.toNat_inj.1 (by omega)
        subst e
        simp [h1, ih]
theorem cmp_eq (x y : Nm) : Lib.compareBytes x.data.toList y.data.toList = cmp x y := by
  rw [cmpB]
  unfold cmp Md.nlt
  rw [ByteArray.toList_eq, ByteArray.toList_eq]
theorem cmp_lt (x y : Nm) : cmp x y < 0 ↔ Md.nlt x y = true := by
  unfold cmp
  by_cases h : Md.nlt x y = true
  · simp [h]
  · rw [if_neg h]
    split <;> simp [h]
theorem cmp_zero (x y : Nm) : cmp x y = 0 ↔ x = y := by
  unfold cmp
  constructor
  · intro h
    by_cases h1 : Md.nlt x y = true
    · rw [if_pos h1] at h; omega
    · rw [if_neg h1] at h
      by_cases h2 : Md.nlt y x = true
      · rw [if_pos h2] at h; omega
      · exact nlt_total (by simpa using h1) (by simpa using h2)
  · rintro rfl
    rw [nlt_irrefl]
    simp
/-- Where a key stands, or would. -/
def pos (key : Nm) (l : List En) : Nat := l.findIdx fun x => !Md.nlt x.1 key
def has (key : Nm) (l : List En) : Bool := l.any fun x => decide (x.1 = key)
theorem pos_le (key : Nm) (l : List En) : pos key l ≤ l.length := List.findIdx_le_length
theorem pos_ahead {key : Nm} {l : List En} {j : Nat} (hj : j < l.length) (h : j < pos key l) : Md.nlt l[j].1 key = true := by
  have := List.not_of_lt_findIdx h
  simpa using this
theorem pos_at {key : Nm} {l : List En} (h : pos key l < l.length) : Md.nlt (l[pos key l]).1 key = false := by
  have := List.findIdx_getElem (w := h)
  exact (Bool.not_eq_true' _).mp this
theorem pos_behind {key : Nm} {l : List En} (hr : Right l) {j : Nat} (hj : j < l.length) (h : pos key l ≤ j) : Md.nlt l[j].1 key = false := by
  rcases Nat.eq_or_lt_of_le h with e | e
  · subst e; exact pos_at hj
  · have h0 : pos key l < l.length := by omega
    have h1 := pos_at h0
    have hp := hr.2
    rw [List.pairwise_iff_getElem] at hp
    have h2 := hp _ _ h0 hj e
    cases e3 : Md.nlt l[j].1 key with
    | false => rfl
    | true => rw [nlt_trans h2 e3] at h1; cases h1
theorem pos_unique {key : Nm} {l : List En} (hr : Right l) {c : Nat} (hc : c ≤ l.length) (h1 : ∀ j (hj : j < l.length), j < c → Md.nlt l[j].1 key = true) (h2 : ∀ j (hj : j < l.length), c ≤ j → Md.nlt l[j].1 key = false) : c = pos key l := by
  have hl := pos_le key l
  rcases Nat.lt_trichotomy c (pos key l) with h | h | h
  · have a := pos_ahead (by omega) h
    have b := h2 c (by omega) (Nat.le_refl _)
    rw [a] at b; cases b
  · exact h
  · have a := pos_at (key := key) (l := l) (by omega)
    have b := h1 (pos key l) (by omega) h
    rw [a] at b; cases b
theorem has_iff {key : Nm} {l : List En} (hr : Right l) : has key l = true ↔ ∃ h : pos key l < l.length, (l[pos key l]).1 = key := by
  unfold has
  rw [List.any_eq_true]
  constructor
  · rintro ⟨x, hx, e⟩
    have e := of_decide_eq_true e
    obtain ⟨j, hj, e2⟩ := List.mem_iff_getElem.1 hx
    have hk : l[j].1 = key := by rw [e2]; exact e
    have h1 : ¬ j < pos key l := fun h => by have := pos_ahead hj h; rw [hk, nlt_irrefl] at this; cases this
    have h2 : ¬ pos key l < j := fun h => by
      have h0 : pos key l < l.length := by omega
      have a := pos_at h0
      have hp := hr.2
      rw [List.pairwise_iff_getElem] at hp
      have := hp _ _ h0 hj h
      rw [hk, a] at this; cases this
    have e3 : pos key l = j := by omega
    refine ⟨by omega, ?_⟩
    simp only [e3]; exact hk
  · rintro ⟨h, e⟩
    exact ⟨_, List.getElem_mem h, decide_eq_true e⟩
end Ky
section
variable {F : Asn} {w : World} {R : Ending → World → Prop}
theorem scompare_any (x y : ByteArray) {c : Int} (hc : Hid (c = Ky.cmp x y)) (h : R (.returned (.int .i64 c)) w) : Calls Tryz.prog 103 #[.string x, .string y] w R :=
  (Tryz.strings_Compare x y w).mono fun e w' ⟨he, hw⟩ => by
    subst he hw
    rw [Ky.cmp_eq, ← hc.out]
    exact h
set_option maxRecDepth 100000 in
theorem fcmp_any (k v key : ByteArray) {c : Int} (hc : Hid (c = Ky.cmp k key)) (H : Sat F w) (h : ∀ w', Sat F w' → Io w w' → R (.returned (.int .i64 c)) w') : Calls Tryz.prog 102 #[.agg #[.string k, .string v], .string key] w R := by
  have HH := Lib.hid h
  clear h
  have K2 := H.new (.cells #[.string k, .string v] 50)
  have J2 := (Io.refl w).alloc (.cells #[.string k, .string v] 50)
  obtain ⟨q0, q1⟩ : _ ∧ _ := ⟨Sat.read K2.left.at 0, Sat.read K2.left.at 1⟩
  simp only [List.getElem?_toArray, List.getElem?_cons_zero, List.getElem?_cons_succ] at q0 q1
  go_enter Tryz.func102, Tryz.ntmps102
  go_wp2_with (go_at_call 103; with_reducible refine scompare_any k key hc ?_)
  exact HH.out _ K2.right J2
set_option maxRecDepth 100000 in
set_option maxHeartbeats 4000000 in
theorem esearch_any {l : List Ky.En} {v : Value} (hr : Ky.Right l) (hv : ReadsE F v l) (hl : l.length ≤ 1000000) (key : ByteArray) (H : Sat F w) {n : Nat} {d : Bool} (hn : Hid (n = Ky.pos key l)) (hd : Hid (d = Ky.has key l)) (h : ∀ w', Sat F w' → Io w w' → R (.returned (.tuple #[.int .i64 (n : Int), .bool d])) w') :
    Calls Tryz.prog 101 #[v, .string key, .func (.func 102) #[] #[]] w R := by
  obtain ⟨a, c, rfl, hm⟩ := readsE_len hv
  have HV := Lib.hid (fun k hk => readsE_get hv k hk)
  have HH := Lib.hid h
  have HR := Lib.hid hr
  clear h hv hr
  go_enter Tryz.func101, Tryz.ntmps101
  go_wp2_with fail
  go_loopw [9, 10] (fun x y wr => ∃ lo hi : Nat, x = .int .i64 (lo : Int) ∧ y = .int .i64 (hi : Int) ∧ lo ≤ hi ∧ hi ≤ l.length ∧
    Hid ((∀ t (ht : t < l.length), t < lo → Md.nlt l[t].1 key = true) ∧ ∀ t (ht : t < l.length), hi ≤ t → Md.nlt l[t].1 key = false) ∧ Sat F wr ∧ Io w wr) (fun x y _ => (RowKit.intOf y - RowKit.intOf x).toNat)
  case atStart => exact ⟨0, l.length, rfl, rfl, by omega, by omega, Lib.hid ⟨fun t ht h0 => absurd h0 (Nat.not_lt_zero _), fun t h1 h2 => by omega⟩, H, Io.refl _⟩
  case round =>
    obtain ⟨lo, hi, rfl, rfl, b1, b2, hs, Hk, Ik⟩ := hrel
    by_cases hlt : lo < hi
    · have hlti : (lo : Int) < (hi : Int) := by omega
      obtain ⟨k, hk⟩ : ∃ k, k = (lo + hi) / 2 := ⟨_, rfl⟩
      have hk2 : ((lo : Int) + (hi : Int)) / 2 = (k : Int) := by omega
      have hkn : k < l.length := by omega
      have hkl : lo ≤ k ∧ k < hi := by omega
      have hki : (k : Int) < (l.length : Int) := by omega
      have hk0 : (0 : Int) ≤ (k : Int) := by omega
      obtain ⟨b, off, xk, xv, rfl, hx, hc⟩ := HV.out k hkn
      obtain ⟨c0, c1⟩ := hc wr Hk
      obtain ⟨y, hy⟩ : ∃ y, Hid (y = Ky.cmp xk key) := ⟨_, Lib.hid rfl⟩
      have kx := Ky.cmp_lt xk key
      rw [← hy.out] at kx
      have HX := Lib.hid hx
      clear hc hx hk
      by_cases hy0 : y < 0
      · have hs' : Hid ((∀ t (ht : t < l.length), t < k + 1 → Md.nlt l[t].1 key = true) ∧ ∀ t (ht : t < l.length), hi ≤ t → Md.nlt l[t].1 key = false) := Lib.hid ⟨fun t ht h1 => by
          by_cases e : t = k
          · subst e; rw [HX.out]; exact kx.1 hy0
          · exact nlt_trans ((List.pairwise_iff_getElem.1 HR.out.2) t k ht hkn (by omega)) (by rw [HX.out]; exact kx.1 hy0), hs.out.2⟩
        clear kx hs
        go_wp2_with (go_at_call 102; with_reducible refine fcmp_any xk xv key hy Hk ?_; intro w4 H4 I4)
        go_roundw
        case rel => exact ⟨k + 1, hi, by go_num, rfl, by omega, b2, hs', H4, Ik.trans I4⟩
        case measure => simp [RowKit.intOf]; omega
      · have hs' : Hid ((∀ t (ht : t < l.length), t < lo → Md.nlt l[t].1 key = true) ∧ ∀ t (ht : t < l.length), k ≤ t → Md.nlt l[t].1 key = false) := Lib.hid ⟨hs.out.1, fun t ht h1 => by
          have kn : Md.nlt xk key = false := by
            cases e : Md.nlt xk key with
            | true => exact absurd (kx.2 e) hy0
            | false => rfl
          by_cases e : t = k
          · subst e; rw [HX.out]; exact kn
          · have g := (List.pairwise_iff_getElem.1 HR.out.2) k t hkn ht (by omega)
            rw [HX.out] at g
            cases e2 : Md.nlt l[t].1 key with
            | true => rw [nlt_trans g e2] at kn; cases kn
            | false => rfl⟩
        clear kx hs
        go_wp2_with (go_at_call 102; with_reducible refine fcmp_any xk xv key hy Hk ?_; intro w4 H4 I4)
        go_roundw
        case rel => exact ⟨lo, k, rfl, rfl, by omega, by omega, hs', H4, Ik.trans I4⟩
        case measure => simp [RowKit.intOf]; omega
    · obtain rfl : lo = hi := by omega
      have hge : ¬ (lo : Int) < (lo : Int) := by omega
      obtain rfl : n = lo := by rw [hn.out]; exact (Ky.pos_unique HR.out b2 (fun j hl' h1 => hs.out.1 j hl' h1) (fun j hl' h1 => hs.out.2 j hl' h1)).symm
      have ht := Ky.has_iff (key := key) HR.out
      rw [← hn.out, ← hd.out] at ht
      by_cases hin : n < l.length
      · have hini : (n : Int) < (l.length : Int) := by omega
        have hind : decide (n < l.length) = true := decide_eq_true hin
        have hc00 : (0 : Int) ≤ (n : Int) := by omega
        obtain ⟨b, off, xk, xv, rfl, hx, hc⟩ := HV.out n hin
        obtain ⟨c0, c1⟩ := hc wr Hk
        obtain ⟨y, hy⟩ : ∃ y, Hid (y = Ky.cmp xk key) := ⟨_, Lib.hid rfl⟩
        have kx := Ky.cmp_zero xk key
        rw [← hy.out] at kx
        have hdy : (y == 0) = d := by
          rw [Bool.eq_iff_iff, beq_iff_eq, kx, ht]
          exact ⟨fun e => ⟨hin, by rw [hx]; exact e⟩, fun ⟨_, e⟩ => by rw [hx] at e; exact e⟩
        clear kx hs hc hx ht
        go_wp2_with (go_at_call 102; with_reducible refine fcmp_any xk xv key hy Hk ?_; intro w4 H4 I4)
        exact HH.out _ H4 (Ik.trans I4)
      · have hge2 : ¬ (n : Int) < (l.length : Int) := by omega
        obtain rfl : d = false := by
          cases d with
          | false => rfl
          | true => obtain ⟨h, _⟩ := ht.1 rfl; exact absurd h hin
        have hdec : decide (n < l.length) = false := decide_eq_false hin
        clear ht hs
        go_wp2_with fail
        exact HH.out _ Hk Ik
set_option maxRecDepth 100000 in
theorem find_any {l : List Ky.En} {v : Value} (hr : Ky.Right l) (hv : ReadsE F v l) (hl : l.length ≤ 1000000) (key : ByteArray) (H : Sat F w) {n : Nat} {d : Bool} (hn : Hid (n = Ky.pos key l)) (hd : Hid (d = Ky.has key l)) (h : ∀ w', Sat F w' → Io w w' → R (.returned (.tuple #[.int .i64 (n : Int), .bool d])) w') :
    Calls Tryz.prog 73 #[v, .string key] w R := by
  have HH := Lib.hid h
  clear h
  go_enter Tryz.func73, Tryz.ntmps73
  go_wp2_with (go_at_call 101; with_reducible refine esearch_any hr hv hl key H hn hd ?_; intro w1 H1 I1)
  exact HH.out _ H1 I1
end
end Go.Proofs.YtojiffhknddleaaGreatDoor

/-
  slices.Grow, slices.Concat of one, two and three rows, node.glue: of entries, numbers, texts, by walks. It proves no statement by itself.
-/
namespace Go.Proofs.YtojiffhknddleaaGreatDoor
open Go.RowKit Go.Lib
set_option linter.unusedSimpArgs false
set_option linter.unusedVariables false
set_option linter.unusedSectionVars false
def encNu (x : Int) : List Value := [.int .i64 x]
theorem encNu_ok : Enc encNu 1 := ⟨fun _ => rfl, fun x u hu => by simp [encNu] at hu; rw [hu]; rfl⟩
theorem Tryz.rowNu : RowTy Tryz.prog 134 3 1 8 := ⟨Tryz.underlying134, ⟨.int .i64 0, rfl, by kernel_rfl⟩, by omega⟩
abbrev RowNu (v : Value) (l : List Int) : Asn := RowOf 3 1 encNu v l
abbrev ReadsNu (F : Asn) (v : Value) (l : List Int) : Prop := Reads encNu F v l
def encTx (x : ByteArray) : List Value := [.string x]
theorem encTx_ok : Enc encTx 1 := ⟨fun _ => rfl, fun x u hu => by simp [encTx] at hu; rw [hu]; rfl⟩
theorem Tryz.rowTx : RowTy Tryz.prog 115 9 1 16 := ⟨Tryz.underlying115, ⟨.string ⟨#[]⟩, rfl, by kernel_rfl⟩, by omega⟩
abbrev RowTx (v : Value) (l : List ByteArray) : Asn := RowOf 9 1 encTx v l
abbrev ReadsTx (F : Asn) (v : Value) (l : List ByteArray) : Prop := Reads encTx F v l
theorem reads_shape {α : Type} {enc : α → List Value} {F : Asn} {v : Value} {l : List α} (h : Reads enc F v l) : ∃ a c, v = .slice a l.length c ∧ (l.length : Int) ≤ 9223372036854775807 := by
  obtain ⟨a, c, h1, h2, _⟩ := h
  exact ⟨a, c, h1, by omega⟩
theorem cat_mid {A B C : Asn} {w : World} (h : Sat (A * (B * C)) w) : Sat (A * C) w := (h.of_eq (show A * (B * C) = B * (A * C) from by ac_rfl)).right
section
variable {F : Asn} {w : World} {R : Ending → World → Prop}
set_option maxRecDepth 100000 in
set_option maxHeartbeats 2000000 in
theorem growE_any (n : Nat) (hn : n ≤ 1000000) (H : Sat F w) (h : ∀ v' w', Sat (RowE v' [] * F) w' → Io w w' → R (.returned v') w') :
    Calls Tryz.prog 104 #[.slice none 0 0, .int .i64 (n : Int)] w R := by
  have HH := Lib.hid h
  clear h
  cases n with
  | zero =>
    go_enter Tryz.func104, Tryz.ntmps104
    go_wp2_with fail
    exact HH.out _ _ (rowOf_nil H) (Io.refl _)
  | succ n =>
    obtain ⟨i0, z, hi, hz0, hz1, hz2, hz3⟩ := Tryz.rowE.parts
    obtain ⟨g, c, w3, hr, H3, I3⟩ := run_make_nil (P := Tryz.prog) (t := 48) (tn := 3) (ty := 48) (kn := .i64) Tryz.underlying48 Tryz.underlying3 hi hz0 hz1 hz2 hz3 (by omega) H (n + 1) (by omega) (by unfold maxLen; omega) (by omega) .i64
    have hcap := (row_cap H3).2
    have H4 := row_shrink H3 (k := 0) (by omega)
    have q1 : (0 : Int) < ((n + 1 : Nat) : Int) := by omega
    have q2 : (0 : Int) ≤ (c : Int) := by omega
    have q3 : (c : Int) ≤ 9223372036854775807 := by unfold maxLen at hcap; omega
    have q4 : ((n + 1 : Nat) : Int) ≤ 1000000 := by omega
    have fin : Hid (Sat (RowE (.slice (some ⟨g, 0, none⟩) 0 c) [] * F) w3) := Lib.hid (by
      refine H4.of_eq ?_
      unfold RowE RowOf
      rw [Nat.zero_mul, List.take_zero]
      rfl)
    generalize hN : ((n + 1 : Nat) : Int) = N at *
    clear H H3 H4
    go_enter Tryz.func104, Tryz.ntmps104
    go_wp2_with (at_builtin; refine Lib.wpList_append_run _ rfl _ _ _ _ rfl _ _ rfl rfl _ _ hr ?_)
    exact HH.out _ _ fin.out I3
theorem growE_at (N : Int) (n : Nat) (hN : N = (n : Int)) (hn : n ≤ 1000000) (H : Sat F w) (h : ∀ v' w', Sat (RowE v' [] * F) w' → Io w w' → R (.returned v') w') :
    Calls Tryz.prog 104 #[.slice none 0 0, .int .i64 N] w R := by
  subst hN
  exact growE_any n hn H h
set_option maxRecDepth 100000 in
set_option maxHeartbeats 4000000 in
theorem concatE1_any {bb : Nat} {v1 : Value} {l1 : List Ky.En} (h1 : ReadsE F v1 l1) (k1 : l1.length ≤ 10000) (H : Sat (pts bb (.cells #[v1] 48 (0, 0)) * F) w) (h : ∀ v' w', Sat (RowE v' (l1) * F) w' → Io w w' → R (.returned v') w') :
    Calls Tryz.prog 75 #[.slice (some ⟨bb, 0, none⟩) 1 1] w R := by
  obtain ⟨a1, c1, rfl, m1⟩ := reads_shape h1
  have HH := Lib.hid h
  have HB := Lib.hid (fun G W (hW : Sat (pts bb (.cells #[.slice a1 l1.length c1] 48 (0, 0)) * G) W) => (⟨Sat.read hW.left.at 0, trivial⟩ : W.cell? ⟨bb, 0, none⟩ = some (.slice a1 l1.length c1) ∧ True))
  have r1 := Lib.hid (h1.with (G := pts bb (.cells #[.slice a1 l1.length c1] 48 (0, 0))))
  obtain ⟨b0, _⟩ := HB.out _ _ H
  have p1 : (0 : Int) ≤ (l1.length : Int) := by omega
  have q1 : (l1.length : Int) ≤ 10000 := by omega
  have L1 := Lib.hid k1
  clear h h1 k1
  go_enter Tryz.func75, Tryz.ntmps75
  go_wp2_with fail
  refine wp_loop_rounds 2 ?_
  rw [rounds_succ]
  go_wp2_with fail
  rw [rounds_succ]
  go_wp2_with (go_at_call 104; with_reducible refine growE_at _ (l1.length) (by omega) (by have := L1.out; omega) H ?_; intro y0 w0 H0 I0; obtain ⟨d0, _⟩ := HB.out _ _ H0.right)
  refine wp_loop_rounds 2 ?_
  rw [rounds_succ]
  go_wp2_with (at_builtin; refine wpList_append_recs Tryz.rowE encE_ok rfl (.tmp 31) (.tmp 32) rfl rfl H0 (by simp) (by have := L1.out; omega) rfl r1.out ?_; intro y1 w1 H1 I1)
  rw [rounds_succ]
  go_wp2_with fail
  rw [List.nil_append] at H1
  exact HH.out _ _ (cat_mid H1) (I0.trans I1)
theorem glueE1_any {bb : Nat} {v1 : Value} {l1 : List Ky.En} (h1 : ReadsE F v1 l1) (k1 : l1.length ≤ 10000) (H : Sat (pts bb (.cells #[v1] 48 (0, 0)) * F) w) (h : ∀ v' w', Sat (RowE v' (l1) * F) w' → Io w w' → R (.returned v') w') :
    Calls Tryz.prog 121 #[.slice (some ⟨bb, 0, none⟩) 1 1] w R := by
  have HH := Lib.hid h
  clear h
  go_enter Tryz.func121, Tryz.ntmps121
  go_wp2_with (go_at_call 75; with_reducible refine concatE1_any h1 k1 H ?_; intro y1 w1 H1 I1)
  exact HH.out _ _ H1 I1
set_option maxRecDepth 100000 in
set_option maxHeartbeats 4000000 in
theorem concatE2_any {bb : Nat} {v1 v2 : Value} {l1 l2 : List Ky.En} (h1 : ReadsE F v1 l1) (k1 : l1.length ≤ 10000) (h2 : ReadsE F v2 l2) (k2 : l2.length ≤ 10000) (H : Sat (pts bb (.cells #[v1, v2] 48 (0, 0)) * F) w) (h : ∀ v' w', Sat (RowE v' (l1 ++ l2) * F) w' → Io w w' → R (.returned v') w') :
    Calls Tryz.prog 75 #[.slice (some ⟨bb, 0, none⟩) 2 2] w R := by
  obtain ⟨a1, c1, rfl, m1⟩ := reads_shape h1
  obtain ⟨a2, c2, rfl, m2⟩ := reads_shape h2
  have HH := Lib.hid h
  have HB := Lib.hid (fun G W (hW : Sat (pts bb (.cells #[.slice a1 l1.length c1, .slice a2 l2.length c2] 48 (0, 0)) * G) W) => (⟨Sat.read hW.left.at 0, Sat.read hW.left.at 1⟩ : W.cell? ⟨bb, 0, none⟩ = some (.slice a1 l1.length c1) ∧ W.cell? ⟨bb, 1, none⟩ = some (.slice a2 l2.length c2)))
  have r1 := Lib.hid (h1.with (G := pts bb (.cells #[.slice a1 l1.length c1, .slice a2 l2.length c2] 48 (0, 0))))
  have r2 := Lib.hid (h2.with (G := pts bb (.cells #[.slice a1 l1.length c1, .slice a2 l2.length c2] 48 (0, 0))))
  obtain ⟨b0, b1⟩ := HB.out _ _ H
  have p1 : (0 : Int) ≤ (l1.length : Int) := by omega
  have q1 : (l1.length : Int) ≤ 10000 := by omega
  have p2 : (0 : Int) ≤ (l2.length : Int) := by omega
  have q2 : (l2.length : Int) ≤ 10000 := by omega
  have s2 : (0 : Int) ≤ (l1.length : Int) + (l2.length : Int) := by omega
  have L1 := Lib.hid k1
  have L2 := Lib.hid k2
  clear h h1 h2 k1 k2
  go_enter Tryz.func75, Tryz.ntmps75
  go_wp2_with fail
  refine wp_loop_rounds 3 ?_
  rw [rounds_succ]
  go_wp2_with fail
  rw [rounds_succ]
  go_wp2_with fail
  rw [rounds_succ]
  go_wp2_with (go_at_call 104; with_reducible refine growE_at _ (l1.length + l2.length) (by omega) (by have := L1.out; have := L2.out; omega) H ?_; intro y0 w0 H0 I0; obtain ⟨d0, d1⟩ := HB.out _ _ H0.right)
  refine wp_loop_rounds 3 ?_
  rw [rounds_succ]
  go_wp2_with (at_builtin; refine wpList_append_recs Tryz.rowE encE_ok rfl (.tmp 31) (.tmp 32) rfl rfl H0 (by simp) (by have := L1.out; have := L2.out; omega) rfl r1.out ?_; intro y1 w1 H1 I1; obtain ⟨e1_0, e1_1⟩ := HB.out _ _ H1.right)
  rw [rounds_succ]
  go_wp2_with (at_builtin; refine wpList_append_recs Tryz.rowE encE_ok rfl (.tmp 31) (.tmp 32) rfl rfl H1 (by have := L1.out; have := L2.out; simp; omega) (by have := L1.out; have := L2.out; omega) rfl r2.out ?_; intro y2 w2 H2 I2)
  rw [rounds_succ]
  go_wp2_with fail
  simp only [List.nil_append] at H2
  exact HH.out _ _ (cat_mid H2) ((I0.trans I1).trans I2)
theorem glueE2_any {bb : Nat} {v1 v2 : Value} {l1 l2 : List Ky.En} (h1 : ReadsE F v1 l1) (k1 : l1.length ≤ 10000) (h2 : ReadsE F v2 l2) (k2 : l2.length ≤ 10000) (H : Sat (pts bb (.cells #[v1, v2] 48 (0, 0)) * F) w) (h : ∀ v' w', Sat (RowE v' (l1 ++ l2) * F) w' → Io w w' → R (.returned v') w') :
    Calls Tryz.prog 121 #[.slice (some ⟨bb, 0, none⟩) 2 2] w R := by
  have HH := Lib.hid h
  clear h
  go_enter Tryz.func121, Tryz.ntmps121
  go_wp2_with (go_at_call 75; with_reducible refine concatE2_any h1 k1 h2 k2 H ?_; intro y1 w1 H1 I1)
  exact HH.out _ _ H1 I1
set_option maxRecDepth 100000 in
set_option maxHeartbeats 4000000 in
theorem concatE3_any {bb : Nat} {v1 v2 v3 : Value} {l1 l2 l3 : List Ky.En} (h1 : ReadsE F v1 l1) (k1 : l1.length ≤ 10000) (h2 : ReadsE F v2 l2) (k2 : l2.length ≤ 10000) (h3 : ReadsE F v3 l3) (k3 : l3.length ≤ 10000) (H : Sat (pts bb (.cells #[v1, v2, v3] 48 (0, 0)) * F) w) (h : ∀ v' w', Sat (RowE v' (l1 ++ l2 ++ l3) * F) w' → Io w w' → R (.returned v') w') :
    Calls Tryz.prog 75 #[.slice (some ⟨bb, 0, none⟩) 3 3] w R := by
  obtain ⟨a1, c1, rfl, m1⟩ := reads_shape h1
  obtain ⟨a2, c2, rfl, m2⟩ := reads_shape h2
  obtain ⟨a3, c3, rfl, m3⟩ := reads_shape h3
  have HH := Lib.hid h
  have HB := Lib.hid (fun G W (hW : Sat (pts bb (.cells #[.slice a1 l1.length c1, .slice a2 l2.length c2, .slice a3 l3.length c3] 48 (0, 0)) * G) W) => (⟨Sat.read hW.left.at 0, Sat.read hW.left.at 1, Sat.read hW.left.at 2⟩ : W.cell? ⟨bb, 0, none⟩ = some (.slice a1 l1.length c1) ∧ W.cell? ⟨bb, 1, none⟩ = some (.slice a2 l2.length c2) ∧ W.cell? ⟨bb, 2, none⟩ = some (.slice a3 l3.length c3)))
  have r1 := Lib.hid (h1.with (G := pts bb (.cells #[.slice a1 l1.length c1, .slice a2 l2.length c2, .slice a3 l3.length c3] 48 (0, 0))))
  have r2 := Lib.hid (h2.with (G := pts bb (.cells #[.slice a1 l1.length c1, .slice a2 l2.length c2, .slice a3 l3.length c3] 48 (0, 0))))
  have r3 := Lib.hid (h3.with (G := pts bb (.cells #[.slice a1 l1.length c1, .slice a2 l2.length c2, .slice a3 l3.length c3] 48 (0, 0))))
  obtain ⟨b0, b1, b2⟩ := HB.out _ _ H
  have p1 : (0 : Int) ≤ (l1.length : Int) := by omega
  have q1 : (l1.length : Int) ≤ 10000 := by omega
  have p2 : (0 : Int) ≤ (l2.length : Int) := by omega
  have q2 : (l2.length : Int) ≤ 10000 := by omega
  have p3 : (0 : Int) ≤ (l3.length : Int) := by omega
  have q3 : (l3.length : Int) ≤ 10000 := by omega
  have s2 : (0 : Int) ≤ (l1.length : Int) + (l2.length : Int) := by omega
  have s3 : (0 : Int) ≤ (l1.length : Int) + (l2.length : Int) + (l3.length : Int) := by omega
  have L1 := Lib.hid k1
  have L2 := Lib.hid k2
  have L3 := Lib.hid k3
  clear h h1 h2 h3 k1 k2 k3
  go_enter Tryz.func75, Tryz.ntmps75
  go_wp2_with fail
  refine wp_loop_rounds 4 ?_
  rw [rounds_succ]
  go_wp2_with fail
  rw [rounds_succ]
  go_wp2_with fail
  rw [rounds_succ]
  go_wp2_with fail
  rw [rounds_succ]
  go_wp2_with (go_at_call 104; with_reducible refine growE_at _ (l1.length + l2.length + l3.length) (by omega) (by have := L1.out; have := L2.out; have := L3.out; omega) H ?_; intro y0 w0 H0 I0; obtain ⟨d0, d1, d2⟩ := HB.out _ _ H0.right)
  refine wp_loop_rounds 4 ?_
  rw [rounds_succ]
  go_wp2_with (at_builtin; refine wpList_append_recs Tryz.rowE encE_ok rfl (.tmp 31) (.tmp 32) rfl rfl H0 (by simp) (by have := L1.out; have := L2.out; have := L3.out; omega) rfl r1.out ?_; intro y1 w1 H1 I1; obtain ⟨e1_0, e1_1, e1_2⟩ := HB.out _ _ H1.right)
  rw [rounds_succ]
  go_wp2_with (at_builtin; refine wpList_append_recs Tryz.rowE encE_ok rfl (.tmp 31) (.tmp 32) rfl rfl H1 (by have := L1.out; have := L2.out; have := L3.out; simp; omega) (by have := L1.out; have := L2.out; have := L3.out; omega) rfl r2.out ?_; intro y2 w2 H2 I2; obtain ⟨e2_0, e2_1, e2_2⟩ := HB.out _ _ H2.right)
  rw [rounds_succ]
  go_wp2_with (at_builtin; refine wpList_append_recs Tryz.rowE encE_ok rfl (.tmp 31) (.tmp 32) rfl rfl H2 (by have := L1.out; have := L2.out; have := L3.out; simp; omega) (by have := L1.out; have := L2.out; have := L3.out; omega) rfl r3.out ?_; intro y3 w3 H3 I3)
  rw [rounds_succ]
  go_wp2_with fail
  simp only [List.nil_append] at H3
  exact HH.out _ _ (cat_mid H3) (((I0.trans I1).trans I2).trans I3)
set_option maxRecDepth 100000 in
set_option maxHeartbeats 2000000 in
theorem growNu_any (n : Nat) (hn : n ≤ 1000000) (H : Sat F w) (h : ∀ v' w', Sat (RowNu v' [] * F) w' → Io w w' → R (.returned v') w') :
    Calls Tryz.prog 161 #[.slice none 0 0, .int .i64 (n : Int)] w R := by
  have HH := Lib.hid h
  clear h
  cases n with
  | zero =>
    go_enter Tryz.func161, Tryz.ntmps161
    go_wp2_with fail
    exact HH.out _ _ (rowOf_nil H) (Io.refl _)
  | succ n =>
    obtain ⟨i0, z, hi, hz0, hz1, hz2, hz3⟩ := Tryz.rowNu.parts
    obtain ⟨g, c, w3, hr, H3, I3⟩ := run_make_nil (P := Tryz.prog) (t := 134) (tn := 3) (ty := 134) (kn := .i64) Tryz.underlying134 Tryz.underlying3 hi hz0 hz1 hz2 hz3 (by omega) H (n + 1) (by omega) (by unfold maxLen; omega) (by omega) .i64
    have hcap := (row_cap H3).2
    have H4 := row_shrink H3 (k := 0) (by omega)
    have q1 : (0 : Int) < ((n + 1 : Nat) : Int) := by omega
    have q2 : (0 : Int) ≤ (c : Int) := by omega
    have q3 : (c : Int) ≤ 9223372036854775807 := by unfold maxLen at hcap; omega
    have q4 : ((n + 1 : Nat) : Int) ≤ 1000000 := by omega
    have fin : Hid (Sat (RowNu (.slice (some ⟨g, 0, none⟩) 0 c) [] * F) w3) := Lib.hid (by
      refine H4.of_eq ?_
      unfold RowNu RowOf
      rw [Nat.zero_mul, List.take_zero]
      rfl)
    generalize hN : ((n + 1 : Nat) : Int) = N at *
    clear H H3 H4
    go_enter Tryz.func161, Tryz.ntmps161
    go_wp2_with (at_builtin; refine Lib.wpList_append_run _ rfl _ _ _ _ rfl _ _ rfl rfl _ _ hr ?_)
    exact HH.out _ _ fin.out I3
theorem growNu_at (N : Int) (n : Nat) (hN : N = (n : Int)) (hn : n ≤ 1000000) (H : Sat F w) (h : ∀ v' w', Sat (RowNu v' [] * F) w' → Io w w' → R (.returned v') w') :
    Calls Tryz.prog 161 #[.slice none 0 0, .int .i64 N] w R := by
  subst hN
  exact growNu_any n hn H h
set_option maxRecDepth 100000 in
set_option maxHeartbeats 4000000 in
theorem concatNu1_any {bb : Nat} {v1 : Value} {l1 : List Int} (h1 : ReadsNu F v1 l1) (k1 : l1.length ≤ 10000) (H : Sat (pts bb (.cells #[v1] 134 (0, 0)) * F) w) (h : ∀ v' w', Sat (RowNu v' (l1) * F) w' → Io w w' → R (.returned v') w') :
    Calls Tryz.prog 146 #[.slice (some ⟨bb, 0, none⟩) 1 1] w R := by
  obtain ⟨a1, c1, rfl, m1⟩ := reads_shape h1
  have HH := Lib.hid h
  have HB := Lib.hid (fun G W (hW : Sat (pts bb (.cells #[.slice a1 l1.length c1] 134 (0, 0)) * G) W) => (⟨Sat.read hW.left.at 0, trivial⟩ : W.cell? ⟨bb, 0, none⟩ = some (.slice a1 l1.length c1) ∧ True))
  have r1 := Lib.hid (h1.with (G := pts bb (.cells #[.slice a1 l1.length c1] 134 (0, 0))))
  obtain ⟨b0, _⟩ := HB.out _ _ H
  have p1 : (0 : Int) ≤ (l1.length : Int) := by omega
  have q1 : (l1.length : Int) ≤ 10000 := by omega
  have L1 := Lib.hid k1
  clear h h1 k1
  go_enter Tryz.func146, Tryz.ntmps146
  go_wp2_with fail
  refine wp_loop_rounds 2 ?_
  rw [rounds_succ]
  go_wp2_with fail
  rw [rounds_succ]
  go_wp2_with (go_at_call 161; with_reducible refine growNu_at _ (l1.length) (by omega) (by have := L1.out; omega) H ?_; intro y0 w0 H0 I0; obtain ⟨d0, _⟩ := HB.out _ _ H0.right)
  refine wp_loop_rounds 2 ?_
  rw [rounds_succ]
  go_wp2_with (at_builtin; refine wpList_append_recs Tryz.rowNu encNu_ok rfl (.tmp 31) (.tmp 32) rfl rfl H0 (by simp) (by have := L1.out; omega) rfl r1.out ?_; intro y1 w1 H1 I1)
  rw [rounds_succ]
  go_wp2_with fail
  rw [List.nil_append] at H1
  exact HH.out _ _ (cat_mid H1) (I0.trans I1)
theorem glueNu1_any {bb : Nat} {v1 : Value} {l1 : List Int} (h1 : ReadsNu F v1 l1) (k1 : l1.length ≤ 10000) (H : Sat (pts bb (.cells #[v1] 134 (0, 0)) * F) w) (h : ∀ v' w', Sat (RowNu v' (l1) * F) w' → Io w w' → R (.returned v') w') :
    Calls Tryz.prog 122 #[.slice (some ⟨bb, 0, none⟩) 1 1] w R := by
  have HH := Lib.hid h
  clear h
  go_enter Tryz.func122, Tryz.ntmps122
  go_wp2_with (go_at_call 146; with_reducible refine concatNu1_any h1 k1 H ?_; intro y1 w1 H1 I1)
  exact HH.out _ _ H1 I1
set_option maxRecDepth 100000 in
set_option maxHeartbeats 4000000 in
theorem concatNu2_any {bb : Nat} {v1 v2 : Value} {l1 l2 : List Int} (h1 : ReadsNu F v1 l1) (k1 : l1.length ≤ 10000) (h2 : ReadsNu F v2 l2) (k2 : l2.length ≤ 10000) (H : Sat (pts bb (.cells #[v1, v2] 134 (0, 0)) * F) w) (h : ∀ v' w', Sat (RowNu v' (l1 ++ l2) * F) w' → Io w w' → R (.returned v') w') :
    Calls Tryz.prog 146 #[.slice (some ⟨bb, 0, none⟩) 2 2] w R := by
  obtain ⟨a1, c1, rfl, m1⟩ := reads_shape h1
  obtain ⟨a2, c2, rfl, m2⟩ := reads_shape h2
  have HH := Lib.hid h
  have HB := Lib.hid (fun G W (hW : Sat (pts bb (.cells #[.slice a1 l1.length c1, .slice a2 l2.length c2] 134 (0, 0)) * G) W) => (⟨Sat.read hW.left.at 0, Sat.read hW.left.at 1⟩ : W.cell? ⟨bb, 0, none⟩ = some (.slice a1 l1.length c1) ∧ W.cell? ⟨bb, 1, none⟩ = some (.slice a2 l2.length c2)))
  have r1 := Lib.hid (h1.with (G := pts bb (.cells #[.slice a1 l1.length c1, .slice a2 l2.length c2] 134 (0, 0))))
  have r2 := Lib.hid (h2.with (G := pts bb (.cells #[.slice a1 l1.length c1, .slice a2 l2.length c2] 134 (0, 0))))
  obtain ⟨b0, b1⟩ := HB.out _ _ H
  have p1 : (0 : Int) ≤ (l1.length : Int) := by omega
  have q1 : (l1.length : Int) ≤ 10000 := by omega
  have p2 : (0 : Int) ≤ (l2.length : Int) := by omega
  have q2 : (l2.length : Int) ≤ 10000 := by omega
  have s2 : (0 : Int) ≤ (l1.length : Int) + (l2.length : Int) := by omega
  have L1 := Lib.hid k1
  have L2 := Lib.hid k2
  clear h h1 h2 k1 k2
  go_enter Tryz.func146, Tryz.ntmps146
  go_wp2_with fail
  refine wp_loop_rounds 3 ?_
  rw [rounds_succ]
  go_wp2_with fail
  rw [rounds_succ]
  go_wp2_with fail
  rw [rounds_succ]
  go_wp2_with (go_at_call 161; with_reducible refine growNu_at _ (l1.length + l2.length) (by omega) (by have := L1.out; have := L2.out; omega) H ?_; intro y0 w0 H0 I0; obtain ⟨d0, d1⟩ := HB.out _ _ H0.right)
  refine wp_loop_rounds 3 ?_
  rw [rounds_succ]
  go_wp2_with (at_builtin; refine wpList_append_recs Tryz.rowNu encNu_ok rfl (.tmp 31) (.tmp 32) rfl rfl H0 (by simp) (by have := L1.out; have := L2.out; omega) rfl r1.out ?_; intro y1 w1 H1 I1; obtain ⟨e1_0, e1_1⟩ := HB.out _ _ H1.right)
  rw [rounds_succ]
  go_wp2_with (at_builtin; refine wpList_append_recs Tryz.rowNu encNu_ok rfl (.tmp 31) (.tmp 32) rfl rfl H1 (by have := L1.out; have := L2.out; simp; omega) (by have := L1.out; have := L2.out; omega) rfl r2.out ?_; intro y2 w2 H2 I2)
  rw [rounds_succ]
  go_wp2_with fail
  simp only [List.nil_append] at H2
  exact HH.out _ _ (cat_mid H2) ((I0.trans I1).trans I2)
theorem glueNu2_any {bb : Nat} {v1 v2 : Value} {l1 l2 : List Int} (h1 : ReadsNu F v1 l1) (k1 : l1.length ≤ 10000) (h2 : ReadsNu F v2 l2) (k2 : l2.length ≤ 10000) (H : Sat (pts bb (.cells #[v1, v2] 134 (0, 0)) * F) w) (h : ∀ v' w', Sat (RowNu v' (l1 ++ l2) * F) w' → Io w w' → R (.returned v') w') :
    Calls Tryz.prog 122 #[.slice (some ⟨bb, 0, none⟩) 2 2] w R := by
  have HH := Lib.hid h
  clear h
  go_enter Tryz.func122, Tryz.ntmps122
  go_wp2_with (go_at_call 146; with_reducible refine concatNu2_any h1 k1 h2 k2 H ?_; intro y1 w1 H1 I1)
  exact HH.out _ _ H1 I1
set_option maxRecDepth 100000 in
set_option maxHeartbeats 4000000 in
theorem concatNu3_any {bb : Nat} {v1 v2 v3 : Value} {l1 l2 l3 : List Int} (h1 : ReadsNu F v1 l1) (k1 : l1.length ≤ 10000) (h2 : ReadsNu F v2 l2) (k2 : l2.length ≤ 10000) (h3 : ReadsNu F v3 l3) (k3 : l3.length ≤ 10000) (H : Sat (pts bb (.cells #[v1, v2, v3] 134 (0, 0)) * F) w) (h : ∀ v' w', Sat (RowNu v' (l1 ++ l2 ++ l3) * F) w' → Io w w' → R (.returned v') w') :
    Calls Tryz.prog 146 #[.slice (some ⟨bb, 0, none⟩) 3 3] w R := by
  obtain ⟨a1, c1, rfl, m1⟩ := reads_shape h1
  obtain ⟨a2, c2, rfl, m2⟩ := reads_shape h2
  obtain ⟨a3, c3, rfl, m3⟩ := reads_shape h3
  have HH := Lib.hid h
  have HB := Lib.hid (fun G W (hW : Sat (pts bb (.cells #[.slice a1 l1.length c1, .slice a2 l2.length c2, .slice a3 l3.length c3] 134 (0, 0)) * G) W) => (⟨Sat.read hW.left.at 0, Sat.read hW.left.at 1, Sat.read hW.left.at 2⟩ : W.cell? ⟨bb, 0, none⟩ = some (.slice a1 l1.length c1) ∧ W.cell? ⟨bb, 1, none⟩ = some (.slice a2 l2.length c2) ∧ W.cell? ⟨bb, 2, none⟩ = some (.slice a3 l3.length c3)))
  have r1 := Lib.hid (h1.with (G := pts bb (.cells #[.slice a1 l1.length c1, .slice a2 l2.length c2, .slice a3 l3.length c3] 134 (0, 0))))
  have r2 := Lib.hid (h2.with (G := pts bb (.cells #[.slice a1 l1.length c1, .slice a2 l2.length c2, .slice a3 l3.length c3] 134 (0, 0))))
  have r3 := Lib.hid (h3.with (G := pts bb (.cells #[.slice a1 l1.length c1, .slice a2 l2.length c2, .slice a3 l3.length c3] 134 (0, 0))))
  obtain ⟨b0, b1, b2⟩ := HB.out _ _ H
  have p1 : (0 : Int) ≤ (l1.length : Int) := by omega
  have q1 : (l1.length : Int) ≤ 10000 := by omega
  have p2 : (0 : Int) ≤ (l2.length : Int) := by omega
  have q2 : (l2.length : Int) ≤ 10000 := by omega
  have p3 : (0 : Int) ≤ (l3.length : Int) := by omega
  have q3 : (l3.length : Int) ≤ 10000 := by omega
  have s2 : (0 : Int) ≤ (l1.length : Int) + (l2.length : Int) := by omega
  have s3 : (0 : Int) ≤ (l1.length : Int) + (l2.length : Int) + (l3.length : Int) := by omega
  have L1 := Lib.hid k1
  have L2 := Lib.hid k2
  have L3 := Lib.hid k3
  clear h h1 h2 h3 k1 k2 k3
  go_enter Tryz.func146, Tryz.ntmps146
  go_wp2_with fail
  refine wp_loop_rounds 4 ?_
  rw [rounds_succ]
  go_wp2_with fail
  rw [rounds_succ]
  go_wp2_with fail
  rw [rounds_succ]
  go_wp2_with fail
  rw [rounds_succ]
  go_wp2_with (go_at_call 161; with_reducible refine growNu_at _ (l1.length + l2.length + l3.length) (by omega) (by have := L1.out; have := L2.out; have := L3.out; omega) H ?_; intro y0 w0 H0 I0; obtain ⟨d0, d1, d2⟩ := HB.out _ _ H0.right)
  refine wp_loop_rounds 4 ?_
  rw [rounds_succ]
  go_wp2_with (at_builtin; refine wpList_append_recs Tryz.rowNu encNu_ok rfl (.tmp 31) (.tmp 32) rfl rfl H0 (by simp) (by have := L1.out; have := L2.out; have := L3.out; omega) rfl r1.out ?_; intro y1 w1 H1 I1; obtain ⟨e1_0, e1_1, e1_2⟩ := HB.out _ _ H1.right)
  rw [rounds_succ]
  go_wp2_with (at_builtin; refine wpList_append_recs Tryz.rowNu encNu_ok rfl (.tmp 31) (.tmp 32) rfl rfl H1 (by have := L1.out; have := L2.out; have := L3.out; simp; omega) (by have := L1.out; have := L2.out; have := L3.out; omega) rfl r2.out ?_; intro y2 w2 H2 I2; obtain ⟨e2_0, e2_1, e2_2⟩ := HB.out _ _ H2.right)
  rw [rounds_succ]
  go_wp2_with (at_builtin; refine wpList_append_recs Tryz.rowNu encNu_ok rfl (.tmp 31) (.tmp 32) rfl rfl H2 (by have := L1.out; have := L2.out; have := L3.out; simp; omega) (by have := L1.out; have := L2.out; have := L3.out; omega) rfl r3.out ?_; intro y3 w3 H3 I3)
  rw [rounds_succ]
  go_wp2_with fail
  simp only [List.nil_append] at H3
  exact HH.out _ _ (cat_mid H3) (((I0.trans I1).trans I2).trans I3)
theorem glueNu3_any {bb : Nat} {v1 v2 v3 : Value} {l1 l2 l3 : List Int} (h1 : ReadsNu F v1 l1) (k1 : l1.length ≤ 10000) (h2 : ReadsNu F v2 l2) (k2 : l2.length ≤ 10000) (h3 : ReadsNu F v3 l3) (k3 : l3.length ≤ 10000) (H : Sat (pts bb (.cells #[v1, v2, v3] 134 (0, 0)) * F) w) (h : ∀ v' w', Sat (RowNu v' (l1 ++ l2 ++ l3) * F) w' → Io w w' → R (.returned v') w') :
    Calls Tryz.prog 122 #[.slice (some ⟨bb, 0, none⟩) 3 3] w R := by
  have HH := Lib.hid h
  clear h
  go_enter Tryz.func122, Tryz.ntmps122
  go_wp2_with (go_at_call 146; with_reducible refine concatNu3_any h1 k1 h2 k2 h3 k3 H ?_; intro y1 w1 H1 I1)
  exact HH.out _ _ H1 I1
set_option maxRecDepth 100000 in
set_option maxHeartbeats 2000000 in
theorem growTx_any (n : Nat) (hn : n ≤ 1000000) (H : Sat F w) (h : ∀ v' w', Sat (RowTx v' [] * F) w' → Io w w' → R (.returned v') w') :
    Calls Tryz.prog 162 #[.slice none 0 0, .int .i64 (n : Int)] w R := by
  have HH := Lib.hid h
  clear h
  cases n with
  | zero =>
    go_enter Tryz.func162, Tryz.ntmps162
    go_wp2_with fail
    exact HH.out _ _ (rowOf_nil H) (Io.refl _)
  | succ n =>
    obtain ⟨i0, z, hi, hz0, hz1, hz2, hz3⟩ := Tryz.rowTx.parts
    obtain ⟨g, c, w3, hr, H3, I3⟩ := run_make_nil (P := Tryz.prog) (t := 115) (tn := 3) (ty := 115) (kn := .i64) Tryz.underlying115 Tryz.underlying3 hi hz0 hz1 hz2 hz3 (by omega) H (n + 1) (by omega) (by unfold maxLen; omega) (by omega) .i64
    have hcap := (row_cap H3).2
    have H4 := row_shrink H3 (k := 0) (by omega)
    have q1 : (0 : Int) < ((n + 1 : Nat) : Int) := by omega
    have q2 : (0 : Int) ≤ (c : Int) := by omega
    have q3 : (c : Int) ≤ 9223372036854775807 := by unfold maxLen at hcap; omega
    have q4 : ((n + 1 : Nat) : Int) ≤ 1000000 := by omega
    have fin : Hid (Sat (RowTx (.slice (some ⟨g, 0, none⟩) 0 c) [] * F) w3) := Lib.hid (by
      refine H4.of_eq ?_
      unfold RowTx RowOf
      rw [Nat.zero_mul, List.take_zero]
      rfl)
    generalize hN : ((n + 1 : Nat) : Int) = N at *
    clear H H3 H4
    go_enter Tryz.func162, Tryz.ntmps162
    go_wp2_with (at_builtin; refine Lib.wpList_append_run _ rfl _ _ _ _ rfl _ _ rfl rfl _ _ hr ?_)
    exact HH.out _ _ fin.out I3
theorem growTx_at (N : Int) (n : Nat) (hN : N = (n : Int)) (hn : n ≤ 1000000) (H : Sat F w) (h : ∀ v' w', Sat (RowTx v' [] * F) w' → Io w w' → R (.returned v') w') :
    Calls Tryz.prog 162 #[.slice none 0 0, .int .i64 N] w R := by
  subst hN
  exact growTx_any n hn H h
set_option maxRecDepth 100000 in
set_option maxHeartbeats 4000000 in
theorem concatTx1_any {bb : Nat} {v1 : Value} {l1 : List ByteArray} (h1 : ReadsTx F v1 l1) (k1 : l1.length ≤ 10000) (H : Sat (pts bb (.cells #[v1] 115 (0, 0)) * F) w) (h : ∀ v' w', Sat (RowTx v' (l1) * F) w' → Io w w' → R (.returned v') w') :
    Calls Tryz.prog 147 #[.slice (some ⟨bb, 0, none⟩) 1 1] w R := by
  obtain ⟨a1, c1, rfl, m1⟩ := reads_shape h1
  have HH := Lib.hid h
  have HB := Lib.hid (fun G W (hW : Sat (pts bb (.cells #[.slice a1 l1.length c1] 115 (0, 0)) * G) W) => (⟨Sat.read hW.left.at 0, trivial⟩ : W.cell? ⟨bb, 0, none⟩ = some (.slice a1 l1.length c1) ∧ True))
  have r1 := Lib.hid (h1.with (G := pts bb (.cells #[.slice a1 l1.length c1] 115 (0, 0))))
  obtain ⟨b0, _⟩ := HB.out _ _ H
  have p1 : (0 : Int) ≤ (l1.length : Int) := by omega
  have q1 : (l1.length : Int) ≤ 10000 := by omega
  have L1 := Lib.hid k1
  clear h h1 k1
  go_enter Tryz.func147, Tryz.ntmps147
  go_wp2_with fail
  refine wp_loop_rounds 2 ?_
  rw [rounds_succ]
  go_wp2_with fail
  rw [rounds_succ]
  go_wp2_with (go_at_call 162; with_reducible refine growTx_at _ (l1.length) (by omega) (by have := L1.out; omega) H ?_; intro y0 w0 H0 I0; obtain ⟨d0, _⟩ := HB.out _ _ H0.right)
  refine wp_loop_rounds 2 ?_
  rw [rounds_succ]
  go_wp2_with (at_builtin; refine wpList_append_recs Tryz.rowTx encTx_ok rfl (.tmp 31) (.tmp 32) rfl rfl H0 (by simp) (by have := L1.out; omega) rfl r1.out ?_; intro y1 w1 H1 I1)
  rw [rounds_succ]
  go_wp2_with fail
  rw [List.nil_append] at H1
  exact HH.out _ _ (cat_mid H1) (I0.trans I1)
theorem glueTx1_any {bb : Nat} {v1 : Value} {l1 : List ByteArray} (h1 : ReadsTx F v1 l1) (k1 : l1.length ≤ 10000) (H : Sat (pts bb (.cells #[v1] 115 (0, 0)) * F) w) (h : ∀ v' w', Sat (RowTx v' (l1) * F) w' → Io w w' → R (.returned v') w') :
    Calls Tryz.prog 123 #[.slice (some ⟨bb, 0, none⟩) 1 1] w R := by
  have HH := Lib.hid h
  clear h
  go_enter Tryz.func123, Tryz.ntmps123
  go_wp2_with (go_at_call 147; with_reducible refine concatTx1_any h1 k1 H ?_; intro y1 w1 H1 I1)
  exact HH.out _ _ H1 I1
set_option maxRecDepth 100000 in
set_option maxHeartbeats 4000000 in
theorem concatTx2_any {bb : Nat} {v1 v2 : Value} {l1 l2 : List ByteArray} (h1 : ReadsTx F v1 l1) (k1 : l1.length ≤ 10000) (h2 : ReadsTx F v2 l2) (k2 : l2.length ≤ 10000) (H : Sat (pts bb (.cells #[v1, v2] 115 (0, 0)) * F) w) (h : ∀ v' w', Sat (RowTx v' (l1 ++ l2) * F) w' → Io w w' → R (.returned v') w') :
    Calls Tryz.prog 147 #[.slice (some ⟨bb, 0, none⟩) 2 2] w R := by
  obtain ⟨a1, c1, rfl, m1⟩ := reads_shape h1
  obtain ⟨a2, c2, rfl, m2⟩ := reads_shape h2
  have HH := Lib.hid h
  have HB := Lib.hid (fun G W (hW : Sat (pts bb (.cells #[.slice a1 l1.length c1, .slice a2 l2.length c2] 115 (0, 0)) * G) W) => (⟨Sat.read hW.left.at 0, Sat.read hW.left.at 1⟩ : W.cell? ⟨bb, 0, none⟩ = some (.slice a1 l1.length c1) ∧ W.cell? ⟨bb, 1, none⟩ = some (.slice a2 l2.length c2)))
  have r1 := Lib.hid (h1.with (G := pts bb (.cells #[.slice a1 l1.length c1, .slice a2 l2.length c2] 115 (0, 0))))
  have r2 := Lib.hid (h2.with (G := pts bb (.cells #[.slice a1 l1.length c1, .slice a2 l2.length c2] 115 (0, 0))))
  obtain ⟨b0, b1⟩ := HB.out _ _ H
  have p1 : (0 : Int) ≤ (l1.length : Int) := by omega
  have q1 : (l1.length : Int) ≤ 10000 := by omega
  have p2 : (0 : Int) ≤ (l2.length : Int) := by omega
  have q2 : (l2.length : Int) ≤ 10000 := by omega
  have s2 : (0 : Int) ≤ (l1.length : Int) + (l2.length : Int) := by omega
  have L1 := Lib.hid k1
  have L2 := Lib.hid k2
  clear h h1 h2 k1 k2
  go_enter Tryz.func147, Tryz.ntmps147
  go_wp2_with fail
  refine wp_loop_rounds 3 ?_
  rw [rounds_succ]
  go_wp2_with fail
  rw [rounds_succ]
  go_wp2_with fail
  rw [rounds_succ]
  go_wp2_with (go_at_call 162; with_reducible refine growTx_at _ (l1.length + l2.length) (by omega) (by have := L1.out; have := L2.out; omega) H ?_; intro y0 w0 H0 I0; obtain ⟨d0, d1⟩ := HB.out _ _ H0.right)
  refine wp_loop_rounds 3 ?_
  rw [rounds_succ]
  go_wp2_with (at_builtin; refine wpList_append_recs Tryz.rowTx encTx_ok rfl (.tmp 31) (.tmp 32) rfl rfl H0 (by simp) (by have := L1.out; have := L2.out; omega) rfl r1.out ?_; intro y1 w1 H1 I1; obtain ⟨e1_0, e1_1⟩ := HB.out _ _ H1.right)
  rw [rounds_succ]
  go_wp2_with (at_builtin; refine wpList_append_recs Tryz.rowTx encTx_ok rfl (.tmp 31) (.tmp 32) rfl rfl H1 (by have := L1.out; have := L2.out; simp; omega) (by have := L1.out; have := L2.out; omega) rfl r2.out ?_; intro y2 w2 H2 I2)
  rw [rounds_succ]
  go_wp2_with fail
  simp only [List.nil_append] at H2
  exact HH.out _ _ (cat_mid H2) ((I0.trans I1).trans I2)
theorem glueTx2_any {bb : Nat} {v1 v2 : Value} {l1 l2 : List ByteArray} (h1 : ReadsTx F v1 l1) (k1 : l1.length ≤ 10000) (h2 : ReadsTx F v2 l2) (k2 : l2.length ≤ 10000) (H : Sat (pts bb (.cells #[v1, v2] 115 (0, 0)) * F) w) (h : ∀ v' w', Sat (RowTx v' (l1 ++ l2) * F) w' → Io w w' → R (.returned v') w') :
    Calls Tryz.prog 123 #[.slice (some ⟨bb, 0, none⟩) 2 2] w R := by
  have HH := Lib.hid h
  clear h
  go_enter Tryz.func123, Tryz.ntmps123
  go_wp2_with (go_at_call 147; with_reducible refine concatTx2_any h1 k1 h2 k2 H ?_; intro y1 w1 H1 I1)
  exact HH.out _ _ H1 I1
set_option maxRecDepth 100000 in
set_option maxHeartbeats 4000000 in
theorem concatTx3_any {bb : Nat} {v1 v2 v3 : Value} {l1 l2 l3 : List ByteArray} (h1 : ReadsTx F v1 l1) (k1 : l1.length ≤ 10000) (h2 : ReadsTx F v2 l2) (k2 : l2.length ≤ 10000) (h3 : ReadsTx F v3 l3) (k3 : l3.length ≤ 10000) (H : Sat (pts bb (.cells #[v1, v2, v3] 115 (0, 0)) * F) w) (h : ∀ v' w', Sat (RowTx v' (l1 ++ l2 ++ l3) * F) w' → Io w w' → R (.returned v') w') :
    Calls Tryz.prog 147 #[.slice (some ⟨bb, 0, none⟩) 3 3] w R := by
  obtain ⟨a1, c1, rfl, m1⟩ := reads_shape h1
  obtain ⟨a2, c2, rfl, m2⟩ := reads_shape h2
  obtain ⟨a3, c3, rfl, m3⟩ := reads_shape h3
  have HH := Lib.hid h
  have HB := Lib.hid (fun G W (hW : Sat (pts bb (.cells #[.slice a1 l1.length c1, .slice a2 l2.length c2, .slice a3 l3.length c3] 115 (0, 0)) * G) W) => (⟨Sat.read hW.left.at 0, Sat.read hW.left.at 1, Sat.read hW.left.at 2⟩ : W.cell? ⟨bb, 0, none⟩ = some (.slice a1 l1.length c1) ∧ W.cell? ⟨bb, 1, none⟩ = some (.slice a2 l2.length c2) ∧ W.cell? ⟨bb, 2, none⟩ = some (.slice a3 l3.length c3)))
  have r1 := Lib.hid (h1.with (G := pts bb (.cells #[.slice a1 l1.length c1, .slice a2 l2.length c2, .slice a3 l3.length c3] 115 (0, 0))))
  have r2 := Lib.hid (h2.with (G := pts bb (.cells #[.slice a1 l1.length c1, .slice a2 l2.length c2, .slice a3 l3.length c3] 115 (0, 0))))
  have r3 := Lib.hid (h3.with (G := pts bb (.cells #[.slice a1 l1.length c1, .slice a2 l2.length c2, .slice a3 l3.length c3] 115 (0, 0))))
  obtain ⟨b0, b1, b2⟩ := HB.out _ _ H
  have p1 : (0 : Int) ≤ (l1.length : Int) := by omega
  have q1 : (l1.length : Int) ≤ 10000 := by omega
  have p2 : (0 : Int) ≤ (l2.length : Int) := by omega
  have q2 : (l2.length : Int) ≤ 10000 := by omega
  have p3 : (0 : Int) ≤ (l3.length : Int) := by omega
  have q3 : (l3.length : Int) ≤ 10000 := by omega
  have s2 : (0 : Int) ≤ (l1.length : Int) + (l2.length : Int) := by omega
  have s3 : (0 : Int) ≤ (l1.length : Int) + (l2.length : Int) + (l3.length : Int) := by omega
  have L1 := Lib.hid k1
  have L2 := Lib.hid k2
  have L3 := Lib.hid k3
  clear h h1 h2 h3 k1 k2 k3
  go_enter Tryz.func147, Tryz.ntmps147
  go_wp2_with fail
  refine wp_loop_rounds 4 ?_
  rw [rounds_succ]
  go_wp2_with fail
  rw [rounds_succ]
  go_wp2_with fail
  rw [rounds_succ]
  go_wp2_with fail
  rw [rounds_succ]
  go_wp2_with (go_at_call 162; with_reducible refine growTx_at _ (l1.length + l2.length + l3.length) (by omega) (by have := L1.out; have := L2.out; have := L3.out; omega) H ?_; intro y0 w0 H0 I0; obtain ⟨d0, d1, d2⟩ := HB.out _ _ H0.right)
  refine wp_loop_rounds 4 ?_
  rw [rounds_succ]
  go_wp2_with (at_builtin; refine wpList_append_recs Tryz.rowTx encTx_ok rfl (.tmp 31) (.tmp 32) rfl rfl H0 (by simp) (by have := L1.out; have := L2.out; have := L3.out; omega) rfl r1.out ?_; intro y1 w1 H1 I1; obtain ⟨e1_0, e1_1, e1_2⟩ := HB.out _ _ H1.right)
  rw [rounds_succ]
  go_wp2_with (at_builtin; refine wpList_append_recs Tryz.rowTx encTx_ok rfl (.tmp 31) (.tmp 32) rfl rfl H1 (by have := L1.out; have := L2.out; have := L3.out; simp; omega) (by have := L1.out; have := L2.out; have := L3.out; omega) rfl r2.out ?_; intro y2 w2 H2 I2; obtain ⟨e2_0, e2_1, e2_2⟩ := HB.out _ _ H2.right)
  rw [rounds_succ]
  go_wp2_with (at_builtin; refine wpList_append_recs Tryz.rowTx encTx_ok rfl (.tmp 31) (.tmp 32) rfl rfl H2 (by have := L1.out; have := L2.out; have := L3.out; simp; omega) (by have := L1.out; have := L2.out; have := L3.out; omega) rfl r3.out ?_; intro y3 w3 H3 I3)
  rw [rounds_succ]
  go_wp2_with fail
  simp only [List.nil_append] at H3
  exact HH.out _ _ (cat_mid H3) (((I0.trans I1).trans I2).trans I3)
theorem glueTx3_any {bb : Nat} {v1 v2 v3 : Value} {l1 l2 l3 : List ByteArray} (h1 : ReadsTx F v1 l1) (k1 : l1.length ≤ 10000) (h2 : ReadsTx F v2 l2) (k2 : l2.length ≤ 10000) (h3 : ReadsTx F v3 l3) (k3 : l3.length ≤ 10000) (H : Sat (pts bb (.cells #[v1, v2, v3] 115 (0, 0)) * F) w) (h : ∀ v' w', Sat (RowTx v' (l1 ++ l2 ++ l3) * F) w' → Io w w' → R (.returned v') w') :
    Calls Tryz.prog 123 #[.slice (some ⟨bb, 0, none⟩) 3 3] w R := by
  have HH := Lib.hid h
  clear h
  go_enter Tryz.func123, Tryz.ntmps123
  go_wp2_with (go_at_call 147; with_reducible refine concatTx3_any h1 k1 h2 k2 h3 k3 H ?_; intro y1 w1 H1 I1)
  exact HH.out _ _ H1 I1
end
end Go.Proofs.YtojiffhknddleaaGreatDoor

/-
  Keys with values: entry.Delete, entry.Put, entry.Get, by walks. It proves no statement by itself.
-/
namespace Go.Proofs.YtojiffhknddleaaGreatDoor
open Go.RowKit Go.Lib
set_option linter.unusedSimpArgs false
set_option linter.unusedVariables false
set_option linter.unusedSectionVars false
namespace Ky
def put (l : List En) (k v : Nm) : List En := if has k l then l.set (pos k l) (k, v) else l.take (pos k l) ++ [(k, v)] ++ l.drop (pos k l)
def del (l : List En) (k : Nm) : List En := if has k l then l.take (pos k l) ++ l.drop (pos k l + 1) else l
def get (l : List En) (k : Nm) : Option Nm := if has k l then (l[pos k l]?).map (·.2) else none
end Ky
theorem reads_take {α : Type} {enc : α → List Value} {sz : Nat} (he : Enc enc sz) {F : Asn} {a : Option Addr} {n c c' : Nat} {l : List α} (h : Reads enc F (.slice a n c) l) (k : Nat) (hk : k ≤ l.length) : Reads enc F (.slice a k c') (l.take k) := by
  obtain ⟨a', c2, e, hm, h3⟩ := h
  cases e
  refine ⟨a, c', by rw [List.length_take, Nat.min_eq_left hk], by rw [List.length_take]; omega, ?_⟩
  rcases h3 with rfl | ⟨b, off, e, h3⟩
  · exact .inl (by simp)
  · refine .inr ⟨b, off, e, fun w hw j u hu => h3 w hw j u ?_⟩
    have hs : cellsOf enc l = cellsOf enc (l.take k) ++ cellsOf enc (l.drop k) := by rw [← cellsOf_append, List.take_append_drop]
    rw [hs, List.getElem?_append_left (List.getElem?_eq_some_iff.1 hu).1]
    exact hu
theorem reads_drop {α : Type} {enc : α → List Value} {sz : Nat} (he : Enc enc sz) {F : Asn} {b off n c c' : Nat} {l : List α} (h : Reads enc F (.slice (some ⟨b, off, none⟩) n c) l) (k : Nat) (hk : k ≤ l.length) (o : Nat) (ho : k < l.length → o = off + k * sz) : Reads enc F (.slice (some ⟨b, o, none⟩) (n - k) c') (l.drop k) := by
  obtain ⟨a', c2, e, hm, h3⟩ := h
  cases e
  refine ⟨_, c', by rw [List.length_drop], by rw [List.length_drop]; omega, ?_⟩
  by_cases hlt : k < l.length
  · rw [ho hlt]
    rcases h3 with rfl | ⟨b', off', e, h3⟩
    · exact .inl (by simp)
    · cases e
      refine .inr ⟨b, off + k * sz, rfl, fun w hw j u hu => ?_⟩
      rw [Nat.add_assoc]
      refine h3 w hw (k * sz + j) u ?_
      have hs : cellsOf enc l = cellsOf enc (l.take k) ++ cellsOf enc (l.drop k) := by rw [← cellsOf_append, List.take_append_drop]
      have hl : (cellsOf enc (l.take k)).length = k * sz := by rw [cellsOf_length he, List.length_take, Nat.min_eq_left hk]
      rw [hs, List.getElem?_append_right (by omega), hl, Nat.add_sub_cancel_left]
      exact hu
  · exact .inl (List.drop_of_length_le (by omega))
theorem reads_drop_if {α : Type} {enc : α → List Value} {sz : Nat} (he : Enc enc sz) {F : Asn} {b off n c : Nat} {l : List α} (h : Reads enc F (.slice (some ⟨b, off, none⟩) n c) l) (k : Nat) (hk : k ≤ l.length) (hc : n ≤ c) : Reads enc F (.slice (if c = k then some ⟨b, off, none⟩ else some ⟨b, off + k * sz, none⟩) (n - k) (c - k)) (l.drop k) := by
  have hn : n = l.length := by obtain ⟨_, _, e2, _⟩ := h; cases e2; rfl
  by_cases e : c = k
  · rw [if_pos e]; exact reads_drop he h k hk off (fun h' => by omega)
  · rw [if_neg e]; exact reads_drop he h k hk _ (fun _ => rfl)
/-- A slice value as rows that are owned, and parts of them, have it. -/
def SlOk (v : Value) (n : Nat) : Prop := (v = .slice none 0 0 ∧ n = 0) ∨ ∃ b off c, v = .slice (some ⟨b, off, none⟩) n c ∧ n ≤ c ∧ c ≤ maxLen
theorem slOk_row {α : Type} {enc : α → List Value} {sz : Nat} {e : TypeId} {v : Value} {l : List α} {F : Asn} {w : World} (H : Sat (RowOf e sz enc v l * F) w) : SlOk v l.length := by
  obtain ⟨_, ⟨rfl, h0, _⟩ | ⟨g, cap, cur, rfl, h2, h3, _⟩⟩ := sat_row.1 H
  · exact .inl ⟨rfl, h0⟩
  · exact .inr ⟨g, 0, cap, rfl, h2, h3⟩
theorem reads_lit {α : Type} {enc : α → List Value} {sz : Nat} (he : Enc enc sz) {e : TypeId} {g : Nat} (y : α) {F : Asn} : Reads enc (pts g (.cells (enc y).toArray e (0, 0)) * F) (.slice (some ⟨g, 0, none⟩) 1 1) [y] := by
  refine ⟨_, 1, rfl, by simp, .inr ⟨g, 0, rfl, fun w hw j u hu => ?_⟩⟩
  rw [Nat.zero_add, Sat.read hw.left.at j]
  simpa [cellsOf] using hu
theorem reads_none {α : Type} {enc : α → List Value} (F : Asn) (a : Option Addr) (c : Nat) : Reads enc F (.slice a 0 c) [] := ⟨a, c, rfl, by simp, .inl rfl⟩
section
variable {F : Asn} {w : World} {R : Ending → World → Prop}
set_option maxRecDepth 100000 in
set_option maxHeartbeats 8000000 in
theorem edelete_any {l : List Ky.En} {v : Value} (hr : Ky.Right l) (hs : Ky.Short 1000 l) (hv : ReadsE F v l) (hcap : SlOk v l.length) (hl : l.length ≤ 5000) (key : ByteArray) (hh : Ky.has key l = true) (H : Sat F w) (h : ∀ v' w', Sat (RowE v' (Ky.del l key) * F) w' → Io w w' → R (.returned v') w') :
    Calls Tryz.prog 68 #[v, .string key] w R := by
  have hpos : 0 < l.length := by obtain ⟨h0, _⟩ := (Ky.has_iff hr).1 hh; omega
  obtain ⟨b, off, c, rfl, hc1, hc2⟩ : ∃ b off c, v = .slice (some ⟨b, off, none⟩) l.length c ∧ l.length ≤ c ∧ c ≤ maxLen := by
    rcases hcap with ⟨_, h0⟩ | h
    · omega
    · exact h
  unfold maxLen at hc2
  have HH := Lib.hid h
  have HV := Lib.hid hv
  have HS := Lib.hid hs
  have HR := Lib.hid hr
  obtain ⟨n, hn⟩ : ∃ n, n = Ky.pos key l := ⟨_, rfl⟩
  obtain ⟨hlt, hat⟩ := (Ky.has_iff hr).1 hh
  rw [← hn] at hlt
  have HN := Lib.hid hn
  have HD : Hid (true = Ky.has key l) := Lib.hid hh.symm
  have HDR : Hid (true = decide (Ky.Right l)) := Lib.hid (decide_eq_true hr).symm
  have HDEL : Hid (Ky.del l key = l.take n ++ l.drop (n + 1)) := Lib.hid (by unfold Ky.del; rw [if_pos hh, ← hn])
  rw [HDEL.out] at HH
  clear h hv hs hr hcap hn hh hat
  have n0 : (0 : Int) ≤ (n : Int) := by omega
  have n1 : (n : Int) ≤ (l.length : Int) := by omega
  have n2 : (n : Int) ≤ (c : Int) := by omega
  obtain ⟨m, hm1⟩ : ∃ m, m = n + 1 := ⟨_, rfl⟩
  have HM1 := Lib.hid hm1
  rw [← hm1] at HH
  have n3 : (0 : Int) ≤ (m : Int) := by omega
  have n4 : (m : Int) ≤ (l.length : Int) := by omega
  have hw1 : IntKind.i64.wrap ((n : Int) + 1) = (m : Int) := by rw [IntKind.wrap_i64]; omega
  have n5 : (l.length : Int) ≤ (c : Int) := by omega
  have R1 : Hid (ReadsE F (.slice (some ⟨b, off, none⟩) n n) (l.take n)) := Lib.hid (reads_take encE_ok HV.out n (by omega))
  have R2 : Hid (ReadsE F (.slice (if c = m then some ⟨b, off, none⟩ else some ⟨b, off + m * 2, none⟩) (l.length - m) (c - m)) (l.drop m)) := Lib.hid (reads_drop_if encE_ok HV.out m (by omega) hc1)
  have L1 : Hid ((l.take n).length ≤ 10000) := Lib.hid (by rw [List.length_take]; omega)
  have L2 : Hid ((l.drop m).length ≤ 10000) := Lib.hid (by rw [List.length_drop]; omega)
  clear hm1
  go_enter Tryz.func68, Tryz.ntmps68
  go_upto_region 4 with (first
    | (go_at_call 73; with_reducible refine find_any HR.out HV.out (by omega) key H HN HD ?_; intro w1 H1 I1)
    | (go_at_call 72; with_reducible refine right_any HV.out HS.out (by omega) H1 HDR ?_; intro w2 H2 I2))
  refine region_tail 8 (by kernel_rfl) (by kernel_rfl) ?_
  simp only [List.take_succ_cons, List.take_zero, List.drop_succ_cons, List.drop_zero]
  repeat still_step
  refine wpStill_nil ?_
  generalize (if c = m then (some ⟨b, off, none⟩ : Option Addr) else some ⟨b, off + m * 2, none⟩) = ad at *
  generalize l.length - m = d1 at *
  generalize c - m = d2 at *
  have HB := (H2.new (.cells #[.slice (some ⟨b, off, none⟩) n n, .slice ad d1 d2] 48)).drew
  have JB := ((I1.trans I2).alloc (.cells #[.slice (some ⟨b, off, none⟩) n n, .slice ad d1 d2] 48)).drew
  go_wp2_with (go_at_call 75; with_reducible refine concatE2_any R1.out L1.out R2.out L2.out HB ?_; intro v5 w5 H5 I5)
  exact HH.out _ _ H5 (JB.trans I5)
set_option maxRecDepth 100000 in
set_option maxHeartbeats 8000000 in
/-- A key that is not there. -/
theorem eput_new {l : List Ky.En} {v : Value} (hr : Ky.Right l) (hs : Ky.Short 1000 l) (hv : ReadsE F v l) (hcap : SlOk v l.length) (hl : l.length ≤ 5000) (key val : ByteArray) (hc0 : Ky.chk key val = 0) (hz1 : key.size ≤ 1000) (hz2 : val.size ≤ 1000) (hh : Ky.has key l = false) (H : Sat F w) (h : ∀ v' w', Sat (RowE v' (Ky.put l key val) * F) w' → Io w w' → R (.returned v') w') :
    Calls Tryz.prog 50 #[v, .string key, .string val] w R := by
  have HH := Lib.hid h
  have HV := Lib.hid hv
  have HS := Lib.hid hs
  have HR := Lib.hid hr
  obtain ⟨n, hn⟩ : ∃ n, n = Ky.pos key l := ⟨_, rfl⟩
  have hnl : n ≤ l.length := by rw [hn]; exact Ky.pos_le key l
  have HN := Lib.hid hn
  have HD : Hid (false = Ky.has key l) := Lib.hid hh.symm
  have HDR : Hid (true = decide (Ky.Right l)) := Lib.hid (decide_eq_true hr).symm
  have HCH : Hid (0 = Ky.chk key val) := Lib.hid hc0.symm
  have HPUT : Hid (Ky.put l key val = l.take n ++ [(key, val)] ++ l.drop n) := Lib.hid (by unfold Ky.put; rw [hh, if_neg (by simp), ← hn])
  rw [HPUT.out] at HH
  have n0 : (0 : Int) ≤ (n : Int) := by omega
  have n1 : (n : Int) ≤ (l.length : Int) := by omega
  have hz3 : key.size ≤ 1000000 := by omega
  have hz4 : val.size ≤ 1000000 := by omega
  have hcp := hcap
  clear h hv hs hr hcap hn hh hc0
  rcases hcp with ⟨rfl, h0⟩ | ⟨b, off, c, rfl, hc1, hc2⟩
  · obtain rfl : l = [] := List.eq_nil_of_length_eq_zero h0
    obtain rfl : n = 0 := by simpa using hnl
    have R1 : Hid (ReadsE F (.slice none 0 0) ([] : List Ky.En)) := Lib.hid (reads_none F none 0)
    have R2 := R1
    have L1 : Hid (([] : List Ky.En).length ≤ 10000) := Lib.hid (by simp)
    have L2 := L1
    simp only [List.take_nil, List.drop_nil] at HH
    clear n1 h0 hnl hl
    go_enter Tryz.func50, Tryz.ntmps50
    go_upto_region 9 with (first
      | (go_at_call 73; with_reducible refine find_any HR.out HV.out (by simp) key H2 HN HD ?_; intro w3 H3 I3)
      | (go_at_call 47; with_reducible refine check_any key val hz3 hz4 HCH ?_)
      | (go_at_call 72; with_reducible refine right_any HV.out HS.out (by simp) H HDR ?_; intro w2 H2 I2))
    have H4 := H3.new (.cells #[.string key, .string val] 50)
    have I4 := (I2.trans I3).alloc (.cells #[.string key, .string val] 50)
    generalize w3.alloc (.cells #[.string key, .string val] 50) = w4 at *
    generalize w3.heap.size = bx at *
    have H5 := H4.new (.cells #[.string key, .string val] 50)
    have I5 := I4.alloc (.cells #[.string key, .string val] 50)
    have hsz5 : (w4.alloc (.cells #[.string key, .string val] 50)).heap.size = w4.heap.size + 1 := by simp
    have H6 := H5.new (.cells #[.slice none 0 0, .slice (some ⟨w4.heap.size, 0, none⟩) 1 1, .slice none 0 0] 48)
    rw [hsz5] at H6
    have I6 := I5.alloc (.cells #[.slice none 0 0, .slice (some ⟨w4.heap.size, 0, none⟩) 1 1, .slice none 0 0] 48)
    have Z0 := box_cells H4.drew
    have Z1 := box_cells H5.right.drew
    have Z2 := box_cells H6.right.right.drew
    have RX : Hid (ReadsE (pts w4.heap.size (.cells #[.string key, .string val] 50 (0, 0)) * (pts bx (.cells #[.string key, .string val] 50 (0, 0)) * F)) (.slice (some ⟨w4.heap.size, 0, none⟩) 1 1) [(key, val)]) := Lib.hid (reads_lit encE_ok (key, val))
    have R1' : Hid (ReadsE (pts w4.heap.size (.cells #[.string key, .string val] 50 (0, 0)) * (pts bx (.cells #[.string key, .string val] 50 (0, 0)) * F)) (.slice none 0 0) ([] : List Ky.En)) := Lib.hid (R1.out.with.with)
    have R2' : Hid (ReadsE (pts w4.heap.size (.cells #[.string key, .string val] 50 (0, 0)) * (pts bx (.cells #[.string key, .string val] 50 (0, 0)) * F)) (.slice none 0 0) ([] : List Ky.En)) := Lib.hid (R2.out.with.with)
    have L3 : Hid (([(key, val)] : List Ky.En).length ≤ 10000) := Lib.hid (by simp)
    have H6d := H6.drew
    go_region_held3 (fun W => W.cell? ⟨bx, 0, none⟩ = some (.string key) ∧ W.cell? ⟨bx, 1, none⟩ = some (.string val)) (first | exact Z0 | exact Z1 | exact Z2 | exact Z3) ((go_at_call 75; with_reducible refine concatE3_any R1'.out L1.out RX.out L3.out R2'.out L2.out H6d ?_; intro v7 w7 H7 I7; have Z3 := box_cells H7.right.right))
    all_goals
      go_wp2_with fail
      exact HH.out _ _ (cat_mid (cat_mid H7)) (I6.drew.trans I7)
  · unfold maxLen at hc2
    have n2 : (n : Int) ≤ (c : Int) := by omega
    have n5 : (l.length : Int) ≤ (c : Int) := by omega
    have R1 : Hid (ReadsE F (.slice (some ⟨b, off, none⟩) n n) (l.take n)) := Lib.hid (reads_take encE_ok HV.out n (by omega))
    have R2 : Hid (ReadsE F (.slice (if c = n then some ⟨b, off, none⟩ else some ⟨b, off + n * 2, none⟩) (l.length - n) (c - n)) (l.drop n)) := Lib.hid (reads_drop_if encE_ok HV.out n (by omega) hc1)
    have L1 : Hid ((l.take n).length ≤ 10000) := Lib.hid (by rw [List.length_take]; omega)
    have L2 : Hid ((l.drop n).length ≤ 10000) := Lib.hid (by rw [List.length_drop]; omega)
    go_enter Tryz.func50, Tryz.ntmps50
    go_upto_region 9 with (first
      | (go_at_call 73; with_reducible refine find_any HR.out HV.out (by omega) key H2 HN HD ?_; intro w3 H3 I3)
      | (go_at_call 47; with_reducible refine check_any key val hz3 hz4 HCH ?_)
      | (go_at_call 72; with_reducible refine right_any HV.out HS.out (by omega) H HDR ?_; intro w2 H2 I2))
    have H4 := H3.new (.cells #[.string key, .string val] 50)
    have I4 := (I2.trans I3).alloc (.cells #[.string key, .string val] 50)
    generalize w3.alloc (.cells #[.string key, .string val] 50) = w4 at *
    generalize w3.heap.size = bx at *
    have H5 := H4.new (.cells #[.string key, .string val] 50)
    have I5 := I4.alloc (.cells #[.string key, .string val] 50)
    have hsz5 : (w4.alloc (.cells #[.string key, .string val] 50)).heap.size = w4.heap.size + 1 := by simp
    generalize had : (if c = n then (some ⟨b, off, none⟩ : Option Addr) else some ⟨b, off + n * 2, none⟩) = ad at *
    generalize hd1 : l.length - n = d1 at *
    generalize hd2 : c - n = d2 at *
    have H6 := H5.new (.cells #[.slice (some ⟨b, off, none⟩) n n, .slice (some ⟨w4.heap.size, 0, none⟩) 1 1, .slice ad d1 d2] 48)
    rw [hsz5] at H6
    have I6 := I5.alloc (.cells #[.slice (some ⟨b, off, none⟩) n n, .slice (some ⟨w4.heap.size, 0, none⟩) 1 1, .slice ad d1 d2] 48)
    have Z0 := box_cells H4.drew
    have Z1 := box_cells H5.right.drew
    have Z2 := box_cells H6.right.right.drew
    have RX : Hid (ReadsE (pts w4.heap.size (.cells #[.string key, .string val] 50 (0, 0)) * (pts bx (.cells #[.string key, .string val] 50 (0, 0)) * F)) (.slice (some ⟨w4.heap.size, 0, none⟩) 1 1) [(key, val)]) := Lib.hid (reads_lit encE_ok (key, val))
    have R1' : Hid (ReadsE (pts w4.heap.size (.cells #[.string key, .string val] 50 (0, 0)) * (pts bx (.cells #[.string key, .string val] 50 (0, 0)) * F)) (.slice (some ⟨b, off, none⟩) n n) (l.take n)) := Lib.hid (R1.out.with.with)
    have R2' : Hid (ReadsE (pts w4.heap.size (.cells #[.string key, .string val] 50 (0, 0)) * (pts bx (.cells #[.string key, .string val] 50 (0, 0)) * F)) (.slice ad d1 d2) (l.drop n)) := Lib.hid (R2.out.with.with)
    have L3 : Hid (([(key, val)] : List Ky.En).length ≤ 10000) := Lib.hid (by simp)
    have H6d := H6.drew
    go_region_held3 (fun W => W.cell? ⟨bx, 0, none⟩ = some (.string key) ∧ W.cell? ⟨bx, 1, none⟩ = some (.string val)) (first | exact Z0 | exact Z1 | exact Z2 | exact Z3) ((go_at_call 75; with_reducible refine concatE3_any R1'.out L1.out RX.out L3.out R2'.out L2.out H6d ?_; intro v7 w7 H7 I7; have Z3 := box_cells H7.right.right))
    all_goals
      go_wp2_with fail
      exact HH.out _ _ (cat_mid (cat_mid H7)) (I6.drew.trans I7)
end
end Go.Proofs.YtojiffhknddleaaGreatDoor

/-
  Keys with values: slices.Clone, entry.Put of a key that is there, entry.Get, by walks. It proves no statement by itself.
-/
namespace Go.Proofs.YtojiffhknddleaaGreatDoor
open Go.RowKit Go.Lib
set_option linter.unusedSimpArgs false
set_option linter.unusedVariables false
set_option linter.unusedSectionVars false
theorem cellsOf_set {α : Type} {enc : α → List Value} {sz : Nat} (he : Enc enc sz) : ∀ (l : List α) (k : Nat) (hk : k < l.length) (i : Nat) (hi : i < sz) (y : α) (u : Value), enc y = (enc l[k]).set i u → (cellsOf enc l).set (k * sz + i) u = cellsOf enc (l.set k y)
  | x :: l, 0, hk, i, hi, y, u, h => by
    unfold cellsOf
    simp only [List.flatMap_cons, List.set_cons_zero, Nat.zero_mul, Nat.zero_add]
    rw [List.set_append_left _ _ (by rw [he.len]; exact hi), h]
    rfl
  | x :: l, k + 1, hk, i, hi, y, u, h => by
    have := cellsOf_set he l k (by simpa using hk) i hi y u h
    unfold cellsOf at this ⊢
    simp only [List.flatMap_cons, List.set_cons_succ]
    have e : (k + 1) * sz = k * sz + sz := Nat.succ_mul k sz
    rw [List.set_append_right _ _ (by rw [he.len]; omega), he.len, show (k + 1) * sz + i - sz = k * sz + i from by omega, this]
theorem rowOf_shape_ne {α : Type} {enc : α → List Value} {sz : Nat} {e : TypeId} {v : Value} {l : List α} {F : Asn} {w : World} (hl : l ≠ []) (H : Sat (RowOf e sz enc v l * F) w) : ∃ g c, v = .slice (some ⟨g, 0, none⟩) l.length c := by
  obtain ⟨hx, ⟨rfl, h0, _⟩ | ⟨g, cap, cur, rfl, h2, h3, h4, h5, _⟩⟩ := sat_row.1 H
  · exact absurd (List.eq_nil_of_length_eq_zero h0) hl
  · exact ⟨_, _, rfl⟩
theorem rowOf_set {α : Type} {enc : α → List Value} {sz : Nat} (he : Enc enc sz) {e : TypeId} {g n c : Nat} {l : List α} {F : Asn} {w : World} (H : Sat (RowOf e sz enc (.slice (some ⟨g, 0, none⟩) n c) l * F) w) (k : Nat) (hk : k < l.length) (i : Nat) (hi : i < sz) (y : α) (u : Value) (h : enc y = (enc l[k]).set i u) :
    Sat (RowOf e sz enc (.slice (some ⟨g, 0, none⟩) n c) (l.set k y) * F) (w.setCell ⟨g, k * sz + i, none⟩ u) := by
  have hn : n = l.length := row_len' H
  subst hn
  have := row_store H (k * sz + i) u
  rw [cellsOf_set he l k hk i hi y u h] at this
  unfold RowOf
  rw [List.length_set]
  exact this
where
  row_len' {n : Nat} {c : Nat} {g : Nat} {e : TypeId} {sz : Nat} {l : List α} {F : Asn} {w : World} (H : Sat (RowOf e sz enc (.slice (some ⟨g, 0, none⟩) n c) l * F) w) : n = l.length := by
    obtain ⟨hx, ⟨h0, _⟩ | ⟨g', cap, cur, e1, _⟩⟩ := sat_row.1 H
    · cases h0
    · cases e1; rfl
theorem rowOf_read2 {α : Type} {enc : α → List Value} {sz : Nat} (he : Enc enc sz) {e : TypeId} {g n c : Nat} {l : List α} {F : Asn} {w : World} (H : Sat (RowOf e sz enc (.slice (some ⟨g, 0, none⟩) n c) l * F) w) (k : Nat) (hk : k < l.length) (i : Nat) (hi : i < sz) (u : Value) (hu : (enc l[k])[i]? = some u) : w.cell? ⟨g, k * sz + i, none⟩ = some u := by
  have hn : n = l.length := by
    obtain ⟨hx, ⟨h0, _⟩ | ⟨g', cap, cur, e1, _⟩⟩ := sat_row.1 H
    · cases h0
    · cases e1; rfl
  subst hn
  exact row_read H (k * sz + i) u (by rw [cellsOf_get he l k hk i hi]; exact hu)
theorem rowOf_free2 {α : Type} {enc : α → List Value} {sz : Nat} {e : TypeId} {g n c : Nat} {l : List α} {F : Asn} {w : World} (H : Sat (RowOf e sz enc (.slice (some ⟨g, 0, none⟩) n c) l * F) w) (k : Nat) : w.frozen? ⟨g, k, none⟩ = false := by
  obtain ⟨hl, ⟨h0, _⟩ | ⟨g', cap, cur, e1, e2, e3, e4, e5, h⟩⟩ := sat_row.1 H
  · cases h0
  · cases e1
    exact Sat.free h.left.at k
/-- An entry is stored into a row. -/
theorem rowE_set {g n c : Nat} {l : List Ky.En} {F : Asn} {w : World} (H : Sat (RowE (.slice (some ⟨g, 0, none⟩) n c) l * F) w) (k : Nat) (hk : k < l.length) (x y : ByteArray) :
    Sat (RowE (.slice (some ⟨g, 0, none⟩) n c) (l.set k (x, y)) * F) ((w.setCell ⟨g, k * 2, none⟩ (.string x)).setCell ⟨g, k * 2 + 1, none⟩ (.string y)) := by
  have h1 := rowOf_set encE_ok H k hk 0 (by omega) (x, (l[k]).2) (.string x) rfl
  have h2 := rowOf_set encE_ok h1 k (by rw [List.length_set]; exact hk) 1 (by omega) (x, y) (.string y) (by rw [List.getElem_set_self]; rfl)
  rw [List.set_set] at h2
  exact h2
theorem eql_nilE (a : Addr) (n c : Nat) (w : World) : (binOp .eql 48 (.slice (some a) n c) (.slice none 0 0)).run Tryz.prog w = .ok (.bool false) w := by kernel_rfl
section
variable {F : Asn} {w : World} {R : Ending → World → Prop}
set_option maxRecDepth 100000 in
set_option maxHeartbeats 4000000 in
theorem eclone_any {l : List Ky.En} {b off c : Nat} (hv : ReadsE F (.slice (some ⟨b, off, none⟩) l.length c) l) (hl : l.length ≤ 5000) (H : Sat F w) (h : ∀ v' w', Sat (RowE v' l * F) w' → Io w w' → R (.returned v') w') :
    Calls Tryz.prog 74 #[.slice (some ⟨b, off, none⟩) l.length c] w R := by
  have HH := Lib.hid h
  have HV := Lib.hid hv
  clear h hv
  have eq := eql_nilE ⟨b, off, none⟩ l.length c
  have H1 := H.new (.cells #[] 50)
  have I1 := (Io.refl w).alloc (.cells #[] 50)
  have K1 : Sat (RowE (.slice (some ⟨w.heap.size, 0, none⟩) 0 0) [] * F) (w.alloc (.cells #[] 50)) := sat_row.2 ⟨by simp [cellsOf], .inr ⟨w.heap.size, 0, #[], rfl, by simp, by unfold maxLen; omega, rfl, by simp [cellsOf], H1⟩⟩
  go_enter Tryz.func74, Tryz.ntmps74
  go_wp2_with (at_builtin; refine wpList_append_recs Tryz.rowE encE_ok rfl (.tmp 5) (.tmp 6) rfl rfl K1 (by simp) (by omega) rfl HV.out ?_; intro v2 w2 H2 I2; rw [List.nil_append] at H2)
  exact HH.out _ _ H2 (I1.trans I2)
set_option maxRecDepth 100000 in
set_option maxHeartbeats 8000000 in
/-- A key that is there. -/
theorem eput_old {l : List Ky.En} {v : Value} (hr : Ky.Right l) (hs : Ky.Short 1000 l) (hv : ReadsE F v l) (hcap : SlOk v l.length) (hl : l.length ≤ 5000) (key val : ByteArray) (hc0 : Ky.chk key val = 0) (hz1 : key.size ≤ 1000) (hz2 : val.size ≤ 1000) (hh : Ky.has key l = true) (H : Sat F w) (h : ∀ v' w', Sat (RowE v' (Ky.put l key val) * F) w' → Io w w' → R (.returned v') w') :
    Calls Tryz.prog 50 #[v, .string key, .string val] w R := by
  have hpos : 0 < l.length := by obtain ⟨h0, _⟩ := (Ky.has_iff hr).1 hh; omega
  obtain ⟨b, off, c, rfl, hc1, hc2⟩ : ∃ b off c, v = .slice (some ⟨b, off, none⟩) l.length c ∧ l.length ≤ c ∧ c ≤ maxLen := by
    rcases hcap with ⟨_, h0⟩ | h
    · omega
    · exact h
  have HH := Lib.hid h
  have HV := Lib.hid hv
  have HS := Lib.hid hs
  have HR := Lib.hid hr
  obtain ⟨n, hn⟩ : ∃ n, n = Ky.pos key l := ⟨_, rfl⟩
  obtain ⟨hlt, hat⟩ := (Ky.has_iff hr).1 hh
  rw [← hn] at hlt
  have HN := Lib.hid hn
  have HD : Hid (true = Ky.has key l) := Lib.hid hh.symm
  have HDR : Hid (true = decide (Ky.Right l)) := Lib.hid (decide_eq_true hr).symm
  have HCH : Hid (0 = Ky.chk key val) := Lib.hid hc0.symm
  have HPUT : Hid (Ky.put l key val = l.set n (key, val)) := Lib.hid (by unfold Ky.put; rw [hh, if_pos rfl, ← hn])
  rw [HPUT.out] at HH
  have n0 : (0 : Int) ≤ (n : Int) := by omega
  have n1 : (n : Int) < (l.length : Int) := by omega
  have hz3 : key.size ≤ 1000000 := by omega
  have hz4 : val.size ≤ 1000000 := by omega
  have hne : l ≠ [] := by rintro rfl; simp at hpos
  clear h hv hs hr hcap hn hh hc0 hat
  go_enter Tryz.func50, Tryz.ntmps50
  go_wp2_with (first
    | (go_at_call 73; with_reducible refine find_any HR.out HV.out (by omega) key H2 HN HD ?_; intro w3 H3 I3; have H4 := H3.new (.cells #[.string key, .string val] 50); have I4 := (I2.trans I3).alloc (.cells #[.string key, .string val] 50))
    | (go_at_call 47; with_reducible refine check_any key val hz3 hz4 HCH ?_)
    | (go_at_call 72; with_reducible refine right_any HV.out HS.out (by omega) H HDR ?_; intro w2 H2 I2)
    | (go_at_call 74; with_reducible refine eclone_any HV.out.with hl H4 ?_; intro v5 w5 H5 I5
       obtain ⟨g, c5, e5⟩ := rowOf_shape_ne hne H5
       subst e5
       obtain ⟨z0, z1⟩ := box_cells H5.right
       have y0 := rowOf_read2 encE_ok H5 n hlt 0 (by omega) (.string (l[n]).1) rfl
       have y1 := rowOf_read2 encE_ok H5 n hlt 1 (by omega) (.string (l[n]).2) rfl
       have f0 := rowOf_free2 H5 (n * 2)
       have f1 := rowOf_free2 H5 (n * 2 + 1)
       have M1 := rowOf_set encE_ok H5 n hlt 0 (by omega) (key, (l[n]).2) (.string key) rfl
       have y2 := rowOf_read2 encE_ok M1 n (by rw [List.length_set]; exact hlt) 1 (by omega) (.string (l[n]).2) (by rw [List.getElem_set_self]; rfl)
       have f2 := rowOf_free2 M1 (n * 2 + 1)
       simp only [Nat.add_zero] at y0 y2 f2
       have H6 := rowE_set H5 n hlt key val
       have I6 := ((I4.trans I5).setCell ⟨g, n * 2, none⟩ (.string key)).setCell ⟨g, n * 2 + 1, none⟩ (.string val)))
  exact HH.out _ _ (cat_mid H6) I6
theorem eput_any {l : List Ky.En} {v : Value} (hr : Ky.Right l) (hs : Ky.Short 1000 l) (hv : ReadsE F v l) (hcap : SlOk v l.length) (hl : l.length ≤ 5000) (key val : ByteArray) (hc0 : Ky.chk key val = 0) (hz1 : key.size ≤ 1000) (hz2 : val.size ≤ 1000) (H : Sat F w) (h : ∀ v' w', Sat (RowE v' (Ky.put l key val) * F) w' → Io w w' → R (.returned v') w') :
    Calls Tryz.prog 50 #[v, .string key, .string val] w R := by
  cases hh : Ky.has key l with
  | true => exact eput_old hr hs hv hcap hl key val hc0 hz1 hz2 hh H h
  | false => exact eput_new hr hs hv hcap hl key val hc0 hz1 hz2 hh H h
set_option maxRecDepth 100000 in
set_option maxHeartbeats 4000000 in
theorem eget_any {l : List Ky.En} {v : Value} (hr : Ky.Right l) (hs : Ky.Short 1000 l) (hv : ReadsE F v l) (hl : l.length ≤ 5000) (key : ByteArray) {val : ByteArray} {d : Bool} (hg : Hid ((d = true ∧ Ky.get l key = some val) ∨ (d = false ∧ val = ⟨#[]⟩ ∧ Ky.get l key = none))) (H : Sat F w) (h : ∀ w', Sat F w' → Io w w' → R (.returned (.tuple #[.string val, .bool d])) w') :
    Calls Tryz.prog 91 #[v, .string key] w R := by
  obtain ⟨a, c, rfl, hm⟩ := readsE_len hv
  have HH := Lib.hid h
  have HV := Lib.hid hv
  have HS := Lib.hid hs
  have HR := Lib.hid hr
  obtain ⟨n, hn⟩ : ∃ n, n = Ky.pos key l := ⟨_, rfl⟩
  have HN := Lib.hid hn
  have HDR : Hid (true = decide (Ky.Right l)) := Lib.hid (decide_eq_true hr).symm
  have hgo := hg.out
  unfold Ky.get at hgo
  cases hh : Ky.has key l with
  | true =>
    obtain ⟨hlt, hat⟩ := (Ky.has_iff hr).1 hh
    rw [← hn] at hlt
    rw [hh, if_pos rfl, ← hn, List.getElem?_eq_getElem hlt] at hgo
    have HD : Hid (true = Ky.has key l) := Lib.hid hh.symm
    obtain ⟨b, off, xk, xv, rfl, hx, hc⟩ := readsE_get hv n hlt
    obtain ⟨rfl, rfl⟩ : d = true ∧ val = xv := by
      rcases hgo with ⟨e1, e2⟩ | ⟨_, _, e2⟩
      · rw [hx] at e2
        simp only [Option.map_some, Option.some.injEq] at e2
        exact ⟨e1, e2.symm⟩
      · cases e2
    have HC := Lib.hid hc
    have n0 : (0 : Int) ≤ (n : Int) := by omega
    have n1 : (n : Int) < (l.length : Int) := by omega
    clear h hv hs hr hn hh hat hx hc hgo hg
    go_enter Tryz.func91, Tryz.ntmps91
    go_wp2_with (first
      | (go_at_call 73; with_reducible refine find_any HR.out HV.out (by omega) key H HN HD ?_; intro w3 H3 I3)
      | (go_at_call 72; with_reducible refine right_any HV.out HS.out (by omega) H3 HDR ?_; intro w2 H2 I2; obtain ⟨z0, z1⟩ := HC.out _ H2))
    exact HH.out _ H2 (I3.trans I2)
  | false =>
    rw [hh, if_neg (by simp)] at hgo
    obtain ⟨rfl, rfl⟩ : d = false ∧ val = ⟨#[]⟩ := by
      rcases hgo with ⟨_, e2⟩ | ⟨e1, e2, _⟩
      · cases e2
      · exact ⟨e1, e2⟩
    have HD : Hid (false = Ky.has key l) := Lib.hid hh.symm
    clear h hv hs hr hn hh hgo hg
    go_enter Tryz.func91, Tryz.ntmps91
    go_wp2_with (go_at_call 73; with_reducible refine find_any HR.out HV.out (by omega) key H HN HD ?_; intro w3 H3 I3)
    exact HH.out _ H3 I3
end
end Go.Proofs.YtojiffhknddleaaGreatDoor
