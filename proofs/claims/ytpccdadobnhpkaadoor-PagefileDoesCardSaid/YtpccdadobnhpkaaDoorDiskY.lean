/-
  What the calls on a disk do, by their walks: Crash, New. It proves no statement by itself.
-/
import Derived.Test.YtpccdadobnhpkaaDoorDiskX
namespace Go.Proofs.YtpccdadobnhpkaaDoor
open Go.RowKit
set_option linter.unusedSimpArgs false
set_option linter.unusedVariables false

/-- A slice value that reads as these numbers, wherever F holds. -/
def ReadsInts (F : Asn) (v : Value) (zs : List Int) : Prop :=
  ∃ a n c, v = .slice a n c ∧ n = zs.length ∧ n ≤ 9223372036854775807 ∧ (n = 0 ∨ ∃ b off, a = some ⟨b, off, none⟩ ∧ ∀ w, Sat F w → ∀ j, j < n → w.cell? ⟨b, off + j, none⟩ = some (.int .i64 (zs.getD j 0)))

theorem ReadsInts.with {F G : Asn} {v : Value} {zs : List Int} (h : ReadsInts F v zs) : ReadsInts (G * F) v zs := by
  obtain ⟨a, n, c, h1, h2, h3, h4⟩ := h
  refine ⟨a, n, c, h1, h2, h3, ?_⟩
  rcases h4 with h4 | ⟨b, off, h5, h6⟩
  · exact .inl h4
  · exact .inr ⟨b, off, h5, fun w hw => h6 w hw.right⟩

theorem ReadsInts.nil (F : Asn) : ReadsInts F (.slice none 0 0) [] := ⟨none, 0, 0, rfl, rfl, by omega, .inl rfl⟩

section
variable {p sb mb : Nat} {pf pv : Value} {ob : Obj} {d : Dk} {l : List (Int × ByteArray)} {w : World} {R : Ending → World → Prop} {F : Asn}

theorem contains_any {v : Value} {zs : List Int} (hr : ReadsInts F v zs) (H : Sat F w) (x : Int) (h : R (.returned (.bool (zs.contains x))) w) :
    Calls Tryd.prog 39 #[v, .int .i64 x] w R := by
  obtain ⟨a, n, c, rfl, hn, hb, h4⟩ := hr
  rcases h4 with rfl | ⟨b, off, rfl, h6⟩
  · have hz : zs = [] := List.eq_nil_of_length_eq_zero hn.symm
    subst hz
    refine (Tryd.slices_Contains_int_empty a c x w).mono ?_
    rintro e w' ⟨rfl, rfl⟩
    exact h
  · refine (Tryd.slices_Contains_int b off n c zs x w (by omega) hb (by intro j hj; exact h6 w H j (by omega))).mono ?_
    rintro e w' ⟨rfl, rfl⟩
    rw [hn, List.take_length]
    exact h

theorem crashes_snoc (keep : List Int) (torn cut : Int) (q : Int × ByteArray) : ∀ (l : List (Int × ByteArray)) (k : Nat) (sure : List ByteArray),
    Dk.crashes keep torn cut k (l ++ [q]) sure =
      if keep.contains ((k + l.length : Nat) : Int) then Dk.done (Dk.crashes keep torn cut k l sure) q (Dk.comes torn cut (k + l.length)) else Dk.crashes keep torn cut k l sure
  | [], k, sure => by simp [Dk.crashes]
  | r :: l, k, sure => by
    simp only [List.cons_append, Dk.crashes, crashes_snoc keep torn cut q l (k + 1), List.length_cons]
    rw [show k + 1 + l.length = k + (l.length + 1) from by omega]

theorem crashes_sect (keep : List Int) (torn cut : Int) : ∀ (l : List (Int × ByteArray)) (k : Nat) (sure : List ByteArray), (∀ i, i < sure.length → (sure.getD i ByteArray.empty).size = 256) → (∀ q ∈ l, q.2.size = 256) →
    ∀ i, i < (Dk.crashes keep torn cut k l sure).length → ((Dk.crashes keep torn cut k l sure).getD i ByteArray.empty).size = 256
  | [], k, sure, h, _ => h
  | q :: l, k, sure, h, ht => by
    unfold Dk.crashes
    refine crashes_sect keep torn cut l (k + 1) _ ?_ fun r hr => ht r (List.mem_cons_of_mem _ hr)
    split
    · exact Dk.done_sect h (ht q (List.mem_cons_self ..)) (Dk.comes_le _ _ _)
    · exact h

set_option maxRecDepth 100000 in
set_option maxHeartbeats 2000000 in
theorem crash_any {kv : Value} {keep : List Int} (H : Sat (IsDk p d * F) w) (hk : ReadsInts F kv keep) (ok : d.Ok) (hp : d.pend.length ≤ 1000000) (torn cut : Int)
    (h : ∀ w', Sat (IsDk p (d.crash keep torn cut) * F) w' → Io w w' → R (.returned (.tuple #[])) w') :
    Calls Tryd.prog 17 #[.pointer (some ⟨p, 0, none⟩), kv, .int .i64 torn, .int .i64 cut] w R := by
  obtain ⟨sb, mb, pv, ob, m, h1, h2, HP⟩ := isDk_open H
  have S := dk_seen HP
  have c2 := S.c2
  have HH : Hid (∀ w', Sat (IsDk p (d.crash keep torn cut) * F) w' → Io w w' → R (.returned (.tuple #[])) w') := h
  clear h
  rcases Nat.eq_zero_or_pos d.pend.length with hz | hz
  · have hnil : d.pend = [] := List.eq_nil_of_length_eq_zero hz
    have hs : d.crash keep torn cut = { ({ d with pend := [] } : Dk) with down := false, left := -1 } := by unfold Dk.crash; rw [hnil]; rfl
    have HN := Lib.hid hz
    have HS := Lib.hid hs
    have hlen : Sat (Row 75 2 pv d.pend.length (pcells d.pend) * emp) w := by rw [emp_star]; exact (dk_row ▸ HP).left
    obtain ⟨_, ⟨rfl, _, _⟩ | ⟨g, cap, cur, rfl, _⟩⟩ := sat_row.1 hlen
    all_goals
      clear hlen hs hnil
      (try simp only [HN.out] at c2)
      clear hz
      go_enter Tryd.func17, Tryd.ntmps17
      go_wp2_with fail
      refine wp_loop_rounds 1 ?_
      rw [rounds_succ]
      go_wp2_with (go_at_call 36; refine settle_any HP h1 ?_; intro w1 H1 I1; obtain ⟨sb1, mb1, pv1, ob1, m1, k1, k2, HQ⟩ := isDk_open H1; have S1 := dk_seen HQ; have l1 := S1.lp; have d3 := S1.c3; have d4 := S1.c4; have f3 := S1.fz 3; have f4 := S1.fz 4; clear S1)
      go_end0
      refine HH.out _ ?_ ((I1.setCell _ _).setCell _ _)
      rw [HS.out]
      exact isDk_shut k1 k2 (dk_left (dk_down HQ false) (-1))
  · obtain ⟨g, c, rfl⟩ := row_shape (dk_row ▸ HP) hz
    have hmany := ok.many
    have htxt := Lib.hid ok.txt
    have hrng := Lib.hid ok.rng
    have hsect := Lib.hid ok.sect
    have hpos := Lib.hid hz
    clear hz
    go_enter Tryd.func17, Tryd.ntmps17
    go_wp2_with fail
    go_loopw [16] (fun v wr => ∃ k : Nat, k ≤ d.pend.length ∧ v = .int .i64 (k : Int) ∧ Sat (DkMid p sb mb (.slice (some ⟨g, 0, none⟩) d.pend.length c) ob { d with sure := Dk.crashes keep torn cut 0 (d.pend.take k) d.sure } (.slice (some ⟨g, 0, none⟩) d.pend.length c) d.pend * F) wr ∧ Io w wr) (fun v _ => d.pend.length - (intOf v).toNat)
    case atStart => exact ⟨0, Nat.zero_le _, rfl, HP, Io.refl w⟩
    case round =>
      obtain ⟨k, hkk, rfl, Hk, Ik⟩ := hrel
      by_cases hlt : k < d.pend.length
      · obtain ⟨q0, q1, lg⟩ := pend_cells Hk k hlt
        have hmem : d.pend[k] ∈ d.pend := List.getElem_mem hlt
        have t1 := htxt.out _ hmem
        have t2 := hrng.out _ hmem
        have hl := Dk.crashes_length keep torn cut (d.pend.take k) 0 d.sure
        have hs := crashes_sect keep torn cut (d.pend.take k) 0 d.sure hsect.out (fun q hq => htxt.out q (List.mem_of_mem_take hq))
        have hs2 := hs d.pend[k].1.toNat (by rw [hl]; omega)
        have hsn : Dk.crashes keep torn cut 0 (d.pend.take (k + 1)) d.sure = if keep.contains (k : Int) then Dk.done (Dk.crashes keep torn cut 0 (d.pend.take k) d.sure) (d.pend[k].1, d.pend[k].2) (Dk.comes torn cut k) else Dk.crashes keep torn cut 0 (d.pend.take k) d.sure := by
          rw [List.take_succ_eq_append_getElem hlt, crashes_snoc, List.length_take, Nat.min_eq_left (by omega), Nat.zero_add]
        have T1 := Lib.hid t1
        have T2 := Lib.hid t2
        have HS := Lib.hid hs2
        have HL := Lib.hid hl
        clear t1 t2 hl hs hs2 hmem
        generalize d.pend[k].1 = a0 at *
        generalize d.pend[k].2 = a1 at *
        have hc := fun (W : World) (HW : Sat F W) => contains_any (R := fun e w' => e = .returned (.bool (keep.contains (k : Int))) ∧ W = w') hk HW (k : Int) ⟨rfl, rfl⟩
        cases hb : keep.contains (k : Int) with
        | true =>
          rw [hb] at hc hsn
          simp only [if_true] at hsn
          have HC := Lib.hid hc
          clear hb hc
          by_cases ht : (k : Int) = torn
          · have e : Dk.comes torn cut k = (min (max cut 0) 256).toNat := by simp [Dk.comes, ht]
            rw [e] at hsn
            have HSN := Lib.hid hsn
            have hb1 : ((k : Int) == torn) = true := by simpa using ht
            have hm0 : 0 ≤ min (max cut 0) 256 := by omega
            have hm1 : min (max cut 0) 256 ≤ 256 := by omega
            clear hsn e ht
            go_wp2_with (first | (go_at_call 39; refine (HC.out _ (Hk.alloc _).right).mono ?_; rintro e w' ⟨rfl, rfl⟩) | (go_at_call 35; refine done_int (Hk.alloc _) (by rw [HL.out]; exact hmany) a0 T2.out.1 (by rw [HL.out]; exact T2.out.2) a1 T1.out HS.out _ hm0 hm1 ?_; intro w1 H1 I1))
            go_roundw
            case rel => exact ⟨k + 1, by omega, by go_num, by rw [HSN.out]; exact H1, (Ik.alloc _).trans I1⟩
            case measure => simp [intOf]; omega
          · have e : Dk.comes torn cut k = (256 : Int).toNat := by simp [Dk.comes, ht]
            rw [e] at hsn
            have HSN := Lib.hid hsn
            have hb1 : ((k : Int) == torn) = false := by simpa using ht
            clear hsn e ht
            go_wp2_with (first | (go_at_call 39; refine (HC.out _ (Hk.alloc _).right).mono ?_; rintro e w' ⟨rfl, rfl⟩) | (go_at_call 35; refine done_int (Hk.alloc _) (by rw [HL.out]; exact hmany) a0 T2.out.1 (by rw [HL.out]; exact T2.out.2) a1 T1.out HS.out _ (by omega) (by omega) ?_; intro w1 H1 I1))
            go_roundw
            case rel => exact ⟨k + 1, by omega, by go_num, by rw [HSN.out]; exact H1, (Ik.alloc _).trans I1⟩
            case measure => simp [intOf]; omega
        | false =>
          rw [hb] at hc hsn
          simp only [Bool.false_eq_true, if_false] at hsn
          have HC := Lib.hid hc
          have HSN := Lib.hid hsn
          clear hb hc hsn
          by_cases ht : (k : Int) = torn
          · have hb1 : ((k : Int) == torn) = true := by simpa using ht
            clear ht
            go_wp2_with (first | (go_at_call 39; refine (HC.out _ (Hk.alloc _).right).mono ?_; rintro e w' ⟨rfl, rfl⟩))
            go_roundw
            case rel => exact ⟨k + 1, by omega, by go_num, by rw [HSN.out]; exact Hk.alloc _, Ik.alloc _⟩
            case measure => simp [intOf]; omega
          · have hb1 : ((k : Int) == torn) = false := by simpa using ht
            clear ht
            go_wp2_with (first | (go_at_call 39; refine (HC.out _ (Hk.alloc _).right).mono ?_; rintro e w' ⟨rfl, rfl⟩))
            go_roundw
            case rel => exact ⟨k + 1, by omega, by go_num, by rw [HSN.out]; exact Hk.alloc _, Ik.alloc _⟩
            case measure => simp [intOf]; omega
      · obtain rfl : k = d.pend.length := by omega
        have hs : d.crash keep torn cut = { ({ d with pend := [], sure := Dk.crashes keep torn cut 0 d.pend d.sure } : Dk) with down := false, left := -1 } := rfl
        rw [List.take_length] at Hk
        have HS := Lib.hid hs
        clear hs
        go_wp2_with (go_at_call 36; refine settle_any Hk h1 ?_; intro w1 H1 I1; obtain ⟨sb1, mb1, pv1, ob1, m1, k1, k2, HQ⟩ := isDk_open H1; have S1 := dk_seen HQ; have l1 := S1.lp; have d3 := S1.c3; have d4 := S1.c4; have f3 := S1.fz 3; have f4 := S1.fz 4; clear S1)
        go_end0
        refine HH.out _ ?_ ((Ik.trans I1).setCell _ _ |>.setCell _ _)
        rw [HS.out]
        exact isDk_shut k1 k2 (dk_left (dk_down HQ false) (-1))

/-! ### New -/

theorem sat_below {w w' : World} (H : Sat F w) (h : Below w.heap.size w w') : Sat F w' := H.keep fun k hk => h.block k hk
theorem io_below {B : Nat} {w w' : World} (h : Below B w w') : Io w w' := ⟨h.os, h.tape, h.output, h.size⟩

theorem zero_any (w : World) : Calls Tryd.prog 30 #[.string ⟨#[0]⟩, .int .i64 256] w fun e w' => e = .returned (.string (rp 256 0)) ∧ Below w.heap.size w w' := by
  have h := Tryd.strings_Repeat ⟨#[0]⟩ 256 w (by omega) (by decide)
  have e : (⟨(Lib.repeatL (⟨#[0]⟩ : ByteArray).data.toList 256).toArray⟩ : ByteArray) = rp 256 0 := by decide +kernel
  rw [e] at h
  exact h

set_option maxRecDepth 100000 in
set_option maxHeartbeats 1000000 in
theorem new_any (n : Int) (hn0 : -9223372036854775808 ≤ n) (hn1 : n ≤ 9223372036854775807) (H : Sat F w)
    (h : ∀ p w', Sat (IsDk p (Dk.new (min (max n 0) 16384).toNat) * F) w' → Io w w' → R (.returned (.pointer (some ⟨p, 0, none⟩))) w') :
    Calls Tryd.prog 9 #[.int .i64 n] w R := by
  have hm0 : 0 ≤ min (max n 0) 16384 := by omega
  have hm1 : min (max n 0) 16384 ≤ 16384 := by omega
  have hmm := @run_makeMap Tryd.prog
  have hrep := fun (b : Nat) (W : World) (HW : Sat F W) (hbl : b < W.heap.size) (hb : W.cell? ⟨b, 0, none⟩ = some (.string (rp 256 0))) {R : Ending → World → Prop} (h : ∀ g w', Sat (pts g (.cells (List.replicate (min (max n 0) 16384).toNat (Value.string (rp 256 0))).toArray 9 (0, 0)) * F) w' → Io W w' → R (.returned (.slice (some ⟨g, 0, none⟩) (min (max n 0) 16384).toNat (min (max n 0) 16384).toNat)) w') =>
    repeat_walk (R := R) b (min (max n 0) 16384).toNat (.string (rp 256 0)) rfl W HW hbl hb (by omega) h
  rw [Int.toNat_of_nonneg hm0] at hrep
  have HR := Lib.hid @hrep
  have HH : Hid (∀ p w', Sat (IsDk p (Dk.new (min (max n 0) 16384).toNat) * F) w' → Io w w' → R (.returned (.pointer (some ⟨p, 0, none⟩))) w') := h
  clear hrep h
  generalize hz : rp 256 0 = z at *
  go_enter Tryd.func9, Tryd.ntmps9
  go_wp2_with (first | (go_at_call 30; refine (zero_any _).mono ?_; rw [hz]; rintro e w1 ⟨rfl, B1⟩; have H1 := sat_below H B1) | (go_at_call 31; refine HR.out _ _ (H1.alloc _) (by simp) (by simp) ?_; intro g w2 H2 I2))
  have H3 := (H2.new (.map #[] 0)).new (.cells #[.slice (some ⟨g, 0, none⟩) (min (max n 0) 16384).toNat (min (max n 0) 16384).toNat, .map (some w2.heap.size), .slice none 0 0, .int .i64 (-1), .bool false, .int .i64 0, .int .i64 0] 71)
  have es : (w2.alloc (.map #[] 0)).heap.size = w2.heap.size + 1 := by simp
  rw [es] at H3
  refine HH.out (w2.heap.size + 1) _ (isDk_shut (sb := g) (mb := w2.heap.size) (pv := .slice none 0 0) (d := Dk.new (min (max n 0) 16384).toNat) (mapI_new .i64) agrees_nil ?_) (((((io_below B1).alloc _).trans I2).alloc _).alloc _)
  rw [dk_row]
  refine row_nil _ _ _ _ (H3.of_eq ?_)
  have e1 : strs (Dk.new (min (max n 0) 16384).toNat).sure = (List.replicate (min (max n 0) 16384).toNat (Value.string z)).toArray := by simp [strs, Dk.new, hz]
  have e2 : dkCells g w2.heap.size (.slice none 0 0) (Dk.new (min (max n 0) 16384).toNat) = #[.slice (some ⟨g, 0, none⟩) (min (max n 0) 16384).toNat (min (max n 0) 16384).toNat, .map (some w2.heap.size), .slice none 0 0, .int .i64 (-1), .bool false, .int .i64 0, .int .i64 0] := by simp [dkCells, Dk.new]
  rw [e1, e2]
  ac_rfl
end
end Go.Proofs.YtpccdadobnhpkaaDoor
