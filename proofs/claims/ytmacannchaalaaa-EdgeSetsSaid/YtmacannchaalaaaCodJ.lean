/-
  Joined texts, and the document's numbers as bytes: what they do, by their walks. It proves no statement by itself.
-/
import Derived.Test.YtmacannchaalaaaCodR
namespace Go.Proofs.Ytmacannchaalaaa
open Go.RowKit
set_option linter.unusedSimpArgs false
set_option linter.unusedVariables false

/-- Texts, one behind the other. -/
def cat (xs : List ByteArray) : List UInt8 := (xs.map fun s => s.data.toList).flatten

theorem join_cat : ∀ xs : List ByteArray, Lib.join (xs.map (·.data.toList)) ([] : List UInt8) = cat xs
  | [] => rfl
  | x :: l => by
    rw [List.map_cons, Lib.join_cons]
    have e : ((fun x : List UInt8 => x) ∘ fun x : ByteArray => x.data.toList) = fun x : ByteArray => x.data.toList := rfl
    simp [cat, Lib.joinTail, e]

theorem conv_one {P : Program} (src e dst : TypeId) (hs : P.underlying src = some (.slice e)) (he : P.underlying e = some (.int .u8)) (hd : P.underlying dst = some .string)
    (y : Int) (w : World) :
    (convert src dst (.slice (some ⟨w.heap.size, 0, none⟩) 1 1)).run P (w.alloc (.cells #[.int .u8 y] e)) = .ok (.string (tx [UInt8.ofNat y.toNat])) (w.alloc (.cells #[.int .u8 y] e)) := by
  have := run_convert_bytes_arg (P := P) (w.alloc (.cells #[.int .u8 y] e)) src e hs he w.heap.size 0 1 1 [y] rfl (by
    intro i hi
    obtain rfl : i = 0 := by omega
    simp) dst hd
  simpa [strOfNums, tx] using this

section
variable {F : Asn} {w : World} {R : Ending → World → Prop}

theorem join_any (H : Sat F w) (b n c : Nat) (xs : List ByteArray) (hn : n = xs.length) (hb : b < w.heap.size) (hc : ∀ j x, xs[j]? = some x → w.cell? ⟨b, j, none⟩ = some (.string x)) (hcap : n ≤ c) (hlen : (cat xs).length ≤ 1000000)
    (hcl : xs.length ≤ 1000000) (h : ∀ w', Sat F w' → Io w w' → R (.returned (.string (tx (cat xs)))) w') :
    Calls Try.prog 32 #[.slice (some ⟨b, 0, none⟩) n c] w R := by
  subst hn
  have hj := Try.strings_Join b 0 c xs ⟨#[]⟩ w (by simpa using hc) hb (by omega) hcap (by have := join_cat xs; show (Lib.join (xs.map (·.data.toList)) []).length ≤ _; rw [this]; omega)
  have e : Lib.join (xs.map (·.data.toList)) (⟨#[]⟩ : ByteArray).data.toList = cat xs := join_cat xs
  rw [e] at hj
  have hcl' : (xs.length : Int) ≤ 1000000 := by omega
  go_enter Try.func32, Try.ntmps32
  go_wp2_with (go_at_call 51; refine hj.mono ?_; rintro e w' ⟨rfl, hb1⟩)
  exact h w' (below_sat H hb1) (below_io hb1)

/-! ### the document's Put -/

theorem be_cons : ∀ k n, be (k + 1) n = UInt8.ofNat (n / 256 ^ k % 256) :: be k n
  | 0, n => by simp [be]
  | k + 1, n => by
    rw [be, be_cons k (n / 256), be, List.cons_append, Nat.div_div_eq_div_mul, Nat.pow_succ, Nat.mul_comm 256]

/-- What the document's Put makes. -/
def rputS (k : Nat) (n : Int) : ByteArray := if 0 ≤ n then tx (be k n.toNat) else ByteArray.empty
theorem rput_fits {k : Nat} {n : Int} (h : fits k n = true) : rputS k n = putS k n := by
  unfold rputS putS
  rw [if_pos h, if_pos (by simp [fits] at h; omega)]

set_option maxRecDepth 100000 in
set_option maxHeartbeats 1000000 in
theorem rput_any (k : Nat) (hk : k = 1 ∨ k = 2 ∨ k = 4) (n : Int) (hn1 : n ≤ 9223372036854775807) (H : Sat F w) (h : ∀ w', Sat F w' → Io w w' → R (.returned (.tuple #[.string (rputS k n), .bool (fits k n)])) w') :
    Calls Try.prog 36 #[.int .i64 (k : Int), .int .i64 n] w R := by
  by_cases h0 : 0 ≤ n
  · obtain ⟨m, rfl⟩ := Int.eq_ofNat_of_zero_le h0
    have e1 : rputS k (m : Int) = tx (be k m) := by unfold rputS; rw [if_pos h0, Int.toNat_natCast]
    have e2 : fits k (m : Int) = ((m : Int) / ((256 ^ k : Nat) : Int) == 0) := by
      unfold fits
      simp only [h0, decide_true, Bool.true_and]
      have hp : 0 < 256 ^ k := Nat.pow_pos (by decide)
      rw [Bool.eq_iff_iff, decide_eq_true_iff, beq_iff_eq]
      have : (m : Int) / ((256 ^ k : Nat) : Int) = ((m / 256 ^ k : Nat) : Int) := by simp
      rw [this]
      have h2 : ((m / 256 ^ k : Nat) : Int) = 0 ↔ m / 256 ^ k = 0 := by omega
      rw [h2, Nat.div_eq_zero_iff]
      have h3 : ((256 : Int) ^ k) = ((256 ^ k : Nat) : Int) := by simp
      rw [h3]
      omega
    rw [e1, e2] at h
    have HH := Lib.hid h
    have kc := fun y w => conv_one (P := Try.prog) 71 5 9 Try.underlying71 Try.underlying5 Try.underlying9 y w
    have hlt0 : decide ((m : Int) < 0) = false := by simp
    clear h e1 e2
    have hk1 : ((k : Int) != 1) = true ∧ ((k : Int) != 2) = true ∧ ((k : Int) != 4) = false ∨ ((k : Int) != 1) = true ∧ ((k : Int) != 2) = false ∨ ((k : Int) != 1) = false := by
      rcases hk with rfl | rfl | rfl <;> simp
    have hk8 : (k : Int) ≤ 4 := by omega
    have HK := Lib.hid hk
    clear hk
    rcases hk1 with ⟨a1, a2, a3⟩ | ⟨a1, a2⟩ | a1
    all_goals
      go_enter Try.func36, Try.ntmps36
      go_wp2_with fail
      go_loopw [1, 6, 7] (fun z x y wr => ∃ j : Nat, j ≤ k ∧ z = .int .i64 ((m / 256 ^ j : Nat) : Int) ∧ x = .string (tx (be j m)) ∧ y = .int .i64 (j : Int) ∧ Sat F wr ∧ Io w wr) (fun _ _ y _ => k - (intOf y).toNat)
      case atStart => exact ⟨0, by omega, by simp, rfl, rfl, H, Io.refl w⟩
      case round =>
        obtain ⟨j, hj, rfl, rfl, rfl, Hj, Ij⟩ := hrel
        by_cases hlt : j < k
        · have q1 := be_cons j m
          have q2 : m / 256 ^ j / 256 = m / 256 ^ (j + 1) := by rw [Nat.div_div_eq_div_mul, Nat.pow_succ]
          have q3 : m / 256 ^ j ≤ m := Nat.div_le_self _ _
          have hsz := tx_size (be j m)
          rw [be_length] at hsz
          have hj' : (j : Int) < (k : Int) := by omega
          generalize m / 256 ^ j = q at *
          have hadd : ∀ W, (Op.stringOp .add (tx [UInt8.ofNat (q % 256)]) (tx (be j m))).run Try.prog W = .ok (.string (tx (be (j + 1) m))) W := by
            intro W
            rw [run_string_add_sum W _ _ (by rw [tx_size, hsz]; simp; omega), tx_append, q1]
            rfl
          have q0 : (0 : Int) ≤ (q : Int) := by omega
          have q9 : (q : Int) ≤ 9223372036854775807 := by omega
          have HQ := Lib.hid q2
          clear q1 q2 q3 hsz hlt hj
          generalize ht1 : tx (be (j + 1) m) = t1 at *
          have HT := Lib.hid ht1
          clear ht1
          generalize tx (be j m) = t0 at *
          go_wp2_with fail
          go_roundw
          case rel => exact ⟨j + 1, by omega, by rw [← HQ.out]; go_num, by rw [HT.out], by go_num, (Hj.alloc _), (Ij.alloc _)⟩
          case measure => simp [intOf]; omega
        · obtain rfl : j = k := by omega
          have fin := HH.out _ Hj Ij
          clear hlt hj HH
          have e : ((256 ^ j : Nat) : Int) = (256 : Int) ^ j := by simp
          have q : ((m / 256 ^ j : Nat) : Int) = (m : Int) / ((256 ^ j : Nat) : Int) := by simp
          rw [← q] at fin
          clear e q
          generalize m / 256 ^ j = q at *
          generalize tx (be j m) = t0 at *
          go_wp2_with fail
          exact fin
  · have e1 : rputS k n = ByteArray.empty := by unfold rputS; rw [if_neg h0]
    have e2 : fits k n = false := by unfold fits; simp [h0]
    rw [e1, e2] at h
    have fin := h w H (Io.refl w)
    have hlt0 : decide (n < 0) = true := by simpa using h0
    have hk1 : ((k : Int) != 1) = true ∧ ((k : Int) != 2) = true ∧ ((k : Int) != 4) = false ∨ ((k : Int) != 1) = true ∧ ((k : Int) != 2) = false ∨ ((k : Int) != 1) = false := by
      rcases hk with rfl | rfl | rfl <;> simp
    clear h e1 e2 hk
    rcases hk1 with ⟨a1, a2, a3⟩ | ⟨a1, a2⟩ | a1
    all_goals
      go_enter Try.func36, Try.ntmps36
      go_wp2_with fail
      exact fin
end
end Go.Proofs.Ytmacannchaalaaa
