/-
  Pages and their bytes, in plain words. It proves no statement by itself.
-/
import Derived.Test.YtpccdadobnhpkaaDoorRtW
namespace Go.Proofs.YtpccdadobnhpkaaDoor
open Go.RowKit
set_option linter.unusedSimpArgs false
set_option linter.unusedVariables false

/-- All of a page behind its check. -/
def pgRest (id : Int) (kind : UInt8) (body : ByteArray) : List UInt8 :=
  be 4 id.toNat ++ (be 1 kind.toNat ++ (be 1 0 ++ (be 2 body.size ++ ([0, 0, 0, 0] ++ (body.data.toList ++ noughts (240 - body.size))))))
/-- A page's bytes. -/
def pgBytes (id : Int) (kind : UInt8) (body : ByteArray) : List UInt8 := be 4 (crcL (pgRest id kind body)) ++ pgRest id kind body

theorem pgRest_length {id : Int} {kind : UInt8} {body : ByteArray} (h : body.size ≤ 240) : (pgRest id kind body).length = 252 := by
  simp only [pgRest, List.length_append, be_length, noughts_length, size_list, List.length_cons, List.length_nil]
  omega
theorem pgBytes_length {id : Int} {kind : UInt8} {body : ByteArray} (h : body.size ≤ 240) : (pgBytes id kind body).length = 256 := by
  rw [pgBytes, List.length_append, be_length, pgRest_length h]

theorem noughts_iff (l : List UInt8) : l = noughts l.length ↔ ∀ b ∈ l, b = 0 := by
  constructor
  · intro h b hb
    rw [h] at hb
    exact List.eq_of_mem_replicate hb
  · intro h
    exact List.eq_replicate_of_mem h

theorem dropWhile_nil (l : List UInt8) : l.dropWhile (· == 0) = [] ↔ ∀ b ∈ l, b = 0 := by
  induction l with
  | nil => simp
  | cons b l ih =>
    by_cases h : b = 0
    · subst h
      simp [List.dropWhile_cons, ih]
    · simp [List.dropWhile_cons, h]

theorem trim_nil (l : List UInt8) : Lib.trimB l 0 = [] ↔ ∀ b ∈ l, b = 0 := by
  unfold Lib.trimB Lib.trimLeftB Lib.trimRightB
  rw [dropWhile_nil]
  constructor
  · intro h
    -- all of what is left is nought: so nothing is left
    have h1 : ∀ b ∈ l.reverse.dropWhile (· == 0), b = 0 := fun b hb => h b (List.mem_reverse.2 hb)
    have h2 : l.reverse.dropWhile (· == 0) = [] := by
      cases hd : l.reverse.dropWhile (· == 0) with
      | nil => rfl
      | cons b m =>
        have hb : b = 0 := h1 b (by rw [hd]; exact List.mem_cons_self ..)
        have := List.head?_dropWhile_not (· == (0 : UInt8)) l.reverse
        rw [hd] at this
        simp [hb] at this
    intro b hb
    exact (dropWhile_nil l.reverse).1 h2 b (List.mem_reverse.2 hb)
  · intro h b hb
    have hb' := List.mem_reverse.1 hb
    exact h b (List.mem_reverse.1 ((List.dropWhile_sublist _).subset hb'))

section
variable {F : Asn} {w : World} {R : Ending → World → Prop}

theorem trim_any (H : Sat F w) (s : ByteArray) (hs : s.size ≤ 1000000) (h : ∀ t w', (t = ByteArray.empty ↔ ∀ b ∈ s.data.toList, b = 0) → Sat F w' → Io w w' → R (.returned (.string t)) w') :
    Calls Tryd.prog 63 #[.string s, .string ⟨#[0]⟩] w R := by
  refine (Tryd.strings_Trim_one s 0 (by decide) w (by omega)).mono ?_
  rintro x w' ⟨rfl, hw⟩
  have ht : (tx (Lib.trimB s.data.toList 0) = ByteArray.empty ↔ ∀ b ∈ s.data.toList, b = 0) := by
    rw [← trim_nil]
    constructor
    · intro e; exact tx_inj (show tx _ = tx [] from e)
    · intro e; rw [e]; rfl
  rcases hw with rfl | rfl
  · exact h _ _ ht H (Io.refl _)
  · exact h _ _ ht H.drew (Io.refl w).drew

theorem pput4 (n : Nat) (hn : n < 4294967296) (H : Sat F w) (h : ∀ w', Sat F w' → Io w w' → R (.returned (.string (tx (be 4 n)))) w') :
    Calls Tryd.prog 55 #[.int .i64 4, .int .i64 (n : Int)] w R := by
  go_enter Tryd.func55, Tryd.ntmps55
  go_wp2_with fail
  refine put4_yes n hn H ?_
  intro w1 H1 I1
  generalize tx (be 4 n) = s at *
  go_wp2_with fail
  exact h w1 H1 I1
theorem pput2 (n : Nat) (hn : n < 65536) (H : Sat F w) (h : ∀ w', Sat F w' → Io w w' → R (.returned (.string (tx (be 2 n)))) w') :
    Calls Tryd.prog 55 #[.int .i64 2, .int .i64 (n : Int)] w R := by
  have HN := Lib.hid hn
  clear hn
  go_enter Tryd.func55, Tryd.ntmps55
  go_wp2_with fail
  refine put2_yes n HN.out H ?_
  intro w1 H1 I1
  generalize tx (be 2 n) = s at *
  go_wp2_with fail
  exact h w1 H1 I1
theorem pput1 (n : Nat) (hn : n < 256) (H : Sat F w) (h : ∀ w', Sat F w' → Io w w' → R (.returned (.string (tx (be 1 n)))) w') :
    Calls Tryd.prog 55 #[.int .i64 1, .int .i64 (n : Int)] w R := by
  have HN := Lib.hid hn
  clear hn
  go_enter Tryd.func55, Tryd.ntmps55
  go_wp2_with fail
  refine put1_yes n HN.out H ?_
  intro w1 H1 I1
  generalize tx (be 1 n) = s at *
  go_wp2_with fail
  exact h w1 H1 I1
end
end Go.Proofs.YtpccdadobnhpkaaDoor
