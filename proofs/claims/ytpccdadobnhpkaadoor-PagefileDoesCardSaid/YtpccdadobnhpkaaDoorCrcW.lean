/-
  The check of bytes: what crc.Step, crc.Sum and the document's do, by their walks. It proves no statement by itself.
-/
import Derived.Test.YtpccdadobnhpkaaDoorCod
import Derived.Laws.BitsAllLaws
import Derived.Lib.ConvBytes
namespace Go.Proofs.YtpccdadobnhpkaaDoor
open Go.RowKit
set_option linter.unusedSimpArgs false
set_option linter.unusedVariables false

/-- The table lies there wherever F holds. -/
def Hv (F : Asn) : Prop := ∀ w, Sat F w → ∀ j, j < 16 → w.cell? ⟨0, j, none⟩ = some (.int .u32 (halves.getD j 0 : Nat))
theorem Hv.with {F G : Asn} (h : Hv F) : Hv (G * F) := fun w hw => h w hw.right

section
variable {F : Asn} {w : World} {R : Ending → World → Prop}

set_option maxRecDepth 100000 in
set_option maxHeartbeats 1000000 in
theorem step_any (hv : Hv F) (H : Sat F w) (c : Nat) (hc : c < 4294967296) (b : UInt8) (h : R (.returned (.int .i64 (crcStep c b : Nat))) w) :
    Calls Tryd.prog 77 #[.int .i64 (c : Int), .int .u8 (b.toNat : Int)] w R := by
  have hb := b.toNat_lt
  have hx := u32_xor_nat c b.toNat hc (by omega)
  have hn : c ^^^ b.toNat < 4294967296 := Nat.xor_lt_two_pow (n := 32) hc (by omega)
  have e : crcStep c b = nib (nib (c ^^^ b.toNat)) := rfl
  rw [e] at h
  generalize c ^^^ b.toNat = n at *
  have hm := nib_lt hn
  have hi1 : n % 16 < 16 := Nat.mod_lt _ (by decide)
  have q1 := hv w H (n % 16) hi1
  have q2 := hv w H (nib n % 16) (Nat.mod_lt _ (by decide))
  have a1 : bits .and .u32 (n : Int) 15 = ((n &&& 15 : Nat) : Int) := u32_and_nat n 15 hn (by decide)
  have a2 : bits .and .u32 ((nib n : Nat) : Int) 15 = ((nib n &&& 15 : Nat) : Int) := u32_and_nat (nib n) 15 hm (by decide)
  have x1 : bits .xor .u32 ((n / 16 : Nat) : Int) ((halves.getD (n % 16) 0 : Nat) : Int) = (nib n : Nat) := u32_xor_nat _ _ (by omega) (half_lt _)
  have x2 : bits .xor .u32 ((nib n / 16 : Nat) : Int) ((halves.getD (nib n % 16) 0 : Nat) : Int) = (nib (nib n) : Nat) := u32_xor_nat _ _ (by omega) (half_lt _)
  have hm2 := nib_lt hm
  have e1 : ((n % 16 : Nat) : Int) = (n : Int) % 16 := by omega
  have e2 : ((nib n % 16 : Nat) : Int) = ((nib n : Nat) : Int) % 16 := by omega
  have e3 : ((n / 16 : Nat) : Int) = (n : Int) / 16 := by omega
  have e4 : ((nib n / 16 : Nat) : Int) = ((nib n : Nat) : Int) / 16 := by omega
  rw [show n &&& 15 = n % 16 from Nat.and_two_pow_sub_one_eq_mod n 4, e1] at a1
  rw [show nib n &&& 15 = nib n % 16 from Nat.and_two_pow_sub_one_eq_mod (nib n) 4, e2] at a2
  rw [e3] at x1
  rw [e4] at x2
  have i1 : (0 : Int) ≤ (n : Int) % 16 := by omega
  have i2 : (n : Int) % 16 < 16 := by omega
  have i3 : (0 : Int) ≤ ((nib n : Nat) : Int) % 16 := by omega
  have i4 : ((nib n : Nat) : Int) % 16 < 16 := by omega
  have t1 : ((n : Int) % 16).toNat = n % 16 := by omega
  have t2 : (((nib n : Nat) : Int) % 16).toNat = nib n % 16 := by omega
  generalize halves.getD (n % 16) 0 = z1 at *
  generalize halves.getD (nib n % 16) 0 = z2 at *
  generalize nib (nib n) = n2 at *
  generalize nib n = n1 at *
  clear e e1 e2 e3 e4 hi1 hb hv H
  generalize n % 16 = k1 at *
  generalize n1 % 16 = k2 at *
  have c0 : (0 : Int) ≤ (c : Int) := by omega
  have n0 : (0 : Int) ≤ (n : Int) := by omega
  have n10 : (0 : Int) ≤ (n1 : Int) := by omega
  have n20 : (0 : Int) ≤ (n2 : Int) := by omega
  have hc' : (c : Int) ≤ 4294967295 := by omega
  have hn' : (n : Int) ≤ 4294967295 := by omega
  have hm' : (n1 : Int) ≤ 4294967295 := by omega
  have hk' : (n2 : Int) ≤ 4294967295 := by omega
  clear hc hn hm hm2
  have hb0 : (0 : Int) ≤ (b.toNat : Int) := by omega
  have hb1 : (b.toNat : Int) ≤ 255 := by have := b.toNat_lt; omega
  generalize (b.toNat : Int) = bi at *
  generalize (c : Int) = ci at *
  generalize (n : Int) = ni at *
  generalize (n1 : Int) = n1i at *
  generalize (n2 : Int) = n2i at *
  go_enter Tryd.func77, Tryd.ntmps77
  go_wp2_with fail
  exact h

/-! ### crc.Sum -/

/-- '[]byte(s)': a row of its own; what is told of stays. -/
theorem bytes_new (e : TypeId) (s : ByteArray) (H : Sat F w) :
    Sat (pts w.heap.size (.cells (Lib.bytesCells w e s) e ((Lib.bytesCells w e s).size, (Lib.bytesCells w e s).size + 1)) * F) (Lib.bytesWorld w e s) :=
  H.fresh (Nat.le_refl _) (Lib.bytesWorld_at_new w e s) fun k hk => Lib.bytesWorld_at_old w e s k hk
theorem bytes_io (e : TypeId) (s : ByteArray) : Io w (Lib.bytesWorld w e s) := ⟨rfl, rfl, rfl, by rw [Lib.bytesWorld_size]; omega⟩

/-- What a byte's step leads to, byte by byte. -/
theorem getD_of_lt {l : List UInt8} {k : Nat} (h : k < l.length) : l.getD k 0 = l[k] := by simp [List.getD, h]
theorem crc_next (s : ByteArray) (k : Nat) (h : k < s.size) : crcFrom 4294967295 (s.data.toList.take (k + 1)) = crcStep (crcFrom 4294967295 (s.data.toList.take k)) (s.data.toList.getD k 0) := by
  have hk : k < s.data.toList.length := h
  rw [List.take_succ_eq_append_getElem hk, crcFrom_snoc, getD_of_lt hk]

theorem i64_xor_all (c : Nat) (hc : c < 4294967296) : bits .xor .i64 (c : Int) 4294967295 = ((c ^^^ 4294967295 : Nat) : Int) := by
  have hx : c ^^^ 4294967295 < 2 ^ 32 := Nat.xor_lt_two_pow (by omega) (by decide)
  show IntKind.i64.wrap ((BitVec.ofInt 64 (c : Int) ^^^ BitVec.ofInt 64 4294967295).toNat : Int) = _
  rw [BitVec.toNat_xor, BitVec.ofInt_natCast, BitVec.toNat_ofNat, Nat.mod_eq_of_lt (by omega), show (BitVec.ofInt 64 4294967295).toNat = 4294967295 from rfl]
  exact IntWalk.i64_in _ (by omega)

set_option maxRecDepth 100000 in
set_option maxHeartbeats 1000000 in
theorem sum_any (hv : Hv F) (H : Sat F w) (p c : Nat) (s : ByteArray) (hs : s.size ≤ 1000000) (hp : ∀ w', Sat F w' → w'.cell? ⟨p, 0, none⟩ = some (.string s))
    (h : ∀ w', Sat F w' → Io w w' → R (.returned (.int .i64 (crcL s.data.toList : Nat))) w') :
    Calls Tryd.prog 56 #[.slice (some ⟨p, 0, none⟩) 1 c] w R := by
  have c0 := hp w H
  have hs' : (s.size : Int) ≤ 1000000 := by omega
  have kc : ∀ W, (convert 9 93 (.string s)).run Tryd.prog W = .ok (.slice (some ⟨W.heap.size, 0, none⟩) s.size (grownCap W s.size 0 5)) (Lib.bytesWorld W 5 s) :=
    fun W => Lib.run_convert_string_bytes W _ _ _ s Tryd.underlying9 Tryd.underlying93 Tryd.underlying5
  have fin := h _ (bytes_new 5 s H).right (bytes_io 5 s)
  have hcell := Lib.bytesWorld_cell w 5 s
  have hg : w.heap.size < (Lib.bytesWorld w 5 s).heap.size := by rw [Lib.bytesWorld_size]; omega
  have H1 := (bytes_new 5 s H).right
  clear h
  go_enter Tryd.func56, Tryd.ntmps56
  go_wp2_with fail
  refine wp_loop_rounds 2 ?_
  rw [rounds_succ]
  go_wp2_with fail
  clear kc c0 H hp
  generalize Lib.bytesWorld w 5 s = w1 at *
  generalize grownCap w s.size 0 5 = cap at *
  generalize w.heap.size = g at *
  have HC := Lib.hid hcell
  have FIN := Lib.hid fin
  clear hcell fin
  go_loop [3, 17] (fun x y => ∃ k : Nat, k ≤ s.size ∧ x = .int .i64 (crcFrom 4294967295 (s.data.toList.take k) : Nat) ∧ y = .int .i64 (k : Int)) (fun _ y => s.size - (intOf y).toNat)
  case atStart => exact ⟨0, by omega, rfl, rfl⟩
  case round =>
    obtain ⟨k, hk, rfl, rfl⟩ := hrel
    have hm := crcFrom_lt (s.data.toList.take k) (c := 4294967295) (by decide)
    by_cases hlt : k < s.size
    · have hc := HC.out k hlt
      have hn := Lib.hid (crc_next s k hlt)
      generalize s.data.toList.getD k 0 = b at *
      generalize crcFrom 4294967295 (s.data.toList.take k) = m at *
      have hk' : (k : Int) < (s.size : Int) := by omega
      have HM := Lib.hid hm
      clear hm hlt hk
      go_wp2_with (go_at_call 77; refine step_any hv H1 m HM.out b ?_)
      go_round
      case rel => exact ⟨k + 1, by omega, by rw [hn.out], by go_num⟩
      case measure => simp [intOf]; omega
    · obtain rfl : k = s.size := by omega
      have ht : s.data.toList.take s.size = s.data.toList := List.take_length
      rw [ht] at hm ⊢
      have hx := i64_xor_all _ hm
      have e : crcL s.data.toList = crcFrom 4294967295 s.data.toList ^^^ 4294967295 := rfl
      rw [e] at FIN
      generalize crcFrom 4294967295 s.data.toList ^^^ 4294967295 = z at *
      generalize crcFrom 4294967295 s.data.toList = m at *
      have m0 : (0 : Int) ≤ (m : Int) := by omega
      have m1 : (m : Int) ≤ 4294967295 := by omega
      clear hm ht e hlt hk
      generalize (m : Int) = mi at *
      go_wp2_with fail
      rw [rounds_succ]
      go_wp2_with fail
      exact FIN.out

/-! ### the document's -/

/-- Some bits' steps. -/
def bits1 : Nat → Nat → Nat
  | 0, n => n
  | k + 1, n => bit1 (bits1 k n)
theorem bits1_lt {n : Nat} (h : n < 2 ^ 32) : ∀ k, bits1 k n < 2 ^ 32
  | 0 => h
  | k + 1 => bit1_lt (bits1_lt h k)
theorem bits1_eight (c : Nat) (b : UInt8) : bits1 8 (c ^^^ b.toNat) = crcStep c b := (crcStep_bits c b).symm

set_option maxRecDepth 100000 in
set_option maxHeartbeats 1000000 in
theorem rstep_any (c : Nat) (hc : c < 4294967296) (b : UInt8) (h : R (.returned (.int .i64 (crcStep c b : Nat))) w) :
    Calls Tryd.prog 86 #[.int .i64 (c : Int), .int .u8 (b.toNat : Int)] w R := by
  have hx := u32_xor_nat c b.toNat hc (by have := b.toNat_lt; omega)
  have hn : c ^^^ b.toNat < 4294967296 := Nat.xor_lt_two_pow (n := 32) hc (by have := b.toNat_lt; omega)
  rw [← bits1_eight] at h
  generalize c ^^^ b.toNat = n at *
  have c0 : (0 : Int) ≤ (c : Int) := by omega
  have hc' : (c : Int) ≤ 4294967295 := by omega
  have hb0 : (0 : Int) ≤ (b.toNat : Int) := by omega
  have hb1 : (b.toNat : Int) ≤ 255 := by have := b.toNat_lt; omega
  have HN := Lib.hid hn
  clear hc hn
  generalize (c : Int) = ci at *
  generalize (b.toNat : Int) = bi at *
  go_enter Tryd.func86, Tryd.ntmps86
  go_wp2_with fail
  go_loop [5, 6] (fun x y => ∃ k : Nat, k ≤ 8 ∧ x = .int .u32 (bits1 k n : Nat) ∧ y = .int .i64 (k : Int)) (fun _ y => 8 - (intOf y).toNat)
  case atStart => exact ⟨0, by omega, rfl, rfl⟩
  case round =>
    obtain ⟨k, hk, rfl, rfl⟩ := hrel
    by_cases hlt : k < 8
    · have hm := bits1_lt HN.out k
      have hm2 := bits1_lt HN.out (k + 1)
      have hx2 : bits1 k n % 2 = 1 → bits .xor .u32 ((bits1 k n / 2 : Nat) : Int) 3988292384 = (bits1 (k + 1) n : Nat) := by
        intro h1
        have := u32_xor_nat (bits1 k n / 2) 3988292384 (by omega) (by decide)
        rw [show bits1 (k + 1) n = bits1 k n / 2 ^^^ 3988292384 from by show bit1 (bits1 k n) = _; unfold bit1; rw [if_pos h1]]
        exact this
      have hx3 : ¬ bits1 k n % 2 = 1 → (bits1 (k + 1) n : Nat) = bits1 k n / 2 := by
        intro h1
        show bit1 (bits1 k n) = _
        unfold bit1
        rw [if_neg h1]
      generalize hm2e : bits1 (k + 1) n = m2 at *
      have HM2 := Lib.hid hm2e
      clear hm2e
      generalize bits1 k n = m at *
      have e1 : ((m / 2 : Nat) : Int) = (m : Int) / 2 := by omega
      rw [e1] at hx2
      have m0 : (0 : Int) ≤ (m : Int) := by omega
      have m1 : (m : Int) ≤ 4294967295 := by omega
      have hk' : (k : Int) < 8 := by omega
      by_cases ho : m % 2 = 1
      · have ho1 : ((m : Int) % 2 == 1) = true := by simp; omega
        have hy := hx2 ho
        clear hx2 hx3 e1 hm hm2 hlt hk ho
        go_wp2_with fail
        go_round
        case rel => exact ⟨k + 1, by omega, by rw [HM2.out], by go_num⟩
        case measure => simp [intOf]; omega
      · have ho1 : ((m : Int) % 2 == 1) = false := by simp; omega
        have hy := hx3 ho
        clear hx2 hx3 e1 hm hm2 hlt hk ho
        subst hy
        go_wp2_with fail
        go_round
        case rel => exact ⟨k + 1, by omega, by rw [HM2.out]; go_num, by go_num⟩
        case measure => simp [intOf]; omega
    · obtain rfl : k = 8 := by omega
      have hm := bits1_lt HN.out 8
      generalize bits1 8 n = m at *
      have m0 : (0 : Int) ≤ (m : Int) := by omega
      have m1 : (m : Int) ≤ 4294967295 := by omega
      clear hm
      generalize (m : Int) = mi at *
      go_wp2_with fail
      exact h

set_option maxRecDepth 100000 in
set_option maxHeartbeats 1000000 in
theorem rsum_any (s : ByteArray) (hs : s.size ≤ 1000000) (h : R (.returned (.int .i64 (crcL s.data.toList : Nat))) w) :
    Calls Tryd.prog 68 #[.string s] w R := by
  have hs' : (s.size : Int) ≤ 1000000 := by omega
  have FIN := Lib.hid h
  clear h
  go_enter Tryd.func68, Tryd.ntmps68
  go_wp2_with fail
  go_loop [3, 4] (fun x y => ∃ k : Nat, k ≤ s.size ∧ x = .int .i64 (crcFrom 4294967295 (s.data.toList.take k) : Nat) ∧ y = .int .i64 (k : Int)) (fun _ y => s.size - (intOf y).toNat)
  case atStart => exact ⟨0, by omega, rfl, rfl⟩
  case round =>
    obtain ⟨k, hk, rfl, rfl⟩ := hrel
    have hm := crcFrom_lt (s.data.toList.take k) (c := 4294967295) (by decide)
    by_cases hlt : k < s.size
    · have hn := crc_next s k hlt
      have hg : s.data.toList.getD k 0 = s[k] := getD_of_lt (l := s.data.toList) hlt
      rw [hg] at hn
      have HN := Lib.hid hn
      clear hn hg
      generalize crcFrom 4294967295 (s.data.toList.take k) = m at *
      have hk' : (k : Int) < (s.size : Int) := by omega
      have HM := Lib.hid hm
      clear hm hk
      go_wp2_with (go_at_call 86; refine rstep_any m HM.out _ ?_)
      go_round
      case rel => exact ⟨k + 1, by omega, by rw [HN.out], by go_num⟩
      case measure => simp [intOf]; omega
    · obtain rfl : k = s.size := by omega
      have ht : s.data.toList.take s.size = s.data.toList := List.take_length
      rw [ht] at hm ⊢
      have hx := i64_xor_all _ hm
      have e : crcL s.data.toList = crcFrom 4294967295 s.data.toList ^^^ 4294967295 := rfl
      rw [e] at FIN
      generalize crcFrom 4294967295 s.data.toList ^^^ 4294967295 = z at *
      generalize crcFrom 4294967295 s.data.toList = m at *
      have m0 : (0 : Int) ≤ (m : Int) := by omega
      have m1 : (m : Int) ≤ 4294967295 := by omega
      clear hm ht e hlt hk
      generalize (m : Int) = mi at *
      go_wp2_with fail
      exact FIN.out
end
end Go.Proofs.YtpccdadobnhpkaaDoor
