/-
  Numbers as bytes: what codec.Put and its like do, by their walks. It proves no statement by itself.
-/
import Derived.Test.YtojiffhknddleaaGreatDoorRows
import Derived.Test.YtojiffhknddleaaGreatDoorV02
import Derived.Test.YtojiffhknddleaaGreatDoorV03
import Derived.Test.YtojiffhknddleaaGreatDoorOShelf
namespace Go.Proofs.YtojiffhknddleaaGreatDoor
open Go.RowKit
set_option linter.unusedSimpArgs false
set_option linter.unusedVariables false

/-- Bytes as a text. -/
def tx (l : List UInt8) : ByteArray := ⟨l.toArray⟩
theorem tx_size (l : List UInt8) : (tx l).size = l.length := by simp [tx, ByteArray.size]
theorem tx_append (l m : List UInt8) : tx l ++ tx m = tx (l ++ m) := by apply ByteArray.ext; simp [tx]
theorem tx_list (l : List UInt8) : (tx l).data.toList = l := rfl
theorem tx_of (s : ByteArray) : tx s.data.toList = s := rfl
theorem tx_extract (l : List UInt8) (a b : Nat) : (tx l).extract a b = tx ((l.take b).drop a) := by
  apply ByteArray.ext
  apply Array.ext'
  simp [tx, List.extract_eq_take_drop, List.take_drop]
  by_cases h : a ≤ b
  · rw [Nat.add_sub_cancel' h]
  · have e : b - a = 0 := by omega
    rw [e, Nat.add_zero, List.drop_of_length_le (by simp; omega), List.drop_of_length_le (by simp; omega)]
theorem size_list (s : ByteArray) : s.data.toList.length = s.size := rfl

/-- Bytes as cells. -/
def u8s (l : List UInt8) : List Value := l.map fun b => .int .u8 (b.toNat : Int)
theorem conv_row {P : Program} {src e dst : TypeId} (hs : P.underlying src = some (.slice e)) (he : P.underlying e = some (.int .u8)) (hd : P.underlying dst = some .string)
    {l : List UInt8} {g c n : Nat} {R : Asn} {w : World} (hn : n = l.length) (H : Sat (Row e 1 (.slice (some ⟨g, 0, none⟩) n c) n (u8s l) * R) w) :
    (convert src dst (.slice (some ⟨g, 0, none⟩) n c)).run P w = .ok (.string (tx l)) w := by
  have ho := H.owns
  have h := run_convert_bytes_arg (P := P) w src e hs he g 0 n c (l.map fun b => (b.toNat : Int)) (by simp [hn]) (by
    intro i hi
    have hil : i < l.length := by omega
    have := ho.cells (g := g) rfl i (.int .u8 (l[i].toNat : Int)) (by simp [u8s, hil])
    have e : (⟨g, 0, none⟩ : Addr).add i = ⟨g, 0 + i, none⟩ := by unfold Addr.add; split <;> simp_all
    rw [e] at this
    rw [this]
    simp [List.getD, hil]) dst hd
  rw [h]
  congr 2
  apply ByteArray.ext
  apply Array.ext'
  simp only [strOfNums, tx, List.map_map, List.toList_toArray]
  have e : ((fun n : Int => UInt8.ofNat n.toNat) ∘ fun b : UInt8 => (b.toNat : Int)) = id := by funext b; simp
  simp [e]

theorem below_sat {F : Asn} {w w' : World} (h : Sat F w) (b : Below w.heap.size w w') : Sat F w' := h.keep fun k hk => b.block k hk
theorem below_io {w w' : World} (b : Below w.heap.size w w') : Io w w' := ⟨b.os, b.tape, b.output, b.size⟩

/-! ### codec.Put -/

/-- May n be written in k bytes? -/
def fits (k : Nat) (n : Int) : Bool := decide (0 ≤ n) && decide (n < 256 ^ k)
/-- What Put errs with. -/
def putE (k : Nat) (n : Int) : Int := if fits k n then 0 else 1
/-- What Put makes. -/
def putS (k : Nat) (n : Int) : ByteArray := if fits k n then tx (be k n.toNat) else ByteArray.empty

theorem be_four (n : Nat) : be 4 n = [UInt8.ofNat (n / 16777216 % 256), UInt8.ofNat (n / 65536 % 256), UInt8.ofNat (n / 256 % 256), UInt8.ofNat (n % 256)] := by
  show [UInt8.ofNat (n / 256 / 256 / 256 % 256), UInt8.ofNat (n / 256 / 256 % 256), UInt8.ofNat (n / 256 % 256), UInt8.ofNat (n % 256)] = _
  simp only [Nat.div_div_eq_div_mul]

theorem Tryz.info5 : (Tryz.prog.info? 5).map (fun i => (i.zero, i.size, i.bytes)) = some (some (.int .u8 0), 1, 1) := by kernel_rfl

section
variable {F : Asn} {w : World} {R : Ending → World → Prop}

theorem sized_yes (k : Int) (hk : k = 1 ∨ k = 2 ∨ k = 4) (h : R (.returned (.bool true)) w) : Calls Tryz.prog 60 #[.int .i64 k] w R := by
  rcases hk with rfl | rfl | rfl
  all_goals
    go_enter Tryz.func60, Tryz.ntmps60
    go_wp2
    exact h

set_option maxHeartbeats 1000000 in
theorem put4_yes (n : Nat) (hn : n < 4294967296) (H : Sat F w) (h : ∀ w', Sat F w' → Io w w' → R (.returned (.tuple #[.string (tx (be 4 n)), .int .i64 0])) w') :
    Calls Tryz.prog 37 #[.int .i64 4, .int .i64 (n : Int)] w R := by
  obtain ⟨i0, hi, hz0, hz1, hz2⟩ := info_parts Tryz.info5
  have hn0 : ¬ (n : Int) < 0 := by omega
  have hlt0 : decide ((n : Int) < 0) = false := by simp
  have hn1 : (n : Int) < 4294967296 := by omega
  have hq : ((n : Int) / 4294967296 != 0) = false := by rw [bne_eq_false_iff_eq]; exact Int.ediv_eq_zero_of_lt (by omega) (by omega)
  clear hn
  go_enter Tryz.func37, Tryz.ntmps37
  go_wp2_with (go_at_call 60; refine sized_yes 4 (by omega) ?_)
  refine wp_loop_rounds 5 ?_
  have H0 := row_nil 5 1 F w H
  rw [rounds_succ]
  go_wp2_with (at_builtin; refine wpList_append_new rfl (.tmp 28) (.tmp 34) 32 rfl 5 Tryz.underlying32 hi hz0 hz1 hz2 rfl rfl H0 1 1 [_] rfl rfl rfl rfl (by omega) (by omega) (by omega) ?_; intro g1 c1 w1 H1 I1)
  rw [rounds_succ]
  go_wp2_with (at_builtin; refine wpList_append_new rfl (.tmp 28) (.tmp 34) 32 rfl 5 Tryz.underlying32 hi hz0 hz1 hz2 rfl rfl H1 1 1 [_] rfl rfl rfl rfl (by omega) (by omega) (by omega) ?_; intro g2 c2 w2 H2 I2)
  rw [rounds_succ]
  go_wp2_with (at_builtin; refine wpList_append_new rfl (.tmp 28) (.tmp 34) 32 rfl 5 Tryz.underlying32 hi hz0 hz1 hz2 rfl rfl H2 1 1 [_] rfl rfl rfl rfl (by omega) (by omega) (by omega) ?_; intro g3 c3 w3 H3 I3)
  rw [rounds_succ]
  go_wp2_with (at_builtin; refine wpList_append_new rfl (.tmp 28) (.tmp 34) 32 rfl 5 Tryz.underlying32 hi hz0 hz1 hz2 rfl rfl H3 1 1 [_] rfl rfl rfl rfl (by omega) (by omega) (by omega) ?_; intro g4 c4 w4 H4 I4)
  rw [rounds_succ]
  have HB : Sat (Row 5 1 (.slice (some ⟨g4, 0, none⟩) 4 c4) 4 (u8s (be 4 n)) * F) w4 := H4.of_eq (by rw [be_four]; have e : (n : Int) / 16777216 % 256 = (n : Int) / 16777216 := Int.emod_eq_of_lt (by omega) (by omega); simp [u8s, e])
  have hc := conv_row (P := Tryz.prog) Tryz.underlying32 Tryz.underlying5 Tryz.underlying9 (be_length 4 n).symm HB
  have fin := h w4 HB.right ((((I1.trans I2).trans I3).trans I4))
  clear HB h H0 H1 H2 H3 H4
  generalize tx (be 4 n) = s at *
  go_wp2_with fail
  exact fin

theorem put4_no (n : Int) (hn : ¬ (0 ≤ n ∧ n < 4294967296)) (h : R (.returned (.tuple #[.string ByteArray.empty, .int .i64 1])) w) :
    Calls Tryz.prog 37 #[.int .i64 4, .int .i64 n] w R := by
  by_cases hn0 : n < 0
  · have hlt0 : decide (n < 0) = true := by simpa using hn0
    clear hn
    go_enter Tryz.func37, Tryz.ntmps37
    go_wp2_with (go_at_call 60; refine sized_yes 4 (by omega) ?_)
    exact h
  · have hlt0 : decide (n < 0) = false := by simpa using hn0
    have hq : (n / 4294967296 != 0) = true := by
      rw [bne_iff_ne]
      omega
    clear hn
    go_enter Tryz.func37, Tryz.ntmps37
    go_wp2_with (go_at_call 60; refine sized_yes 4 (by omega) ?_)
    exact h

theorem put4_any (n : Int) (H : Sat F w) (h : ∀ w', Sat F w' → Io w w' → R (.returned (.tuple #[.string (putS 4 n), .int .i64 (putE 4 n)])) w') :
    Calls Tryz.prog 37 #[.int .i64 4, .int .i64 n] w R := by
  by_cases hn : 0 ≤ n ∧ n < 4294967296
  · have e : fits 4 n = true := by simp [fits]; omega
    obtain ⟨m, rfl⟩ := Int.eq_ofNat_of_zero_le hn.1
    refine put4_yes m (by omega) H fun w' H' I' => ?_
    have := h w' H' I'
    rwa [putS, putE, e, if_pos rfl, if_pos rfl, Int.toNat_natCast] at this
  · have e : fits 4 n = false := by simp [fits]; omega
    have := h w H (Io.refl w)
    rw [putS, putE, e] at this
    exact put4_no n hn this

end
end Go.Proofs.YtojiffhknddleaaGreatDoor
