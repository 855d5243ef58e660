/-
  Readers of bytes, and joined texts: what they do, by their walks. It proves no statement by itself.
-/
import Derived.Test.YtojiffhknddleaaGreatDoorV05
namespace Go.Proofs.YtojiffhknddleaaGreatDoor
open Go.RowKit
set_option linter.unusedSimpArgs false
set_option linter.unusedVariables false

theorem un_next (s : ByteArray) (k : Nat) (h : k < s.size) : un (s.data.toList.take (k + 1)) = un (s.data.toList.take k) * 256 + (s.data.toList.getD k 0).toNat := by
  have hk : k < s.data.toList.length := h
  rw [List.take_succ_eq_append_getElem hk, un_snoc, getD_of_lt hk]

theorem un_le (l : List UInt8) (k : Nat) (h : l.length ≤ k) (hk : k ≤ 4) : un l < 4294967296 := by
  have h1 := un_lt l
  have h2 : 256 ^ l.length ≤ 256 ^ 4 := Nat.pow_le_pow_right (by omega) (by omega)
  have e : 256 ^ 4 = 4294967296 := rfl
  omega

theorem i64_or_byte (n b : Nat) (hn : n < 4294967296) (hb : b < 256) : bits .or .i64 ((n : Int) * 256) (b : Int) = ((n * 256 + b : Nat) : Int) := by
  have e : ((n : Int) * 256) = ((n * 256 : Nat) : Int) := by omega
  have ho : n * 256 ||| b = n * 256 + b := by
    have := Nat.two_pow_add_eq_or_of_lt (i := 8) hb n
    rw [Nat.mul_comm n 256]
    exact this.symm
  rw [e]
  show IntKind.i64.wrap ((BitVec.ofInt 64 ((n * 256 : Nat) : Int) ||| BitVec.ofInt 64 (b : Int)).toNat : Int) = _
  rw [BitVec.toNat_or, BitVec.ofInt_natCast, BitVec.toNat_ofNat, Nat.mod_eq_of_lt (by omega), BitVec.ofInt_natCast, BitVec.toNat_ofNat, Nat.mod_eq_of_lt (by omega), ho]
  exact IntWalk.i64_in _ (by omega)

/-- A reader: what is left, and the first error. -/
structure Rd where
  rest : ByteArray
  err : Int
/-- THE READER r LIES AT p. -/
def IsRd (p : Nat) (r : Rd) : Asn := pts p (.cells #[.string r.rest, .int .i64 r.err] 162 (0, 0))
namespace Rd
/-- What is wrong behind a reading of n bytes. -/
def bE (r : Rd) (n : Int) : Int := if r.err ≠ 0 then r.err else if n < 0 then 1 else if (r.rest.size : Int) < n then 10 else 0
/-- .. the bytes. -/
def bS (r : Rd) (n : Int) : ByteArray := if r.bE n = 0 then r.rest.extract 0 n.toNat else ByteArray.empty
/-- .. the reader. -/
def bR (r : Rd) (n : Int) : Rd := if r.bE n = 0 then ⟨r.rest.extract n.toNat r.rest.size, 0⟩ else ⟨r.rest, r.bE n⟩
/-- The number read. -/
def num (r : Rd) (k : Nat) : Nat := un (r.bS k).data.toList
end Rd

section
variable {F : Asn} {w : World} {R : Ending → World → Prop} {p : Nat} {r : Rd}

theorem rd_cells (H : Sat (IsRd p r * F) w) : p < w.heap.size ∧ w.cell? ⟨p, 0, none⟩ = some (.string r.rest) ∧ w.cell? ⟨p, 1, none⟩ = some (.int .i64 r.err) ∧ (∀ j, w.frozen? ⟨p, j, none⟩ = false) :=
  ⟨H.left.lt, Sat.read H.left.at 0, Sat.read H.left.at 1, fun j => Sat.free H.left.at j⟩
theorem rd_rest (H : Sat (IsRd p r * F) w) (s : ByteArray) : Sat (IsRd p { r with rest := s } * F) (w.setCell ⟨p, 0, none⟩ (.string s)) := Sat.cell H 0 _
theorem rd_err (H : Sat (IsRd p r * F) w) (e : Int) : Sat (IsRd p { r with err := e } * F) (w.setCell ⟨p, 1, none⟩ (.int .i64 e)) := Sat.cell H 1 _

theorem read_new (H : Sat F w) (s : ByteArray) (h : ∀ p w', Sat (IsRd p ⟨s, 0⟩ * F) w' → Io w w' → R (.returned (.pointer (some ⟨p, 0, none⟩))) w') :
    Calls Tryz.prog 62 #[.string s] w R := by
  have fin := h _ _ (H.new (.cells #[.string s, .int .i64 0] 162)) ((Io.refl w).alloc _)
  clear h
  go_enter Tryz.func62, Tryz.ntmps62
  go_wp2_with fail
  exact fin

theorem fail_any (H : Sat (IsRd p r * F) w) (e : Int) (h : ∀ w', Sat (IsRd p { r with err := if r.err = 0 then e else r.err } * F) w' → Io w w' → R (.returned (.tuple #[])) w') :
    Calls Tryz.prog 89 #[.pointer (some ⟨p, 0, none⟩), .int .i64 e] w R := by
  obtain ⟨lp, c0, c1, fz⟩ := rd_cells H
  have f1 := fz 1
  by_cases h0 : r.err = 0
  · have fin := h _ (by rw [if_pos h0]; exact rd_err H e) ((Io.refl w).setCell _ _)
    rw [h0] at c1
    clear h H fz h0
    go_enter Tryz.func89, Tryz.ntmps89
    go_wp2_with fail
    go_end0
    exact fin
  · have fin := h w (by rw [if_neg h0]; exact H) (Io.refl w)
    have hb : (r.err == 0) = false := by simpa using h0
    clear h H fz h0
    go_enter Tryz.func89, Tryz.ntmps89
    go_wp2_with fail
    go_end0
    exact fin

set_option maxHeartbeats 1000000 in
theorem bytes_any63 (H : Sat (IsRd p r * F) w) (hs : r.rest.size ≤ 9223372036854775807) (n : Int) (h : ∀ w', Sat (IsRd p (r.bR n) * F) w' → Io w w' → R (.returned (.string (r.bS n))) w') :
    Calls Tryz.prog 78 #[.pointer (some ⟨p, 0, none⟩), .int .i64 n] w R := by
  have hs' : (r.rest.size : Int) ≤ 9223372036854775807 := by omega
  by_cases h0 : n < 0
  · have e1 : r.bE n ≠ 0 := by unfold Rd.bE; split <;> simp_all
    have e2 : r.bE n = if r.err = 0 then 1 else r.err := by unfold Rd.bE; by_cases hx : r.err = 0 <;> simp [hx, h0]
    have e3 : r.bR n = { r with err := if r.err = 0 then 1 else r.err } := by unfold Rd.bR; rw [if_neg e1, e2]
    have e4 : r.bS n = ByteArray.empty := by unfold Rd.bS; rw [if_neg e1]
    rw [e3, e4] at h
    rw [e2] at e1
    have hb : ((if r.err = 0 then 1 else r.err) != 0) = true := by simpa using e1
    clear e1 e2 e3 e4 hs
    go_enter Tryz.func78, Tryz.ntmps78
    go_wp2_with (go_at_call 89; refine fail_any H 1 ?_; intro w1 H1 I1; obtain ⟨l1, c0, c1, _⟩ := rd_cells H1; simp only at c1; generalize (if r.err = 0 then 1 else r.err) = z at *)
    exact h w1 H1 I1
  · by_cases h1 : (r.rest.size : Int) < n
    · have e1 : r.bE n ≠ 0 := by unfold Rd.bE; split <;> simp_all
      have e2 : r.bE n = if r.err = 0 then 10 else r.err := by unfold Rd.bE; by_cases hx : r.err = 0 <;> simp [hx, h0, h1]
      have e3 : r.bR n = { r with err := if r.err = 0 then 10 else r.err } := by unfold Rd.bR; rw [if_neg e1, e2]
      have e4 : r.bS n = ByteArray.empty := by unfold Rd.bS; rw [if_neg e1]
      rw [e3, e4] at h
      rw [e2] at e1
      have hb : ((if r.err = 0 then 10 else r.err) != 0) = true := by simpa using e1
      obtain ⟨l0, c00, _⟩ := rd_cells H
      clear e1 e2 e3 e4 hs
      go_enter Tryz.func78, Tryz.ntmps78
      go_wp2_with (go_at_call 89; refine fail_any H 10 ?_; intro w1 H1 I1; obtain ⟨l1, c0, c1, _⟩ := rd_cells H1; simp only at c1; generalize (if r.err = 0 then 10 else r.err) = z at *)
      exact h w1 H1 I1
    · obtain ⟨lp, c0, c1, fz⟩ := rd_cells H
      have f0 := fz 0
      by_cases hx : r.err = 0
      · have e1 : r.bE n = 0 := by unfold Rd.bE; simp [hx, h0, h1]
        have e3 : r.bR n = ⟨r.rest.extract n.toNat r.rest.size, 0⟩ := by unfold Rd.bR; rw [if_pos e1]
        have e4 : r.bS n = r.rest.extract 0 n.toNat := by unfold Rd.bS; rw [if_pos e1]
        have H2 := rd_rest H (r.rest.extract n.toNat r.rest.size)
        rw [hx] at c1 H2
        rw [e3, e4] at h
        have fin := h _ H2 ((Io.refl w).setCell _ _)
        have n0 : 0 ≤ n := by omega
        have n1 : n ≤ (r.rest.size : Int) := by omega
        have n2 : n.toNat ≤ r.rest.size := by omega
        clear e1 e3 e4 hs h H H2 fz hx h0 h1
        generalize r.rest = t at *
        go_enter Tryz.func78, Tryz.ntmps78
        go_wp2_with fail
        exact fin
      · have e1 : r.bE n = r.err := by unfold Rd.bE; rw [if_pos hx]
        have e3 : r.bR n = r := by unfold Rd.bR; rw [if_neg (by rw [e1]; exact hx), e1]
        have e4 : r.bS n = ByteArray.empty := by unfold Rd.bS; rw [if_neg (by rw [e1]; exact hx)]
        rw [e3, e4] at h
        have hb : (r.err != 0) = true := by simpa using hx
        have fin := h w H (Io.refl w)
        clear e1 e3 e4 hs h H fz hx
        go_enter Tryz.func78, Tryz.ntmps78
        go_wp2_with fail
        exact fin

theorem bytes_any (H : Sat (IsRd p r * F) w) (hs : r.rest.size ≤ 1000000) (n : Int) (h : ∀ w', Sat (IsRd p (r.bR n) * F) w' → Io w w' → R (.returned (.string (r.bS n))) w') :
    Calls Tryz.prog 78 #[.pointer (some ⟨p, 0, none⟩), .int .i64 n] w R := bytes_any63 H (by omega) n h

theorem bS_length (r : Rd) (n : Int) (hn : 0 ≤ n) : (r.bS n).data.toList.length = if r.bE n = 0 then n.toNat else 0 := by
  unfold Rd.bS
  by_cases e : r.bE n = 0
  · have hs : n ≤ (r.rest.size : Int) := by
      unfold Rd.bE at e
      split at e
      · contradiction
      · split at e
        · cases e
        · split at e
          · cases e
          · omega
    rw [if_pos e, if_pos e, size_list, ByteArray.size_extract]
    omega
  · rw [if_neg e, if_neg e]; rfl

set_option maxRecDepth 100000 in
set_option maxHeartbeats 1000000 in
theorem int_any63 (H : Sat (IsRd p r * F) w) (hs : r.rest.size ≤ 9223372036854775807) (k : Nat) (hk : k = 1 ∨ k = 2 ∨ k = 4) (h : ∀ w', Sat (IsRd p (r.bR k) * F) w' → Io w w' → R (.returned (.int .i64 (r.num k : Nat))) w') :
    Calls Tryz.prog 64 #[.pointer (some ⟨p, 0, none⟩), .int .i64 (k : Int)] w R := by
  have hlen := bS_length r k (by omega)
  have hle : (r.bS k).data.toList.length ≤ k := by rw [hlen]; split <;> simp
  clear hlen
  have hsz : (r.bS k).size ≤ k := hle
  have e : r.num k = un (r.bS k).data.toList := rfl
  rw [e] at h
  have HH := Lib.hid h
  have HK := Lib.hid hk
  clear e h
  go_enter Tryz.func64, Tryz.ntmps64
  go_wp2_with (go_at_call 60; refine sized_yes k (by have := HK.out; omega) ?_)
  refine bytes_any63 H hs k ?_
  intro w1 H1 I1
  generalize r.bS k = s at *
  have hs4 : (s.size : Int) ≤ 4 := by have := HK.out; omega
  have kc : ∀ W, (convert 9 32 (.string s)).run Tryz.prog W = .ok (.slice (some ⟨W.heap.size, 0, none⟩) s.size (grownCap W s.size 0 5)) (Lib.bytesWorld W 5 s) :=
    fun W => Lib.run_convert_string_bytes W _ _ _ s Tryz.underlying9 Tryz.underlying32 Tryz.underlying5
  have hcell := Lib.bytesWorld_cell w1 5 s
  have hg : w1.heap.size < (Lib.bytesWorld w1 5 s).heap.size := by rw [Lib.bytesWorld_size]; omega
  have fin := HH.out _ (bytes_new 5 s H1).right (I1.trans (bytes_io 5 s))
  have HC := Lib.hid hcell
  have FIN := Lib.hid fin
  have HLE := Lib.hid hle
  clear hcell fin HH hle hsz hk
  go_wp2_with fail
  clear kc
  generalize Lib.bytesWorld w1 5 s = w2 at *
  generalize grownCap w1 s.size 0 5 = cap at *
  generalize w1.heap.size = g at *
  go_loop [5, 18] (fun x y => ∃ j : Nat, j ≤ s.size ∧ x = .int .i64 (un (s.data.toList.take j) : Nat) ∧ y = .int .i64 (j : Int)) (fun _ y => s.size - (intOf y).toNat)
  case atStart => exact ⟨0, by omega, rfl, rfl⟩
  case round =>
    obtain ⟨j, hj, rfl, rfl⟩ := hrel
    have hm := un_le (s.data.toList.take j) 4 (by have := HLE.out; have := HK.out; rw [List.length_take]; omega) (by omega)
    by_cases hlt : j < s.size
    · have hc := HC.out j hlt
      have hn := un_next s j hlt
      generalize s.data.toList.getD j 0 = b at *
      have hb := b.toNat_lt
      generalize un (s.data.toList.take j) = m at *
      have hor := i64_or_byte m b.toNat hm (by omega)
      have hj' : (j : Int) < (s.size : Int) := by omega
      have HN := Lib.hid hn
      have m0 : (0 : Int) ≤ (m : Int) := by omega
      have m1 : (m : Int) ≤ 4294967295 := by omega
      have b0 : (0 : Int) ≤ (b.toNat : Int) := by omega
      have b1 : (b.toNat : Int) ≤ 255 := by omega
      clear hm hb hn hlt hj
      go_wp2_with fail
      go_round
      case rel => exact ⟨j + 1, by omega, by rw [HN.out]; go_num, by go_num⟩
      case measure => simp [intOf]; omega
    · obtain rfl : j = s.size := by omega
      have ht : s.data.toList.take s.size = s.data.toList := List.take_length
      rw [ht]
      clear hm ht hlt hj
      generalize un s.data.toList = m at *
      go_wp2_with fail
      exact FIN.out

theorem int_any (H : Sat (IsRd p r * F) w) (hs : r.rest.size ≤ 1000000) (k : Nat) (hk : k = 1 ∨ k = 2 ∨ k = 4) (h : ∀ w', Sat (IsRd p (r.bR k) * F) w' → Io w w' → R (.returned (.int .i64 (r.num k : Nat))) w') :
    Calls Tryz.prog 64 #[.pointer (some ⟨p, 0, none⟩), .int .i64 (k : Int)] w R := int_any63 H (by omega) k hk h

end
end Go.Proofs.YtojiffhknddleaaGreatDoor

/-
  Joined texts, and the document's numbers as bytes: what they do, by their walks. It proves no statement by itself.
-/
namespace Go.Proofs.YtojiffhknddleaaGreatDoor
open Go.RowKit
set_option linter.unusedSimpArgs false
set_option linter.unusedVariables false

/-- Texts, one behind the other. -/
def cat (xs : List ByteArray) : List UInt8 := (xs.map fun s => s.data.toList).flatten

theorem join_cat : ∀ xs : List ByteArray, Lib.join (xs.map (·.data.toList)) ([] : List UInt8) = cat xs
  | [] => rfl
  | x :: l => by
    rw [List.map_cons, Lib.join_cons]
    have e : ((fun x : List UInt8 => x) ∘ fun x : ByteArray => x.data.toList) = fun x : ByteArray => x.data.toList := rfl
    simp [cat, Lib.joinTail, e]

theorem conv_one {P : Program} (src e dst : TypeId) (hs : P.underlying src = some (.slice e)) (he : P.underlying e = some (.int .u8)) (hd : P.underlying dst = some .string)
    (y : Int) (w : World) :
    (convert src dst (.slice (some ⟨w.heap.size, 0, none⟩) 1 1)).run P (w.alloc (.cells #[.int .u8 y] e)) = .ok (.string (tx [UInt8.ofNat y.toNat])) (w.alloc (.cells #[.int .u8 y] e)) := by
  have := run_convert_bytes_arg (P := P) (w.alloc (.cells #[.int .u8 y] e)) src e hs he w.heap.size 0 1 1 [y] rfl (by
    intro i hi
    obtain rfl : i = 0 := by omega
    simp) dst hd
  simpa [strOfNums, tx] using this

section
variable {F : Asn} {w : World} {R : Ending → World → Prop}

theorem join_any (H : Sat F w) (b n c : Nat) (xs : List ByteArray) (hn : n = xs.length) (hb : b < w.heap.size) (hc : ∀ j x, xs[j]? = some x → w.cell? ⟨b, j, none⟩ = some (.string x)) (hcap : n ≤ c) (hlen : (cat xs).length ≤ 1000000)
    (hcl : xs.length ≤ 1000000) (h : ∀ w', Sat F w' → Io w w' → R (.returned (.string (tx (cat xs)))) w') :
    Calls Tryz.prog 38 #[.slice (some ⟨b, 0, none⟩) n c] w R := by
  subst hn
  have hj := Tryz.strings_Join b 0 c xs ⟨#[]⟩ w (by simpa using hc) hb (by omega) hcap (by have := join_cat xs; show (Lib.join (xs.map (·.data.toList)) []).length ≤ _; rw [this]; omega)
  have e : Lib.join (xs.map (·.data.toList)) (⟨#[]⟩ : ByteArray).data.toList = cat xs := join_cat xs
  rw [e] at hj
  have hcl' : (xs.length : Int) ≤ 1000000 := by omega
  go_enter Tryz.func38, Tryz.ntmps38
  go_wp2_with (go_at_call 61; refine hj.mono ?_; rintro e w' ⟨rfl, hb1⟩)
  exact h w' (below_sat H hb1) (below_io hb1)

/-! ### the document's Put -/

end
end Go.Proofs.YtojiffhknddleaaGreatDoor

/-
  A reader's end: Left, End, by their walks. It proves no statement by itself.
-/
namespace Go.Proofs.YtojiffhknddleaaGreatDoor
open Go.RowKit
set_option linter.unusedSimpArgs false
set_option linter.unusedVariables false

theorem empty_no {t : ByteArray} (h : ¬ t = ByteArray.empty) : t.toList.isEmpty = false := by
  rw [Bool.eq_false_iff]
  intro e
  rw [List.isEmpty_iff, ByteArray.toList_eq] at e
  exact h (by rw [← tx_of t, e]; rfl)
/-- What End says. -/
def Rd.fin (r : Rd) : Int := if r.rest = ByteArray.empty then r.err else if r.err = 0 then 11 else r.err

section
variable {F : Asn} {w : World} {R : Ending → World → Prop} {p : Nat} {r : Rd}

theorem end_any (H : Sat (IsRd p r * F) w) (h : ∀ w', Sat (IsRd p r * F) w' → Io w w' → R (.returned (.int .i64 r.fin)) w') :
    Calls Tryz.prog 65 #[.pointer (some ⟨p, 0, none⟩)] w R := by
  obtain ⟨lp, c0, c1, fz⟩ := rd_cells H
  by_cases h0 : r.rest = ByteArray.empty
  · have fin := h w H (Io.refl w)
    unfold Rd.fin at fin
    rw [if_pos h0] at fin
    rw [h0] at c0
    have q : (ByteArray.empty.toList == (⟨#[]⟩ : ByteArray).toList) = true := by simp
    clear h H fz h0
    go_enter Tryz.func65, Tryz.ntmps65
    go_wp2_with fail
    exact fin
  · have q : r.rest.toList.isEmpty = false := empty_no h0
    have e : r.fin = if r.err = 0 then 11 else r.err := by unfold Rd.fin; rw [if_neg h0]
    rw [e] at h
    have HN := H.new (.cells #[.string ByteArray.empty, .int .i64 r.err] 162)
    have IN := (Io.refl w).alloc (.cells #[.string ByteArray.empty, .int .i64 r.err] 162)
    have HN' : Sat (IsRd w.heap.size ⟨ByteArray.empty, r.err⟩ * (IsRd p r * F)) _ := HN
    clear H fz h0 e HN
    generalize r.rest = t at *
    go_enter Tryz.func65, Tryz.ntmps65
    go_wp2_with fail
    refine fail_any HN' 11 ?_
    intro w1 H1 I1
    obtain ⟨l1, d0, d1, -⟩ := rd_cells H1
    simp only at d1
    generalize (if r.err = 0 then 11 else r.err) = z at *
    go_wp2_with fail
    exact h w1 H1.right (IN.trans I1)
end
end Go.Proofs.YtojiffhknddleaaGreatDoor
