/-
  A page that is another one in at most four bytes in a row: plain, and how a row of bytes lies. It proves no statement by itself.
-/
import Derived.Test.YtnjhededdpjlgaaDoorPgOp
import Derived.Test.YtnjhededdpjlgaaDoorCrcB
namespace Go.Proofs.YtnjhededdpjlgaaDoor
open Go.RowKit
set_option linter.unusedSimpArgs false
set_option linter.unusedVariables false

/-- One byte harmed. -/
def hm (L : List UInt8) (k : Nat) (a : UInt8) : List UInt8 := L.set k (L.getD k 0 ^^^ a)
/-- Four in a row. -/
def hm4 (L : List UInt8) (k : Nat) (a b c d : UInt8) : List UInt8 := hm (hm (hm (hm L k a) (k + 1) b) (k + 2) c) (k + 3) d
theorem hm_length (L : List UInt8) (k : Nat) (a : UInt8) : (hm L k a).length = L.length := by simp [hm]
theorem hm_mid (p q : List UInt8) (x a : UInt8) (k : Nat) (h : p.length = k) : hm (p ++ x :: q) k a = p ++ (x ^^^ a) :: q := by
  subst h
  simp [hm, List.getD]
theorem hm4_mid (p q : List UInt8) (x y z u a b c d : UInt8) (k : Nat) (h : p.length = k) :
    hm4 (p ++ ([x, y, z, u] ++ q)) k a b c d = p ++ ([x ^^^ a, y ^^^ b, z ^^^ c, u ^^^ d] ++ q) := by
  unfold hm4
  have e1 := hm_mid p (y :: z :: u :: q) x a k h
  have e2 := hm_mid (p ++ [x ^^^ a]) (z :: u :: q) y b (k + 1) (by simp [h])
  have e3 := hm_mid (p ++ [x ^^^ a, y ^^^ b]) (u :: q) z c (k + 2) (by simp [h])
  have e4 := hm_mid (p ++ [x ^^^ a, y ^^^ b, z ^^^ c]) q u d (k + 3) (by simp [h])
  simp only [List.append_assoc, List.cons_append, List.nil_append] at e1 e2 e3 e4 ⊢
  rw [e1, e2, e3, e4]
theorem four_at (L : List UInt8) (k : Nat) (h : k + 4 ≤ L.length) : ∃ p x y z u q, L = p ++ ([x, y, z, u] ++ q) ∧ p.length = k := by
  refine ⟨L.take k, ?_⟩
  have hd : (L.drop k).length = L.length - k := List.length_drop
  match e : L.drop k with
  | [] | [_] | [_, _] | [_, _, _] => rw [e] at hd; simp at hd; omega
  | x :: y :: z :: u :: q => exact ⟨x, y, z, u, q, by have := List.take_append_drop k L; rw [e] at this; exact this.symm, by rw [List.length_take]; omega⟩
theorem u8_xor_same {x a : UInt8} (h : x = x ^^^ a) : a = 0 := by
  have := congrArg (x ^^^ ·) h
  simpa [← UInt8.xor_assoc] using this.symm
theorem chk_tx {L : List UInt8} (hL : L.length = 256) : chkB (tx L) = (un (sl L 0 4) == crcL (sl L 4 256)) := by
  unfold chkB
  rw [sl_ext, sl_ext, tx_list, tx_size, hL]
  simp
theorem hm4_chk {L : List UInt8} (hL : L.length = 256) {k : Nat} (hk : k = 0 ∨ 4 ≤ k) (hk2 : k + 4 ≤ 256) {a b c d : UInt8} (hne : ¬ (a = 0 ∧ b = 0 ∧ c = 0 ∧ d = 0)) (hc : chkB (tx L) = true) :
    chkB (tx (hm4 L k a b c d)) = false := by
  obtain ⟨p, x, y, z, u, q, rfl, hp⟩ := four_at L k (by omega)
  rw [hm4_mid p q x y z u a b c d k hp]
  rw [chk_tx hL, beq_iff_eq] at hc
  have hL2 : (p ++ ([x ^^^ a, y ^^^ b, z ^^^ c, u ^^^ d] ++ q)).length = 256 := by simp only [List.length_append, List.length_cons, List.length_nil] at hL ⊢; omega
  rw [chk_tx hL2, beq_eq_false_iff_ne]
  intro hc2
  apply hne
  have same : [x, y, z, u] = [x ^^^ a, y ^^^ b, z ^^^ c, u ^^^ d] := by
    rcases hk with rfl | hk
    · obtain rfl : p = [] := List.eq_nil_of_length_eq_zero hp
      have e : ∀ v : List UInt8, v.length = 4 → sl ([] ++ (v ++ q)) 0 4 = v ∧ sl ([] ++ (v ++ q)) 4 256 = q := by
        intro v hv
        have hq : q.length = 252 := by simp at hL; omega
        refine ⟨sl_piece [] v q 0 4 rfl (by omega), ?_⟩
        have := sl_piece v q [] 4 256 hv (by omega)
        simpa using this
      rw [(e [x, y, z, u] rfl).1, (e [x, y, z, u] rfl).2] at hc
      rw [(e [x ^^^ a, y ^^^ b, z ^^^ c, u ^^^ d] rfl).1, (e [x ^^^ a, y ^^^ b, z ^^^ c, u ^^^ d] rfl).2] at hc2
      have h1 := be_un [x, y, z, u]
      have h2 := be_un [x ^^^ a, y ^^^ b, z ^^^ c, u ^^^ d]
      rw [hc] at h1
      rw [hc2] at h2
      exact h1.symm.trans h2
    · have e : ∀ v : List UInt8, v.length = 4 → sl (p ++ (v ++ q)) 0 4 = p.take 4 ∧ sl (p ++ (v ++ q)) 4 256 = p.drop 4 ++ (v ++ q) := by
        intro v hv
        have hl : (p ++ (v ++ q)).length = 256 := by simp only [List.length_append, List.length_cons, List.length_nil] at hL ⊢; omega
        constructor
        · unfold sl
          rw [List.take_append_of_le_length (by omega), List.drop_zero]
        · unfold sl
          rw [List.take_of_length_le (by omega), List.drop_append_of_le_length (by omega)]
      rw [(e [x, y, z, u] rfl).1, (e [x, y, z, u] rfl).2] at hc
      rw [(e [x ^^^ a, y ^^^ b, z ^^^ c, u ^^^ d] rfl).1, (e [x ^^^ a, y ^^^ b, z ^^^ c, u ^^^ d] rfl).2] at hc2
      exact burst _ _ (hc.symm.trans hc2)
  simp only [List.cons.injEq, and_true] at same
  exact ⟨u8_xor_same same.1, u8_xor_same same.2.1, u8_xor_same same.2.2.1, u8_xor_same same.2.2.2⟩

theorem open_none {id : Int} {s : ByteArray} (h : chkB s = false) : openV id s = .tuple #[.int .u8 0, .string ByteArray.empty, .int .i64 3] := by
  unfold openV
  cases ho : pgOpen id s with
  | none => rfl
  | some x =>
    obtain ⟨k, b⟩ := x
    obtain ⟨h1, _, rfl⟩ := pgOpen_iff.1 ho
    rw [chk_bytes h1] at h
    cases h
theorem open_other {id o : Int} {k : UInt8} {b : ByteArray} (h : sealE id b = 0) (hne : ¬ o = id) : openV o (sealS id k b) = .tuple #[.int .u8 0, .string ByteArray.empty, .int .i64 3] := by
  unfold openV
  cases ho : pgOpen o (sealS id k b) with
  | none => rfl
  | some x =>
    obtain ⟨k', b'⟩ := x
    obtain ⟨e, h2, _⟩ := open_back ho
    exact absurd ((seal_same e h).1 h2).1 hne
theorem seal_tx {id : Int} {k : UInt8} {b : ByteArray} (h : sealE id b = 0) : ∃ L : List UInt8, sealS id k b = tx L ∧ L.length = 256 ∧ chkB (tx L) = true := by
  obtain ⟨p1, p2⟩ := seal_parts h
  exact ⟨pgBytes id k b, by unfold sealS; rw [if_pos h], pgBytes_length p1, chk_bytes p1⟩

/-- THE BYTES L LIE AT g. -/
def BRow (g : Nat) (L : List UInt8) : Asn := ex fun (x : Array Value × Nat × Nat) =>
  on ((∀ j, j < L.length → x.1[j]? = some (.int .u8 ((L.getD j 0).toNat : Int))) ∧ L.length ≤ x.2.1) (pts g (.cells x.1 5 x.2))
section
variable {F : Asn} {w : World} {g : Nat} {L : List UInt8}
theorem brow_get (H : Sat (BRow g L * F) w) : g < w.heap.size ∧ ∀ j, j < L.length → w.cell? ⟨g, j, none⟩ = some (.int .u8 ((L.getD j 0).toNat : Int)) ∧ w.frozen? ⟨g, j, none⟩ = false := by
  obtain ⟨x, H⟩ := sat_ex.1 H
  obtain ⟨⟨h1, h2⟩, H⟩ := sat_on.1 H
  refine ⟨H.left.lt, fun j hj => ⟨by rw [Sat.read H.left.at j]; exact h1 j hj, ?_⟩⟩
  have hx : x.2 = (x.2.1, x.2.2) := rfl
  have ha := H.left.at
  rw [hx] at ha
  have h2' : L.length ≤ x.2.1 := h2
  simp only [World.frozen?, ha]
  rw [Bool.and_eq_false_iff]
  left
  rw [decide_eq_false_iff_not]
  show ¬ x.2.1 ≤ j
  omega
theorem brow_set (H : Sat (BRow g L * F) w) (j : Nat) (b : UInt8) : Sat (BRow g (L.set j b) * F) (w.setCell ⟨g, j, none⟩ (.int .u8 (b.toNat : Int))) := by
  obtain ⟨x, H⟩ := sat_ex.1 H
  obtain ⟨⟨h1, h2⟩, H⟩ := sat_on.1 H
  refine sat_ex.2 ⟨(x.1.setIfInBounds j (.int .u8 (b.toNat : Int)), x.2), sat_on.2 ⟨⟨?_, by simpa using h2⟩, H.cell j _⟩⟩
  intro i hi
  rw [List.length_set] at hi
  have := h1 i hi
  by_cases e : j = i
  · subst e
    have hl : j < x.1.size := by
      rw [Array.getElem?_eq_some_iff] at this
      exact this.1
    simp [List.getD, hi, Array.getElem?_setIfInBounds, hl]
  · simp only [List.getD, List.getElem?_set_ne e, Array.getElem?_setIfInBounds_ne e]
    exact this
theorem brow_new (s : ByteArray) (H : Sat F w) : Sat (BRow w.heap.size s.data.toList * F) (Lib.bytesWorld w 5 s) := by
  have H1 := bytes_new 5 s H
  refine sat_ex.2 ⟨(_, _), sat_on.2 ⟨⟨?_, ?_⟩, H1⟩⟩
  · intro j hj
    have := Lib.bytesWorld_cell w 5 s j hj
    rwa [Sat.read H1.left.at j] at this
  · show s.data.toList.length ≤ (Lib.bytesCells w 5 s).size
    unfold Lib.bytesCells
    rw [Array.size_append, Array.size_map]
    exact Nat.le_add_right _ _
theorem brow_str {P : Program} (H : Sat (BRow g L * F) w) (src e dst : TypeId) (hs : P.underlying src = some (.slice e)) (he : P.underlying e = some (.int .u8)) (hd : P.underlying dst = some .string) (cap : Nat) :
    (convert src dst (.slice (some ⟨g, 0, none⟩) L.length cap)).run P w = .ok (.string (tx L)) w := by
  have := run_convert_bytes_arg (P := P) w src e hs he g 0 L.length cap (L.map fun b => (b.toNat : Int)) (by simp) (by
    intro i hi
    rw [Nat.zero_add, ((brow_get H).2 i hi).1]
    simp [List.getD, hi]) dst hd
  rw [this]
  congr 2
  unfold strOfNums tx
  rw [List.map_map]
  have : ((fun n : Int => UInt8.ofNat n.toNat) ∘ fun b : UInt8 => (b.toNat : Int)) = id := by
    funext b
    simp
  rw [this, List.map_id]
end
theorem u8_xor_bytes (x a : UInt8) : bits .xor .u8 (x.toNat : Int) (a.toNat : Int) = ((x ^^^ a).toNat : Int) := by
  rw [u8_xor_nat _ _ x.toNat_lt a.toNat_lt, UInt8.toNat_xor]
end Go.Proofs.YtnjhededdpjlgaaDoor
