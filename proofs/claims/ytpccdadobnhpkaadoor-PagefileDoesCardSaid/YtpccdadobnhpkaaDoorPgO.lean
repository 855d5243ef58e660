/-
  What bytes are a page, in plain words. It proves no statement by itself.
-/
import Derived.Test.YtpccdadobnhpkaaDoorPgC
namespace Go.Proofs.YtpccdadobnhpkaaDoor
open Go.RowKit
set_option linter.unusedSimpArgs false
set_option linter.unusedVariables false

/-- The bytes from a on, ahead of b. -/
def sl (L : List UInt8) (a b : Nat) : List UInt8 := (L.take b).drop a
theorem sl_ext (s : ByteArray) (a b : Nat) : (s.extract a b).data.toList = sl s.data.toList a b := Rt.ext_list s a b
theorem sl_length (L : List UInt8) (a b : Nat) (h : b ≤ L.length) : (sl L a b).length = b - a := by unfold sl; rw [List.length_drop, List.length_take]; omega
theorem sl_join (L : List UInt8) (a b c : Nat) (h1 : a ≤ b) (h2 : b ≤ c) : sl L a b ++ sl L b c = sl L a c := by
  unfold sl
  have e : L.take b = (L.take c).take b := by rw [List.take_take, Nat.min_eq_left h2]
  rw [e]
  generalize L.take c = M
  rw [List.drop_take]
  have : M.drop b = (M.drop a).drop (b - a) := by rw [List.drop_drop]; congr 1; omega
  rw [this, List.take_append_drop]
theorem sl_all (L : List UInt8) (n : Nat) (h : L.length = n) : sl L 0 n = L := by unfold sl; rw [List.drop_zero, List.take_of_length_le (by omega)]

/-- A piece of what is put together. -/
theorem sl_piece (A B C : List UInt8) (a b : Nat) (ha : A.length = a) (hb : a + B.length = b) : sl (A ++ (B ++ C)) a b = B := by
  unfold sl
  rw [← List.append_assoc, List.take_left' (by rw [List.length_append]; omega), List.drop_left' ha]

section
variable {id : Int} {kind : UInt8} {body : ByteArray}

theorem bytes_split (h : body.size ≤ 240) : pgBytes id kind body = be 4 (crcL (pgRest id kind body)) ++ (be 4 id.toNat ++ (be 1 kind.toNat ++ (be 1 0 ++ (be 2 body.size ++ ([0, 0, 0, 0] ++ (body.data.toList ++ noughts (240 - body.size))))))) := rfl

theorem pg_0 (h : body.size ≤ 240) : sl (pgBytes id kind body) 0 4 = be 4 (crcL (pgRest id kind body)) :=
  sl_piece [] (be 4 (crcL (pgRest id kind body))) (pgRest id kind body) 0 4 rfl (by rw [be_length])
theorem pg_r (h : body.size ≤ 240) : sl (pgBytes id kind body) 4 256 = pgRest id kind body := by
  have := sl_piece (be 4 (crcL (pgRest id kind body))) (pgRest id kind body) [] 4 256 (be_length 4 _) (by rw [pgRest_length h])
  rwa [List.append_nil] at this
theorem pg_4 (h : body.size ≤ 240) : sl (pgBytes id kind body) 4 8 = be 4 id.toNat :=
  sl_piece (be 4 (crcL (pgRest id kind body))) _ _ 4 8 (be_length 4 _) (by rw [be_length])
theorem pg_8 (h : body.size ≤ 240) : sl (pgBytes id kind body) 8 9 = be 1 kind.toNat := by
  have := sl_piece (be 4 (crcL (pgRest id kind body)) ++ be 4 id.toNat) (be 1 kind.toNat) (be 1 0 ++ (be 2 body.size ++ ([0, 0, 0, 0] ++ (body.data.toList ++ noughts (240 - body.size))))) 8 9 (by simp [be_length]) (by rw [be_length])
  rwa [List.append_assoc] at this
theorem pg_9 (h : body.size ≤ 240) : sl (pgBytes id kind body) 9 10 = be 1 0 := by
  have := sl_piece (be 4 (crcL (pgRest id kind body)) ++ (be 4 id.toNat ++ be 1 kind.toNat)) (be 1 0) (be 2 body.size ++ ([0, 0, 0, 0] ++ (body.data.toList ++ noughts (240 - body.size)))) 9 10 (by simp [be_length]) (by rw [be_length])
  rwa [List.append_assoc, List.append_assoc] at this
theorem pg_10 (h : body.size ≤ 240) : sl (pgBytes id kind body) 10 12 = be 2 body.size := by
  have := sl_piece (be 4 (crcL (pgRest id kind body)) ++ (be 4 id.toNat ++ (be 1 kind.toNat ++ be 1 0))) (be 2 body.size) ([0, 0, 0, 0] ++ (body.data.toList ++ noughts (240 - body.size))) 10 12 (by simp [be_length]) (by rw [be_length])
  rwa [List.append_assoc, List.append_assoc, List.append_assoc] at this
theorem pg_12 (h : body.size ≤ 240) : sl (pgBytes id kind body) 12 16 = [0, 0, 0, 0] := by
  have := sl_piece (be 4 (crcL (pgRest id kind body)) ++ (be 4 id.toNat ++ (be 1 kind.toNat ++ (be 1 0 ++ be 2 body.size)))) [0, 0, 0, 0] (body.data.toList ++ noughts (240 - body.size)) 12 16 (by simp [be_length]) rfl
  rwa [List.append_assoc, List.append_assoc, List.append_assoc, List.append_assoc] at this
theorem pg_16 (h : body.size ≤ 240) : sl (pgBytes id kind body) 16 (16 + body.size) = body.data.toList := by
  have := sl_piece (be 4 (crcL (pgRest id kind body)) ++ (be 4 id.toNat ++ (be 1 kind.toNat ++ (be 1 0 ++ (be 2 body.size ++ [0, 0, 0, 0]))))) body.data.toList (noughts (240 - body.size)) 16 (16 + body.size) (by simp [be_length]) rfl
  rwa [List.append_assoc, List.append_assoc, List.append_assoc, List.append_assoc, List.append_assoc] at this
theorem pg_z (h : body.size ≤ 240) : sl (pgBytes id kind body) (16 + body.size) 256 = noughts (240 - body.size) := by
  have := sl_piece (be 4 (crcL (pgRest id kind body)) ++ (be 4 id.toNat ++ (be 1 kind.toNat ++ (be 1 0 ++ (be 2 body.size ++ ([0, 0, 0, 0] ++ body.data.toList)))))) (noughts (240 - body.size)) [] (16 + body.size) 256 (by simp [be_length, size_list]; omega) (by rw [noughts_length]; omega)
  rw [List.append_nil] at this
  rwa [List.append_assoc, List.append_assoc, List.append_assoc, List.append_assoc, List.append_assoc, List.append_assoc] at this
end

/-- How long the body is that bytes tell of. -/
def pgN (s : ByteArray) : Nat := un (s.extract 10 12).data.toList
def pgK (s : ByteArray) : UInt8 := s.data.toList.getD 8 0
def pgB (s : ByteArray) : ByteArray := s.extract 16 (16 + pgN s)
/-- What bytes are, asked by a number. -/
def pgOpen (id : Int) (s : ByteArray) : Option (UInt8 × ByteArray) :=
  if s.size = 256 ∧ pgN s ≤ 240 ∧ fits 4 id = true ∧ tx (pgBytes id (pgK s) (pgB s)) = s then some (pgK s, pgB s) else none

theorem be1_kind (k : UInt8) : be 1 k.toNat = [k] := by
  show [UInt8.ofNat (k.toNat % 256)] = _
  rw [Nat.mod_eq_of_lt k.toNat_lt]
  simp
theorem be1_0 : be 1 0 = [0] := rfl
theorem fits4_lt (n : Nat) (h : n < 4294967296) : fits 4 (n : Int) = true := by
  simp [fits]
  omega
theorem sl_one (L : List UInt8) (i : Nat) (h : i < L.length) : sl L i (i + 1) = [L.getD i 0] := by
  unfold sl
  rw [List.take_succ_eq_append_getElem h, List.drop_left' (by rw [List.length_take]; omega), getD_of_lt h]

theorem pgOpen_iff {id : Int} {s : ByteArray} {k : UInt8} {b : ByteArray} : pgOpen id s = some (k, b) ↔ b.size ≤ 240 ∧ fits 4 id = true ∧ s = tx (pgBytes id k b) := by
  unfold pgOpen
  constructor
  · intro h
    split at h
    · rename_i hc
      cases h
      refine ⟨?_, hc.2.2.1, hc.2.2.2.symm⟩
      unfold pgB
      rw [ByteArray.size_extract]
      omega
    · cases h
  · rintro ⟨hb, hi, rfl⟩
    have hn : pgN (tx (pgBytes id k b)) = b.size := by
      unfold pgN
      rw [sl_ext, tx_list, pg_10 hb, un_be, Nat.mod_eq_of_lt (by omega)]
    have hk : pgK (tx (pgBytes id k b)) = k := by
      have := sl_one (pgBytes id k b) 8 (by rw [pgBytes_length hb]; omega)
      rw [pg_8 hb, be1_kind] at this
      unfold pgK
      rw [tx_list]
      exact (List.cons.inj this).1.symm
    have hB : pgB (tx (pgBytes id k b)) = b := by
      unfold pgB
      rw [hn]
      apply ByteArray.ext
      apply Array.ext'
      rw [sl_ext, tx_list, pg_16 hb]
    rw [if_pos ⟨by rw [tx_size, pgBytes_length hb], by omega, hi, by rw [hk, hB]⟩, hk, hB]

theorem chk_bytes {id : Int} {k : UInt8} {b : ByteArray} (hb : b.size ≤ 240) : chkB (tx (pgBytes id k b)) = true := by
  unfold chkB
  rw [sl_ext, sl_ext, tx_list, pg_0 hb, pg_r hb, un_be, Nat.mod_eq_of_lt (crcL_lt _), tx_size, pgBytes_length hb]
  simp

/-- What it takes to be a page. -/
theorem pgOpen_parts {id : Int} {s : ByteArray} (hc : chkB s = true) (hn : pgN s ≤ 240) (hi : ((un (s.extract 4 8).data.toList : Nat) : Int) = id) (hz : s.data.toList.getD 9 0 = 0)
    (hg : s.extract 12 16 = ⟨#[0, 0, 0, 0]⟩) (hr : ∀ b ∈ (s.extract (16 + pgN s) 256).data.toList, b = 0) : pgOpen id s = some (pgK s, pgB s) := by
  have h256 : s.size = 256 := by
    unfold chkB at hc
    simp at hc
    exact hc.1
  have hL : s.data.toList.length = 256 := h256
  have hcrc : un (s.extract 0 4).data.toList = crcL (s.extract 4 256).data.toList := by
    unfold chkB at hc
    simp only [Bool.and_eq_true, beq_iff_eq] at hc
    exact hc.2
  have l48 := un_lt (s.extract 4 8).data.toList
  rw [sl_ext, sl_length _ _ _ (by omega)] at l48
  have hfit : fits 4 id = true := by
    rw [← hi, sl_ext]
    have e : (256 : Nat) ^ (8 - 4) = 4294967296 := rfl
    rw [e] at l48
    exact fits4_lt _ l48
  have hbs : (pgB s).size = pgN s := by unfold pgB; rw [ByteArray.size_extract]; omega
  refine pgOpen_iff.2 ⟨by omega, hfit, ?_⟩
  -- piece by piece
  have p4 : sl s.data.toList 4 8 = be 4 id.toNat := by
    have := be_un (sl s.data.toList 4 8)
    rw [sl_length _ _ _ (by omega)] at this
    rw [← hi, Int.toNat_natCast, sl_ext]
    exact this.symm
  have p8 : sl s.data.toList 8 9 = be 1 (pgK s).toNat := by rw [sl_one _ 8 (by omega), be1_kind, pgK]
  have p9 : sl s.data.toList 9 10 = be 1 0 := by rw [sl_one _ 9 (by omega), hz]; exact be1_0.symm
  have p10 : sl s.data.toList 10 12 = be 2 (pgB s).size := by
    have := be_un (sl s.data.toList 10 12)
    rw [sl_length _ _ _ (by omega)] at this
    rw [hbs]
    unfold pgN
    rw [sl_ext]
    exact this.symm
  have p12 : sl s.data.toList 12 16 = [0, 0, 0, 0] := by rw [← sl_ext, hg]
  have p16 : sl s.data.toList 16 (16 + pgN s) = (pgB s).data.toList := by unfold pgB; rw [sl_ext]
  have pz : sl s.data.toList (16 + pgN s) 256 = noughts (240 - (pgB s).size) := by
    have := (noughts_iff (sl s.data.toList (16 + pgN s) 256)).2 (by rw [← sl_ext]; exact hr)
    rw [sl_length _ _ _ (by omega)] at this
    rw [hbs]
    exact this.trans (congrArg noughts (by omega))
  have rest : sl s.data.toList 4 256 = pgRest id (pgK s) (pgB s) := by
    unfold pgRest
    rw [← p4, ← p8, ← p9, ← p10, ← p12, ← p16, ← pz]
    rw [sl_join _ 16 _ 256 (by omega) (by omega), sl_join _ 12 16 256 (by omega) (by omega), sl_join _ 10 12 256 (by omega) (by omega), sl_join _ 9 10 256 (by omega) (by omega), sl_join _ 8 9 256 (by omega) (by omega), sl_join _ 4 8 256 (by omega) (by omega)]
  have first : sl s.data.toList 0 4 = be 4 (crcL (pgRest id (pgK s) (pgB s))) := by
    have := be_un (sl s.data.toList 0 4)
    rw [sl_length _ _ _ (by omega)] at this
    rw [← rest, ← sl_ext s 4 256, ← hcrc, sl_ext]
    exact this.symm
  have : s.data.toList = pgBytes id (pgK s) (pgB s) := by
    unfold pgBytes
    rw [← first, ← rest, sl_join _ 0 4 256 (by omega) (by omega), sl_all _ 256 hL]
  rw [← this, tx_of]
end Go.Proofs.YtpccdadobnhpkaaDoor
