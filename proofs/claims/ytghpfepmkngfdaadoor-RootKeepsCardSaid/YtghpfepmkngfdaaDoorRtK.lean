/-
  Roots that are stored one behind the other, and the power that goes, in plain words. It proves no statement by itself.
-/
import Derived.Test.YtghpfepmkngfdaaDoorRtNo
namespace Go.Proofs.YtghpfepmkngfdaaDoor
open Go.RowKit
set_option linter.unusedSimpArgs false
set_option linter.unusedVariables false

/-- Noughts, or an elder root's bytes. -/
def Old (X : List UInt8) (k : Int) : Prop := X = List.replicate 256 0 ∨ ∃ old : Rt, old.good = true ∧ old.e < k ∧ X = old.bytes

theorem Old.len {X : List UInt8} {k : Int} (h : Old X k) : X.length = 256 := by
  rcases h with rfl | ⟨old, _, _, rfl⟩
  · exact List.length_replicate
  · exact old.bytes_length
theorem Old.mono {X : List UInt8} {k m : Int} (h : Old X k) (hm : k ≤ m) : Old X m := by
  rcases h with h | ⟨old, a, b, c⟩
  · exact .inl h
  · exact .inr ⟨old, a, by omega, c⟩
theorem Old.dec {X : List UInt8} {k : Int} (h : Old X k) : Rt.dec (tx X) = none ∨ ∃ old : Rt, Rt.dec (tx X) = some old ∧ old.e < k := by
  rcases h with rfl | ⟨old, a, b, rfl⟩
  · exact .inl dec_zeros
  · exact .inr ⟨old, Rt.dec_bytes a, b⟩

theorem pick_first {a b : ByteArray} {was : Rt} (ha : Rt.dec a = some was) (hb : Rt.dec b = none ∨ ∃ old : Rt, Rt.dec b = some old ∧ old.e < was.e) : Rt.pick a b = some was := by
  unfold Rt.pick
  rcases hb with hb | ⟨old, hb, hl⟩
  · rw [ha, hb]
  · rw [ha, hb]; simp only; rw [if_pos (by omega)]
theorem pick_second {a b : ByteArray} {was : Rt} (hb : Rt.dec b = some was) (ha : Rt.dec a = none ∨ ∃ old : Rt, Rt.dec a = some old ∧ old.e < was.e) : Rt.pick a b = some was := by
  unfold Rt.pick
  rcases ha with ha | ⟨old, ha, hl⟩
  · rw [ha, hb]
  · rw [ha, hb]; simp only; rw [if_neg (by omega)]

theorem zero_of_be {x : Int} (h : (x.toNat : Int) = x) (hl : x.toNat < 256 ^ 4) (e : be 4 x.toNat = [0, 0, 0, 0]) : x = 0 := by
  have := congrArg un e
  rw [un_be, Nat.mod_eq_of_lt hl] at this
  have e4 : un [0, 0, 0, 0] = 0 := by decide
  omega

/-- What stands in a slot that was torn. -/
theorem torn_old {X : List UInt8} {k : Int} {now r : Rt} (hx : Old X k) (hn : now.good = true) (hk : k ≤ now.e) (hr : r.good = true) (m : Nat) (hm : m ≤ 256) (h : r.bytes = tornL X now.bytes m) : r = now ∨ r.e < k := by
  rcases hx with rfl | ⟨old, ho, hl, rfl⟩
  · -- noughts
    left
    have lr := r.bytes_length
    have ln := now.bytes_length
    rcases Nat.lt_or_ge 252 m with h5 | h5
    · have e1 : r.bytes.take 4 = now.bytes.take 4 := by
        rw [h, tornL, List.take_append_of_le_length (by rw [List.length_take]; omega), List.take_take, Nat.min_eq_left (by omega)]
      rw [bytes_first, bytes_first] at e1
      have ee : r.bytes.drop 252 = now.bytes.drop 252 := by rw [bytes_last, bytes_last, e1]
      have ed : r.bytes.take 252 = now.bytes.take 252 := by
        rw [h, tornL, List.take_append_of_le_length (by rw [List.length_take]; omega), List.take_take, Nat.min_eq_left (by omega)]
      have : r.bytes = now.bytes := by rw [← List.take_append_drop 252 r.bytes, ee, ed, List.take_append_drop]
      exact Rt.bytes_inj hr hn (by rw [this])
    · have e2 : r.bytes.drop 252 = [0, 0, 0, 0] := by
        rw [h, tornL, List.drop_append, List.drop_of_length_le (by rw [List.length_take]; omega), List.nil_append, List.drop_drop, List.drop_replicate, List.length_take, ln, Nat.min_eq_left (by omega)]
        have : 256 - (m + (252 - m)) = 4 := by omega
        rw [this]
        rfl
      rw [bytes_last] at e2
      exact absurd (zero_of_be (good_e hr).1 (good_e hr).2 e2) (Rt.good_parts hr).1
  · rcases torn_root ho hn hr (by omega) m h hm with rfl | rfl
    · exact .inr hl
    · exact .inl rfl

/-- A disk behind k stores: the youngest slot has Y, the other one X. -/
structure Kp (d : Dk) (k : Nat) (Y X : List UInt8) : Prop where
  ok : d.Ok
  down : d.down = false
  left : d.left = -1
  pend : d.pend = []
  len : d.sure.length = 3
  w : d.writes ≤ (k : Int)
  r : d.reads ≤ 2 * (k : Int)
  hy : d.sure.getD (k % 2) ByteArray.empty = tx Y
  hx : d.sure.getD ((k + 1) % 2) ByteArray.empty = tx X

theorem Kp.new : Kp (Dk.new 3) 0 (List.replicate 256 0) (List.replicate 256 0) :=
  ⟨Dk.new_ok 3 (by omega), rfl, rfl, rfl, by simp [Dk.new], by simp [Dk.new], by simp [Dk.new], rfl, rfl⟩

theorem Kp.atE {d : Dk} {k : Nat} {Y X : List UInt8} (h : Kp d k Y X) (i : Int) (h0 : 0 ≤ i) (h1 : i < 2) : d.atE i = 0 := by
  unfold Dk.atE
  rw [h.down, if_neg (by simp), if_pos ⟨h0, by rw [h.len]; omega⟩]
theorem Kp.readS {d : Dk} {k : Nat} {Y X : List UInt8} (h : Kp d k Y X) (i : Nat) (h1 : i < 2) : d.readS (i : Int) = d.sure.getD i ByteArray.empty := by
  unfold Dk.readS
  rw [if_pos (h.atE i (by omega) (by omega))]
  unfold Dk.now
  rw [h.pend, Int.toNat_natCast]
  rfl

/-- What is loaded: the youngest. -/
theorem Kp.pick {d : Dk} {k : Nat} {X : List UInt8} {was : Rt} (h : Kp d k was.bytes X) (hg : was.good = true) (he : was.e = (k : Int)) (hx : Old X (k : Int)) : Rt.pick (d.readS 0) (d.readS 1) = some was := by
  have r0 : d.readS 0 = d.sure.getD 0 ByteArray.empty := h.readS 0 (by omega)
  have r1 : d.readS 1 = d.sure.getD 1 ByteArray.empty := h.readS 1 (by omega)
  have hy := h.hy
  have hxx := h.hx
  have hd := Rt.dec_bytes hg
  have ho := hx.dec
  rw [← he] at ho
  rw [r0, r1]
  rcases Nat.mod_two_eq_zero_or_one k with hk | hk
  · rw [hk] at hy
    rw [show (k + 1) % 2 = 1 from by omega] at hxx
    rw [hy, hxx]
    exact pick_first hd ho
  · rw [hk] at hy
    rw [show (k + 1) % 2 = 0 from by omega] at hxx
    rw [hy, hxx]
    exact pick_second hd ho

theorem set_getD {l : List ByteArray} {i j : Nat} {s : ByteArray} (hi : i < l.length) : (l.set i s).getD j ByteArray.empty = if i = j then s else l.getD j ByteArray.empty := by
  by_cases h : i = j
  · subst h; simp [List.getD, hi]
  · simp [List.getD, h]

theorem done_all (sure : List ByteArray) (i : Nat) (s : ByteArray) (hs : s.size = 256) (h : (sure.getD i ByteArray.empty).size = 256) : Dk.done sure ((i : Int), s) 256 = sure.set i s := by
  show sure.set (i : Int).toNat (s.extract 0 256 ++ (sure.getD (i : Int).toNat ByteArray.empty).extract 256 256) = _
  rw [Int.toNat_natCast]
  congr 1
  apply ByteArray.ext
  apply Array.ext'
  rw [ByteArray.data_append, Array.toList_append, Rt.ext_list, Rt.ext_list, List.drop_zero, List.take_of_length_le (by rw [size_list]; omega), List.drop_of_length_le (by rw [List.length_take, size_list]; omega), List.append_nil]

/-- One more root is stored. -/
theorem Kp.store {d : Dk} {k : Nat} {Y X : List UInt8} (h : Kp d k Y X) {r : Rt} {s : ByteArray} (es : s = tx r.bytes) :
    d.writeE (((k + 1) % 2 : Nat) : Int) s = 0 ∧ (d.write (((k + 1) % 2 : Nat) : Int) s).syncE = 0 ∧ (d.write (((k + 1) % 2 : Nat) : Int) s).sync.reads = d.reads ∧ Kp (d.write (((k + 1) % 2 : Nat) : Int) s).sync (k + 1) r.bytes Y := by
  have hs : s.size = 256 := by rw [es, tx_size, Rt.bytes_length]
  have hj2 : (k + 1) % 2 < 2 := by omega
  have hj3 : ¬ (k + 1) % 2 = (k + 1 + 1) % 2 := by omega
  generalize hj : (k + 1) % 2 = j at *
  have ha := h.atE (j : Int) (by omega) (by omega)
  have ew : d.write (j : Int) s = { d with pend := d.pend ++ [((j : Int), s)], writes := d.writes + 1, down := if d.left = 0 then true else d.down, left := if d.left = 0 then -1 else if 0 < d.left then d.left - 1 else d.left } := by
    simp [Dk.write, ha, hs]
  have hlt : j < d.sure.length := by rw [h.len]; omega
  have hsect := h.ok.sect (j) hlt
  have e2 : (d.write (j : Int) s).sync = { d with sure := d.sure.set (j) s, pend := [], writes := d.writes + 1 } := by
    rw [ew]
    simp only [h.left, h.down, h.pend, List.nil_append]
    unfold Dk.sync Dk.settle Dk.syncs
    simp only [List.foldl_cons, List.foldl_nil]
    rw [done_all _ _ _ hs hsect]
    simp [h.down, h.left]
  refine ⟨by simp [Dk.writeE, ha, hs, h.left], by rw [ew]; simp [Dk.syncE, h.left, h.down], by rw [e2], ?_⟩
  have ok2 := Dk.sync_ok' (Dk.write_ok' h.ok (j : Int) s)
  rw [e2] at ok2 ⊢
  refine ⟨ok2, h.down, h.left, rfl, by simp [h.len], by have := h.w; simp; omega, by have := h.r; simp; omega, ?_, ?_⟩
  · show (d.sure.set j s).getD ((k + 1) % 2) ByteArray.empty = _
    rw [hj, set_getD hlt, if_pos rfl, es]
  · show (d.sure.set (j) s).getD ((k + 1 + 1) % 2) ByteArray.empty = _
    rw [set_getD hlt, if_neg hj3, show (k + 1 + 1) % 2 = k % 2 from by omega]
    exact h.hy

/-- .. and loaded. -/
theorem Kp.load {d : Dk} {k : Nat} {Y X : List UInt8} (h : Kp d k Y X) (hr : d.reads + 2 ≤ 2 * (k : Int)) : Kp ((d.read 0).read 1) k Y X := by
  have h0 := h.atE 0 (by omega) (by omega)
  have h1 := h.atE 1 (by omega) (by omega)
  have e : (d.read 0).read 1 = { d with reads := d.reads + 2 } := by
    have e0 : d.read 0 = { d with reads := d.reads + 1 } := by simp [Dk.read, h0]
    have a1 : (d.read 0).atE 1 = 0 := by rw [atE_read]; exact h1
    rw [Dk.read, if_pos a1, e0]
    congr 1
    show d.reads + 1 + 1 = d.reads + 2
    omega
  have ok2 := Dk.read_ok' (Dk.read_ok' h.ok 0) 1
  rw [e] at ok2 ⊢
  exact ⟨ok2, h.down, h.left, h.pend, h.len, h.w, by show d.reads + 2 ≤ _; omega, h.hy, h.hx⟩

/-! ### the power goes -/

/-- The disk behind the write with which the power went. -/
def gone (d : Dk) (i : Nat) (s : ByteArray) : Dk := { d with pend := [((i : Int), s)], writes := d.writes + 1, down := true, left := -1 }

theorem Kp.gone {d : Dk} {k : Nat} {Y X : List UInt8} (h : Kp d k Y X) {s : ByteArray} (hs : s.size = 256) :
    (d.brk 0).writeE (((k + 1) % 2 : Nat) : Int) s = 4 ∧ (d.brk 0).write (((k + 1) % 2 : Nat) : Int) s = gone d ((k + 1) % 2) s ∧ (gone d ((k + 1) % 2) s).Ok ∧ (gone d ((k + 1) % 2) s).atE 0 = 4 ∧ (gone d ((k + 1) % 2) s).read 0 = gone d ((k + 1) % 2) s := by
  have hj2 : (k + 1) % 2 < 2 := by omega
  generalize (k + 1) % 2 = j at *
  have ha : (d.brk 0).atE (j : Int) = 0 := h.atE (j : Int) (by omega) (by omega)
  have hl : (d.brk 0).left = 0 := rfl
  have hp : (d.brk 0).pend = [] := h.pend
  have ew : (d.brk 0).write (j : Int) s = Proofs.YtghpfepmkngfdaaDoor.gone d (j) s := by
    simp only [Dk.write, ha, hs, hl, hp, ne_eq, not_true_eq_false, if_false, if_true, List.nil_append]
    rfl
  have ok2 := Dk.write_ok' (Dk.brk_ok' h.ok 0 (by omega)) (j : Int) s
  rw [ew] at ok2
  have e4 : (Proofs.YtghpfepmkngfdaaDoor.gone d (j) s).atE 0 = 4 := by simp [Dk.atE, Proofs.YtghpfepmkngfdaaDoor.gone]
  refine ⟨by simp [Dk.writeE, ha, hs, hl], ew, ok2, e4, by unfold Dk.read; rw [if_neg (by rw [e4]; decide)]⟩

theorem crash_none (d : Dk) (i : Nat) (s : ByteArray) (cut : Int) : (gone d i s).crash [] 0 cut = { d with pend := [], writes := d.writes + 1, down := false, left := -1 } := by
  simp [Dk.crash, gone, Dk.crashes]
theorem crash_kept (d : Dk) (i : Nat) (s : ByteArray) (cut : Int) : (gone d i s).crash [0] 0 cut = { d with sure := d.sure.set i (s.extract 0 (min (max cut 0) 256).toNat ++ (d.sure.getD i ByteArray.empty).extract (min (max cut 0) 256).toNat 256), pend := [], writes := d.writes + 1, down := false, left := -1 } := by
  simp [Dk.crash, gone, Dk.crashes, Dk.comes, Dk.done]

theorem torn_ext {Y X : List UInt8} {s : ByteArray} (es : s = tx Y) (hx : X.length = 256) (m : Nat) : s.extract 0 m ++ (tx X).extract m 256 = tx (tornL X Y m) := by
  unfold tornL
  rw [es, ← tx_append]
  congr 1
  · rw [tx_extract, List.drop_zero]
  · rw [tx_extract, List.take_of_length_le (by omega)]

/-- A disk of three sectors that is up, with nothing pending. -/
theorem up_atE {d : Dk} (hd : d.down = false) (hl : d.sure.length = 3) (i : Int) (h0 : 0 ≤ i) (h1 : i < 2) : d.atE i = 0 := by
  unfold Dk.atE
  rw [hd, if_neg (by simp), if_pos ⟨h0, by rw [hl]; omega⟩]
theorem up_readS {d : Dk} (hd : d.down = false) (hl : d.sure.length = 3) (hp : d.pend = []) (i : Nat) (h1 : i < 2) : d.readS (i : Int) = d.sure.getD i ByteArray.empty := by
  unfold Dk.readS
  rw [if_pos (up_atE hd hl i (by omega) (by omega))]
  unfold Dk.now
  rw [hp, Int.toNat_natCast]
  rfl

theorem up_readS0 {d : Dk} (hd : d.down = false) (hl : d.sure.length = 3) (hp : d.pend = []) : d.readS 0 = d.sure.getD 0 ByteArray.empty := up_readS hd hl hp 0 (by omega)
theorem up_readS1 {d : Dk} (hd : d.down = false) (hl : d.sure.length = 3) (hp : d.pend = []) : d.readS 1 = d.sure.getD 1 ByteArray.empty := up_readS hd hl hp 1 (by omega)

theorem Kp.back_none {d : Dk} {k : Nat} {X : List UInt8} {was : Rt} (h : Kp d k was.bytes X) (hg : was.good = true) (he : was.e = (k : Int)) (hx : Old X (k : Int)) (s : ByteArray) (hs : s.size = 256) (cut : Int) :
    ((Proofs.YtghpfepmkngfdaaDoor.gone d ((k + 1) % 2) s).crash [] 0 cut).Ok ∧ ((Proofs.YtghpfepmkngfdaaDoor.gone d ((k + 1) % 2) s).crash [] 0 cut).reads = d.reads ∧ ((Proofs.YtghpfepmkngfdaaDoor.gone d ((k + 1) % 2) s).crash [] 0 cut).atE 0 = 0 ∧ ((Proofs.YtghpfepmkngfdaaDoor.gone d ((k + 1) % 2) s).crash [] 0 cut).atE 1 = 0 ∧
    Rt.pick (((Proofs.YtghpfepmkngfdaaDoor.gone d ((k + 1) % 2) s).crash [] 0 cut).readS 0) (((Proofs.YtghpfepmkngfdaaDoor.gone d ((k + 1) % 2) s).crash [] 0 cut).readS 1) = some was := by
  have okc := Dk.crash_ok' (h.gone hs).2.2.1 [] 0 cut
  have hp := h.pick hg he hx
  rw [up_readS0 h.down h.len h.pend, up_readS1 h.down h.len h.pend] at hp
  rw [crash_none] at okc ⊢
  refine ⟨okc, rfl, by refine up_atE ?_ ?_ 0 (by omega) (by omega) <;> first | rfl | exact h.len, by refine up_atE ?_ ?_ 1 (by omega) (by omega) <;> first | rfl | exact h.len, ?_⟩
  rw [up_readS0 (d := { d with pend := [], writes := d.writes + 1, down := false, left := -1 }) rfl h.len rfl, up_readS1 (d := { d with pend := [], writes := d.writes + 1, down := false, left := -1 }) rfl h.len rfl]
  exact hp

theorem Kp.back_kept {d : Dk} {k : Nat} {X : List UInt8} {was last : Rt} (h : Kp d k was.bytes X) (hg : was.good = true) (he : was.e = (k : Int)) (hx : Old X (k : Int)) (hgl : last.good = true) (hel : last.e = (k : Int) + 1)
    {s : ByteArray} (es : s = tx last.bytes) (cut : Int) :
    ((Proofs.YtghpfepmkngfdaaDoor.gone d ((k + 1) % 2) s).crash [0] 0 cut).Ok ∧ ((Proofs.YtghpfepmkngfdaaDoor.gone d ((k + 1) % 2) s).crash [0] 0 cut).reads = d.reads ∧ ((Proofs.YtghpfepmkngfdaaDoor.gone d ((k + 1) % 2) s).crash [0] 0 cut).atE 0 = 0 ∧ ((Proofs.YtghpfepmkngfdaaDoor.gone d ((k + 1) % 2) s).crash [0] 0 cut).atE 1 = 0 ∧
    ∃ x, Rt.pick (((Proofs.YtghpfepmkngfdaaDoor.gone d ((k + 1) % 2) s).crash [0] 0 cut).readS 0) (((Proofs.YtghpfepmkngfdaaDoor.gone d ((k + 1) % 2) s).crash [0] 0 cut).readS 1) = some x ∧ (x = last ∨ x = was ∧ cut < 256) := by
  have hs : s.size = 256 := by rw [es, tx_size, Rt.bytes_length]
  have okc := Dk.crash_ok' (h.gone hs).2.2.1 [0] 0 cut
  have hlt : (k + 1) % 2 < d.sure.length := by rw [h.len]; omega
  have hm : (min (max cut 0) 256).toNat ≤ 256 := by omega
  rw [crash_kept, h.hx, torn_ext es hx.len] at okc ⊢
  have hl3 : (d.sure.set ((k + 1) % 2) (tx (tornL X last.bytes (min (max cut 0) 256).toNat))).length = 3 := by rw [List.length_set]; exact h.len
  refine ⟨okc, rfl, by refine up_atE ?_ ?_ 0 (by omega) (by omega) <;> first | rfl | exact hl3, by refine up_atE ?_ ?_ 1 (by omega) (by omega) <;> first | rfl | exact hl3, ?_⟩
  rw [up_readS0 (d := { d with sure := d.sure.set ((k + 1) % 2) (tx (tornL X last.bytes (min (max cut 0) 256).toNat)), pend := [], writes := d.writes + 1, down := false, left := -1 }) rfl hl3 rfl, up_readS1 (d := { d with sure := d.sure.set ((k + 1) % 2) (tx (tornL X last.bytes (min (max cut 0) 256).toNat)), pend := [], writes := d.writes + 1, down := false, left := -1 }) rfl hl3 rfl]
  simp only
  rw [set_getD hlt, set_getD hlt]
  have hdw := Rt.dec_bytes hg
  -- what stands in the torn slot
  have key : Rt.dec (tx (tornL X last.bytes (min (max cut 0) 256).toNat)) = some last ∨ (Rt.dec (tx (tornL X last.bytes (min (max cut 0) 256).toNat)) = none ∨ ∃ old : Rt, Rt.dec (tx (tornL X last.bytes (min (max cut 0) 256).toNat)) = some old ∧ old.e < was.e) ∧ cut < 256 := by
    by_cases hc : cut < 256
    · cases hd : Rt.dec (tx (tornL X last.bytes (min (max cut 0) 256).toNat)) with
      | none => exact .inr ⟨.inl rfl, hc⟩
      | some r =>
        obtain ⟨hgr, hsr⟩ := Rt.dec_iff.1 hd
        rcases torn_old hx hgl (by omega) hgr _ hm (tx_inj hsr).symm with e | e
        · exact .inl (by rw [e])
        · exact .inr ⟨.inr ⟨r, rfl, by omega⟩, hc⟩
    · have e : (min (max cut 0) 256).toNat = 256 := by omega
      rw [e, torn_all last.bytes_length hx.len]
      exact .inl (Rt.dec_bytes hgl)
  generalize tx (tornL X last.bytes (min (max cut 0) 256).toNat) = t at *
  have hy := h.hy
  have hlw : was.e < last.e := by omega
  rcases Nat.mod_two_eq_zero_or_one k with hk | hk
  · rw [hk] at hy
    rw [if_neg (by omega), if_pos (by omega), hy]
    rcases key with hd | ⟨hd, hc⟩
    · exact ⟨last, pick_second hd (.inr ⟨was, hdw, hlw⟩), .inl rfl⟩
    · exact ⟨was, pick_first hdw hd, .inr ⟨rfl, hc⟩⟩
  · rw [hk] at hy
    rw [if_pos (by omega), if_neg (by omega), hy]
    rcases key with hd | ⟨hd, hc⟩
    · exact ⟨last, pick_first hd (.inr ⟨was, hdw, hlw⟩), .inl rfl⟩
    · exact ⟨was, pick_second hdw hd, .inr ⟨rfl, hc⟩⟩
end Go.Proofs.YtghpfepmkngfdaaDoor
