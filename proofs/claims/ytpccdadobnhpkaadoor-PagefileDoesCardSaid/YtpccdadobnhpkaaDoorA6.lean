/-
  Chapter 6: rows of acts that came in, and what the laws' loops keep to, in plain words. It proves no statement by itself.
-/
import Derived.Test.YtpccdadobnhpkaaDoorF6
import Derived.Test.YtpccdadobnhpkaaDoorPgB
import Derived.Test.YtpccdadobnhpkaaDoorDLaws
import Derived.Deep.RegionHeld3
namespace Go.Proofs.YtpccdadobnhpkaaDoor
open Go.RowKit
set_option linter.unusedSimpArgs false
set_option linter.unusedVariables false

/-- One act. -/
structure Act6 where
  K : Int
  I : Int
  kd : UInt8
  S : ByteArray

/-- A slice value that reads as these acts, wherever F holds. -/
structure ReadsA (F : Asn) (v : Value) (l : List Act6) : Prop where
  shape : ∃ a c, v = .slice a l.length c ∧ l.length ≤ 9223372036854775807 ∧ (l.length = 0 ∨ ∃ b off, a = some ⟨b, off, none⟩ ∧ ∀ w, Sat F w → ∀ i (h : i < l.length),
    w.cell? ⟨b, off + i * 4, none⟩ = some (.int .i64 l[i].K) ∧ w.cell? ⟨b, off + i * 4 + 1, none⟩ = some (.int .i64 l[i].I) ∧ w.cell? ⟨b, off + i * 4 + 2, none⟩ = some (.int .u8 (l[i].kd.toNat : Int)) ∧ w.cell? ⟨b, off + i * 4 + 3, none⟩ = some (.string l[i].S))
  ints : ∀ x ∈ l, (-9223372036854775808 ≤ x.K ∧ x.K ≤ 9223372036854775807) ∧ (-9223372036854775808 ≤ x.I ∧ x.I ≤ 9223372036854775807) ∧ x.S.size ≤ 9223372036854775807
theorem ReadsA.with {F G : Asn} {v : Value} {l : List Act6} (h : ReadsA F v l) : ReadsA (G * F) v l := by
  obtain ⟨⟨a, c, h1, h2, h3⟩, h5⟩ := h
  refine ⟨⟨a, c, h1, h2, ?_⟩, h5⟩
  rcases h3 with h3 | ⟨b, off, e, h3⟩
  · exact .inl h3
  · exact .inr ⟨b, off, e, fun w hw => h3 w hw.right⟩
theorem readsA_len {F : Asn} {v : Value} {l : List Act6} (h : ReadsA F v l) : ∃ a c, v = .slice a l.length c ∧ l.length ≤ 9223372036854775807 := by
  obtain ⟨⟨a, c, h1, h2, h3⟩, h5⟩ := h
  exact ⟨a, c, h1, h2⟩
theorem readsA_at {F : Asn} {a : Option Addr} {n c : Nat} {l : List Act6} (hl : ReadsA F (.slice a n c) l) (k : Nat) (hk : k < l.length) : ∃ b off, a = some ⟨b, off, none⟩ ∧ ∀ w, Sat F w →
    w.cell? ⟨b, off + k * 4, none⟩ = some (.int .i64 l[k].K) ∧ w.cell? ⟨b, off + k * 4 + 1, none⟩ = some (.int .i64 l[k].I) ∧ w.cell? ⟨b, off + k * 4 + 2, none⟩ = some (.int .u8 (l[k].kd.toNat : Int)) ∧ w.cell? ⟨b, off + k * 4 + 3, none⟩ = some (.string l[k].S) := by
  obtain ⟨⟨a', c', h1, _, h3⟩, _⟩ := hl
  cases h1
  rcases h3 with h3 | ⟨b, off, e, h3⟩
  · omega
  · exact ⟨b, off, e, fun w hw => h3 w hw k hk⟩

/-- Texts as cells, kinds, bools. -/
def sv6 (l : List ByteArray) : List Value := l.map Value.string
def kv6 (l : List UInt8) : List Value := l.map fun k => Value.int .u8 (k.toNat : Int)
def tv6 (l : List Bool) : List Value := l.map Value.bool
theorem sv6_get (l : List ByteArray) (j : Nat) (h : j < l.length) : (sv6 l)[j]? = some (.string (l.getD j ByteArray.empty)) := by simp [sv6, List.getD, h]
theorem kv6_get (l : List UInt8) (j : Nat) (h : j < l.length) : (kv6 l)[j]? = some (.int .u8 ((l.getD j 0).toNat : Int)) := by simp [kv6, List.getD, h]
theorem tv6_get (l : List Bool) (j : Nat) (h : j < l.length) : (tv6 l)[j]? = some (.bool (l.getD j false)) := by simp [tv6, List.getD, h]
theorem sv6_set (l : List ByteArray) (j : Nat) (s : ByteArray) : (sv6 l).set j (.string s) = sv6 (l.set j s) := by simp [sv6, List.map_set]
theorem kv6_set (l : List UInt8) (j : Nat) (s : UInt8) : (kv6 l).set j (.int .u8 (s.toNat : Int)) = kv6 (l.set j s) := by simp [kv6, List.map_set]
theorem tv6_set (l : List Bool) (j : Nat) (s : Bool) : (tv6 l).set j (.bool s) = tv6 (l.set j s) := by simp [tv6, List.map_set]
theorem getD_set {α : Type} (l : List α) (i j : Nat) (x z : α) (hi : i < l.length) : (l.set i x).getD j z = if i = j then x else l.getD j z := by
  by_cases e : i = j
  · subst e; simp [List.getD, hi]
  · rw [if_neg e, List.getD_eq_getElem?_getD, List.getElem?_set_ne e, ← List.getD_eq_getElem?_getD]

namespace Dk
/-- A disk of 12 sectors that stands. -/
structure Up (d : Dk) (m : Nat) : Prop where
  ok : d.Ok
  len : d.sure.length = 12
  down : d.down = false
  left : d.left = -1
  pend : d.pend.length ≤ m
  writes : d.writes ≤ m
  reads : d.reads ≤ m
theorem Up.mono {d : Dk} {m n : Nat} (h : d.Up m) (hn : m ≤ n) : d.Up n := ⟨h.ok, h.len, h.down, h.left, by have := h.pend; omega, by have := h.writes; omega, by have := h.reads; omega⟩
theorem Up.new : (Dk.new 12).Up 0 := ⟨new_ok 12 (by decide), by simp [Dk.new], rfl, rfl, by simp [Dk.new], by simp [Dk.new], by simp [Dk.new]⟩
theorem new_now (i : Nat) (h : i < 12) : (Dk.new 12).now i = rp 256 0 := by
  show (List.replicate 12 (rp 256 0)).getD i ByteArray.empty = _
  rw [List.getD_eq_getElem?_getD, List.getElem?_replicate, if_pos h]
  rfl
theorem Up.atE {d : Dk} {m : Nat} (h : d.Up m) (i : Int) : d.atE i = if 0 ≤ i ∧ i < 12 then 0 else 40 := by
  unfold Dk.atE
  rw [h.down, if_neg (by decide), h.len]
  rfl
theorem Up.writeE {d : Dk} {m : Nat} (h : d.Up m) (i : Int) (s : ByteArray) (h0 : 0 ≤ i) (h1 : i < 12) (hs : s.size = 256) : d.writeE i s = 0 := by
  have a : d.atE i = 0 := by rw [h.atE, if_pos ⟨h0, h1⟩]
  unfold Dk.writeE
  rw [a, hs, h.left]
  simp
theorem Up.write {d : Dk} {m : Nat} (h : d.Up m) (i : Int) (s : ByteArray) : (d.write i s).Up (m + 1) := by
  refine ⟨write_ok' h.ok i s, ?_, ?_, ?_, ?_, ?_, ?_⟩ <;> unfold Dk.write
  · split; exact h.len; split; exact h.len; exact h.len
  · split
    · exact h.down
    · split
      · exact h.down
      · rw [h.left]; exact h.down
  · split
    · exact h.left
    · split
      · exact h.left
      · rw [h.left]; rfl
  · have := h.pend
    split
    · omega
    · split
      · omega
      · simp; omega
  · have := h.writes
    split
    · omega
    · split
      · omega
      · simp; omega
  · have := h.reads
    split
    · omega
    · split
      · omega
      · simp; omega
theorem Up.sync {d : Dk} {m : Nat} (h : d.Up m) : d.sync.Up m ∧ d.syncE = 0 ∧ (∀ j, j < 12 → d.sync.now j = d.now j) := by
  have e : d.sync = d.settle (syncs d.sure d.pend) := by unfold Dk.sync; rw [h.down]; rfl
  refine ⟨⟨sync_ok' h.ok, ?_, ?_, ?_, ?_, ?_, ?_⟩, by unfold Dk.syncE; rw [h.down]; rfl, fun j hj => (now_sync h.ok h.down j (by rw [h.len]; exact hj)).1⟩ <;> rw [e]
  · show (syncs d.sure d.pend).length = 12
    rw [syncs_length]; exact h.len
  · exact h.down
  · exact h.left
  · exact Nat.zero_le _
  · exact h.writes
  · exact h.reads
theorem Up.read {d : Dk} {m : Nat} (h : d.Up m) (i : Int) : (d.read i).Up (m + 1) ∧ (∀ j, (d.read i).now j = d.now j) := by
  unfold Dk.read
  split
  · exact ⟨⟨by have := read_ok' h.ok i; unfold Dk.read at this; rw [if_pos (by assumption)] at this; exact this, h.len, h.down, h.left, by have := h.pend; simp; omega, by have := h.writes; simp; omega, by have := h.reads; simp; omega⟩, fun j => rfl⟩
  · exact ⟨h.mono (by omega), fun j => rfl⟩
theorem Up.readS {d : Dk} {m : Nat} (h : d.Up m) (i : Nat) (hi : i < 12) : d.readS (i : Int) = d.now i := by
  have a : d.atE (i : Int) = 0 := by rw [h.atE, if_pos ⟨by omega, by omega⟩]
  unfold Dk.readS
  rw [a, if_pos rfl, Int.toNat_natCast]
/-- Slot. -/
theorem Up.getSlot {d : Dk} {m : Nat} (h : d.Up m) (j : Nat) (hj : j < 2) : d.slotR (j : Int) = d.read (j : Int) ∧ d.slotE (j : Int) = 0 ∧ d.slotS (j : Int) = d.now j := by
  unfold Dk.slotR Dk.slotE Dk.slotS
  rw [if_neg (by omega), if_neg (by omega), if_neg (by omega)]
  exact ⟨rfl, by rw [h.atE, if_pos ⟨by omega, by omega⟩], h.readS j (by omega)⟩
/-- PutSlot. -/
theorem Up.putSlot {d : Dk} {m : Nat} (h : d.Up m) (i : Int) (s : ByteArray) (hs : s.size = 256) :
    (d.putR i s).Up (m + 1) ∧ d.putE i s = (if 0 ≤ i ∧ i < 2 then 0 else 40) ∧ ∀ j : Nat, (d.putR i s).now j = if 0 ≤ i ∧ i < 2 ∧ i = (j : Int) then s else d.now j := by
  unfold Dk.putR Dk.putE
  by_cases hi : i < 0 ∨ 2 ≤ i
  · rw [if_pos hi, if_pos hi]
    exact ⟨h.mono (by omega), by rw [if_neg (by omega)], fun j => by rw [if_neg (by omega)]⟩
  · rw [if_neg hi, if_neg hi]
    have he := h.writeE i s (by omega) (by omega) hs
    refine ⟨h.write i s, by rw [he, if_pos (by omega)], fun j => ?_⟩
    rw [now_write i s he j]
    by_cases e : i = (j : Int)
    · rw [if_pos e, if_pos ⟨by omega, by omega, e⟩]
    · rw [if_neg e, if_neg (by omega)]
/-- Write. -/
theorem Up.putPage {d : Dk} {m : Nat} (h : d.Up m) (i : Int) (k : UInt8) (b : ByteArray) :
    (d.pfW i k b).Up (m + 1) ∧ d.pfWE i k b = (if 2 ≤ i ∧ i < 12 then (if b.size ≤ 240 then 0 else 50) else 40) ∧
    (2 ≤ i ∧ i < 12 ∧ b.size ≤ 240 → sealE i b = 0) ∧
    ∀ j : Nat, (d.pfW i k b).now j = if 2 ≤ i ∧ i < 12 ∧ b.size ≤ 240 ∧ i = (j : Int) then sealS i k b else d.now j := by
  unfold Dk.pfW Dk.pfWE Dk.pageE
  rw [h.len]
  by_cases hi : i < 2 ∨ 12 ≤ i
  · rw [if_pos (show i < 2 ∨ ((12 : Nat) : Int) ≤ i from by omega)]
    simp only [ne_eq, Int.reduceEq, not_false_eq_true, if_true]
    exact ⟨h.mono (by omega), by rw [if_neg (by omega)], by omega, fun j => by rw [if_neg (by omega)]⟩
  · rw [if_neg (show ¬ (i < 2 ∨ ((12 : Nat) : Int) ≤ i) from by omega)]
    simp only [ne_eq, not_true_eq_false, if_false]
    have hf : fits 4 i = true := by simp [fits]; omega
    by_cases hb : b.size ≤ 240
    · have hs : sealE i b = 0 := seal_of hb hf
      have hz : (sealS i k b).size = 256 := by unfold sealS; rw [if_pos hs, tx_size, pgBytes_length hb]
      have he := h.writeE i (sealS i k b) (by omega) (by omega) hz
      simp only [hs, not_true_eq_false, if_false]
      refine ⟨h.write _ _, by rw [he, if_pos (by omega), if_pos hb], fun _ => trivial, fun j => ?_⟩
      rw [now_write i _ he j]
      by_cases e : i = (j : Int)
      · rw [if_pos e, if_pos ⟨by omega, by omega, hb, e⟩]
      · rw [if_neg e, if_neg (by omega)]
    · have hs : sealE i b = 50 := by unfold sealE; rw [if_pos (by omega)]
      simp only [hs, Int.reduceEq, not_false_eq_true, if_true]
      exact ⟨h.mono (by omega), by rw [if_pos (by omega), if_neg hb], by omega, fun j => by rw [if_neg (by omega)]⟩
/-- Read of a page. -/
theorem Up.getPage {d : Dk} {m : Nat} (h : d.Up m) (i : Nat) (h2 : 2 ≤ i) (h12 : i < 12) (k : UInt8) :
    d.pfR (i : Int) = d.read (i : Int) ∧ (∀ k' b, d.now i = sealS (i : Int) k' b → sealE (i : Int) b = 0 → k' = k → d.pfE (i : Int) k = 0 ∧ d.pfS (i : Int) k = b) ∧ (d.now i = rp 256 0 → d.pfE (i : Int) k = 3 ∧ d.pfS (i : Int) k = ByteArray.empty) := by
  have p : d.pageE (i : Int) = 0 := by unfold Dk.pageE; rw [h.len, if_neg (by omega)]
  have a : d.atE (i : Int) = 0 := by rw [h.atE, if_pos ⟨by omega, by omega⟩]
  have r := h.readS i h12
  refine ⟨by unfold Dk.pfR; rw [p]; rfl, ?_, ?_⟩
  · rintro k' b hn hs rfl
    obtain ⟨p1, p2⟩ := seal_parts hs
    have o : pgOpen (i : Int) (d.readS (i : Int)) = some (k', b) := by
      rw [r, hn]
      exact pgOpen_iff.2 ⟨p1, p2, by unfold sealS; rw [if_pos hs]⟩
    have e : d.pfE (i : Int) k' = 0 := by unfold Dk.pfE; rw [p, a, o]; simp
    exact ⟨e, by unfold Dk.pfS; rw [e, if_pos rfl, o]⟩
  · intro hn
    have o : pgOpen (i : Int) (d.readS (i : Int)) = none := by rw [r, hn]; exact zero_open _ (by omega)
    have e : d.pfE (i : Int) k = 3 := by unfold Dk.pfE; rw [p, a, o]; simp
    exact ⟨e, by unfold Dk.pfS; rw [e]; rfl⟩
end Dk

/-- What the pages hold. -/
def Pages (d : Dk) (bs : List ByteArray) (ks : List UInt8) (ts : List Bool) : Prop :=
  ∀ i, 2 ≤ i → i < 12 → (ts.getD i false = true → sealE (i : Int) (bs.getD i ByteArray.empty) = 0 ∧ d.now i = sealS (i : Int) (ks.getD i 0) (bs.getD i ByteArray.empty)) ∧ (ts.getD i false = false → d.now i = rp 256 0)
def Slots (d : Dk) (ss : List ByteArray) : Prop := ∀ j, j < 2 → d.now j = ss.getD j ByteArray.empty
theorem full_none : fullS ByteArray.empty = rp 256 0 := by kernel_rfl
theorem Pages.new : Pages (Dk.new 12) (List.replicate 12 ByteArray.empty) (List.replicate 12 0) (List.replicate 12 false) := by
  intro i h2 h12
  refine ⟨fun h => ?_, fun _ => Dk.new_now i h12⟩
  rw [List.getD_eq_getElem?_getD, List.getElem?_replicate, if_pos h12] at h
  cases h
theorem Slots.new : Slots (Dk.new 12) [fullS ByteArray.empty, fullS ByteArray.empty] := by
  intro j hj
  rw [Dk.new_now j (by omega), full_none]
  have : j = 0 ∨ j = 1 := by omega
  rcases this with rfl | rfl <;> rfl
theorem Pages.same {d d' : Dk} {bs : List ByteArray} {ks : List UInt8} {ts : List Bool} (h : Pages d bs ks ts) (e : ∀ j, j < 12 → d'.now j = d.now j) : Pages d' bs ks ts := by
  intro i h2 h12
  rw [e i h12]
  exact h i h2 h12
theorem Slots.same {d d' : Dk} {ss : List ByteArray} (h : Slots d ss) (e : ∀ j, j < 12 → d'.now j = d.now j) : Slots d' ss := by
  intro j hj
  rw [e j (by omega)]
  exact h j hj
/-- A slot is put: nothing of the pages turns. -/
theorem slot_step {d : Dk} {m : Nat} (up : d.Up m) {bs : List ByteArray} {ks : List UInt8} {ts : List Bool} {ss : List ByteArray} (hp : Pages d bs ks ts) (hs : Slots d ss) (hl : ss.length = 2) (i : Int) (s : ByteArray) (hz : s.size = 256) :
    Pages (d.putR i s) bs ks ts ∧ (0 ≤ i ∧ i < 2 → Slots (d.putR i s) (ss.set i.toNat s)) ∧ (¬ (0 ≤ i ∧ i < 2) → Slots (d.putR i s) ss) := by
  obtain ⟨u, e, n⟩ := up.putSlot i s hz
  refine ⟨?_, ?_, ?_⟩
  · intro j h2 h12
    rw [n j, if_neg (by omega)]
    exact hp j h2 h12
  · intro hi j hj
    rw [n j, getD_set _ _ _ _ _ (by omega)]
    by_cases e : i = (j : Int)
    · rw [if_pos ⟨hi.1, hi.2, e⟩, if_pos (by omega)]
    · rw [if_neg (by omega), if_neg (by omega)]
      exact hs j hj
  · intro hi j hj
    rw [n j, if_neg (by omega)]
    exact hs j hj
/-- A page is written. -/
theorem page_step {d : Dk} {m : Nat} (up : d.Up m) {bs : List ByteArray} {ks : List UInt8} {ts : List Bool} {ss : List ByteArray} (hp : Pages d bs ks ts) (hs : Slots d ss) (hb : bs.length = 12) (hk : ks.length = 12) (ht : ts.length = 12) (i : Int) (k : UInt8) (b : ByteArray) :
    Slots (d.pfW i k b) ss ∧ (2 ≤ i ∧ i < 12 ∧ b.size ≤ 240 → Pages (d.pfW i k b) (bs.set i.toNat b) (ks.set i.toNat k) (ts.set i.toNat true)) ∧ (¬ (2 ≤ i ∧ i < 12 ∧ b.size ≤ 240) → Pages (d.pfW i k b) bs ks ts) := by
  obtain ⟨u, e, f, n⟩ := up.putPage i k b
  refine ⟨?_, ?_, ?_⟩
  · intro j hj
    rw [n j, if_neg (by omega)]
    exact hs j hj
  · intro hi j h2 h12
    rw [n j, getD_set _ _ _ _ _ (by omega), getD_set _ _ _ _ _ (by omega), getD_set _ _ _ _ _ (by omega)]
    by_cases e : i = (j : Int)
    · have e2 : i.toNat = j := by omega
      rw [if_pos e2, if_pos e2, if_pos e2, if_pos (show 2 ≤ i ∧ i < 12 ∧ b.size ≤ 240 ∧ i = (j : Int) from ⟨hi.1, hi.2.1, hi.2.2, e⟩)]
      refine ⟨fun _ => ⟨by rw [← e]; exact f hi, by rw [e]⟩, fun h => by cases h⟩
    · have e2 : ¬ i.toNat = j := by omega
      rw [if_neg e2, if_neg e2, if_neg e2, if_neg (show ¬ (2 ≤ i ∧ i < 12 ∧ b.size ≤ 240 ∧ i = (j : Int)) from by omega)]
      exact hp j h2 h12
  · intro hi j h2 h12
    rw [n j, if_neg (by omega)]
    exact hp j h2 h12
end Go.Proofs.YtpccdadobnhpkaaDoor
