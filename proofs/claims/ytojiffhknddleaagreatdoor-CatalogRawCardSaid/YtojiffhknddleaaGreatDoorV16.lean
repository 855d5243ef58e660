/-
  The disk, in plain words, and how it lies in memory. It proves no statement by itself.
-/
import Derived.Test.YtojiffhknddleaaGreatDoorRows
import Derived.Test.YtojiffhknddleaaGreatDoorV02
namespace Go.Proofs.YtojiffhknddleaaGreatDoor
open Go.RowKit
set_option linter.unusedSimpArgs false
set_option linter.unusedVariables false

/-- n times the byte b. -/
def rp (n : Nat) (b : UInt8) : ByteArray := ⟨(List.replicate n b).toArray⟩
/-- A disk. -/
structure Dk where
  sure : List ByteArray
  pend : List (Int × ByteArray)
  left : Int
  down : Bool
  reads : Int
  writes : Int

namespace Dk
/-- The text that was put last for i, if any. -/
def last (i : Int) : List (Int × ByteArray) → Option ByteArray
  | [] => none
  | p :: l => match last i l with
    | some s => some s
    | none => if p.1 = i then some p.2 else none

theorem last_snoc (i k : Int) (s : ByteArray) : ∀ l, last i (l ++ [(k, s)]) = if k = i then some s else last i l
  | [] => by simp [last]
  | p :: l => by
    simp only [List.cons_append, last, last_snoc i k s l]
    by_cases h : k = i <;> simp [h]

/-- What sector i reads as. -/
def now (d : Dk) (i : Nat) : ByteArray := (last (i : Int) d.pend).getD (d.sure.getD i ByteArray.empty)

structure Ok (d : Dk) : Prop where
  sect : ∀ i, i < d.sure.length → (d.sure.getD i ByteArray.empty).size = 256
  many : d.sure.length ≤ 16384
  rng : ∀ p ∈ d.pend, 0 ≤ p.1 ∧ p.1 < (d.sure.length : Int)
  txt : ∀ p ∈ d.pend, p.2.size = 256
  left : -1 ≤ d.left ∧ d.left ≤ 9223372036854775807
  reads : 0 ≤ d.reads
  writes : 0 ≤ d.writes

def new (n : Nat) : Dk := ⟨List.replicate n (rp 256 0), [], -1, false, 0, 0⟩

/-- What a call at i errs with. -/
def atE (d : Dk) (i : Int) : Int := if d.down then 4 else if 0 ≤ i ∧ i < (d.sure.length : Int) then 0 else 40

def read (d : Dk) (i : Int) : Dk := if d.atE i = 0 then { d with reads := d.reads + 1 } else d
/-- A pending write done: the first n bytes of it. -/
def done (sure : List ByteArray) (p : Int × ByteArray) (n : Nat) : List ByteArray :=
  sure.set p.1.toNat (p.2.extract 0 n ++ (sure.getD p.1.toNat ByteArray.empty).extract n 256)

end Dk

/-- The cells of pending writes. -/
def pcells (l : List (Int × ByteArray)) : List Value := l.flatMap fun p => [.int .i64 p.1, .string p.2]
/-- The map agrees with what is pending. -/
def Agrees (m : List (Int × Value)) (l : List (Int × ByteArray)) : Prop := ∀ i, mget i m = (Dk.last i l).map Value.string

theorem agrees_nil : Agrees [] [] := fun _ => rfl
theorem Agrees.put {m : List (Int × Value)} {l : List (Int × ByteArray)} (h : Agrees m l) (i : Int) (s : ByteArray) : Agrees (mput i (.string s) m) (l ++ [(i, s)]) := by
  intro j
  rw [Dk.last_snoc]
  by_cases e : i = j
  · subst e; simp [mget_mput_same]
  · rw [mget_mput_other _ (Ne.symm e), if_neg e]; exact h j

/-- The struct's own cells. -/
def dkCells (sb mb : Nat) (pv : Value) (d : Dk) : Array Value :=
  #[.slice (some ⟨sb, 0, none⟩) d.sure.length d.sure.length, .map (some mb), pv, .int .i64 d.left, .bool d.down, .int .i64 d.reads, .int .i64 d.writes]

def strs (l : List ByteArray) : Array Value := (l.map Value.string).toArray
/-- What a disk is made of; the row of what is pending may be ahead of the field. -/
def DkMid (p sb mb : Nat) (pf : Value) (ob : Obj) (d : Dk) (pv : Value) (l : List (Int × ByteArray)) : Asn :=
  pts p (.cells (dkCells sb mb pf d) 125 (0, 0)) * (pts sb (.cells (strs d.sure) 9 (0, 0)) * (pts mb ob * Row 290 2 pv l.length (pcells l)))
def DkParts (p sb mb : Nat) (pv : Value) (ob : Obj) (d : Dk) : Asn := DkMid p sb mb pv ob d pv d.pend

/-- THE DISK d LIES AT p. -/
def IsDk (p : Nat) (d : Dk) : Asn := ex fun (x : Nat × Nat × Value × Obj × List (Int × Value)) =>
  on (MapI .i64 x.2.2.2.2 x.2.2.2.1 ∧ Agrees x.2.2.2.2 d.pend) (DkParts p x.1 x.2.1 x.2.2.1 x.2.2.2.1 d)

theorem isDk_open {p : Nat} {d : Dk} {F : Asn} {w : World} (h : Sat (IsDk p d * F) w) :
    ∃ sb mb pv ob m, MapI .i64 m ob ∧ Agrees m d.pend ∧ Sat (DkMid p sb mb pv ob d pv d.pend * F) w := by
  obtain ⟨⟨sb, mb, pv, ob, m⟩, h⟩ := sat_ex.1 h
  obtain ⟨⟨h1, h2⟩, h⟩ := sat_on.1 h
  exact ⟨sb, mb, pv, ob, m, h1, h2, h⟩

theorem isDk_shut {p sb mb : Nat} {pv : Value} {ob : Obj} {m : List (Int × Value)} {d : Dk} {F : Asn} {w : World} (h1 : MapI .i64 m ob) (h2 : Agrees m d.pend) (h : Sat (DkMid p sb mb pv ob d pv d.pend * F) w) :
    Sat (IsDk p d * F) w :=
  sat_ex.2 ⟨(sb, mb, pv, ob, m), sat_on.2 ⟨⟨h1, h2⟩, h⟩⟩

section
variable {p sb mb : Nat} {pf pv : Value} {ob : Obj} {d : Dk} {l : List (Int × ByteArray)} {F : Asn} {w : World}

theorem dk_struct : DkMid p sb mb pf ob d pv l * F =
    pts p (.cells (dkCells sb mb pf d) 125 (0, 0)) * ((pts sb (.cells (strs d.sure) 9 (0, 0)) * (pts mb ob * Row 290 2 pv l.length (pcells l))) * F) := by
  unfold DkMid; rw [star_assoc]
theorem dk_sure : DkMid p sb mb pf ob d pv l * F =
    pts sb (.cells (strs d.sure) 9 (0, 0)) * ((pts p (.cells (dkCells sb mb pf d) 125 (0, 0)) * (pts mb ob * Row 290 2 pv l.length (pcells l))) * F) := by
  unfold DkMid; ac_rfl
theorem dk_now : DkMid p sb mb pf ob d pv l * F =
    pts mb ob * ((pts p (.cells (dkCells sb mb pf d) 125 (0, 0)) * (pts sb (.cells (strs d.sure) 9 (0, 0)) * Row 290 2 pv l.length (pcells l))) * F) := by
  unfold DkMid; ac_rfl
theorem dk_row : DkMid p sb mb pf ob d pv l * F =
    Row 290 2 pv l.length (pcells l) * ((pts p (.cells (dkCells sb mb pf d) 125 (0, 0)) * (pts sb (.cells (strs d.sure) 9 (0, 0)) * pts mb ob)) * F) := by
  unfold DkMid; ac_rfl

end

/-- What the walk wants to know of a disk. -/
structure DkSeen (p sb mb : Nat) (pv : Value) (ob : Obj) (d : Dk) (w : World) : Prop where
  lp : p < w.heap.size
  ls : sb < w.heap.size
  lm : mb < w.heap.size
  c0 : w.cell? ⟨p, 0, none⟩ = some (.slice (some ⟨sb, 0, none⟩) d.sure.length d.sure.length)
  c1 : w.cell? ⟨p, 1, none⟩ = some (.map (some mb))
  c2 : w.cell? ⟨p, 2, none⟩ = some pv
  c3 : w.cell? ⟨p, 3, none⟩ = some (.int .i64 d.left)
  c4 : w.cell? ⟨p, 4, none⟩ = some (.bool d.down)
  c5 : w.cell? ⟨p, 5, none⟩ = some (.int .i64 d.reads)
  c6 : w.cell? ⟨p, 6, none⟩ = some (.int .i64 d.writes)
  fz : ∀ j, w.frozen? ⟨p, j, none⟩ = false
  bs : w.heap[sb]? = some (.cells (strs d.sure) 9 (0, 0))
  bm : w.heap[mb]? = some ob
  ps : p ≠ sb
  pm : p ≠ mb
  sm : sb ≠ mb

theorem dk_seen {p sb mb : Nat} {pf pv : Value} {ob : Obj} {d : Dk} {l : List (Int × ByteArray)} {F : Asn} {w : World} (h : Sat (DkMid p sb mb pf ob d pv l * F) w) : DkSeen p sb mb pf ob d w := by
  have h1 := (dk_struct ▸ h).left
  have h2 := (dk_sure ▸ h).left
  have h3 := (dk_now ▸ h).left
  have hn : Sat ((pts p (.cells (dkCells sb mb pf d) 125 (0, 0)) * pts sb (.cells (strs d.sure) 9 (0, 0))) * ((pts mb ob * Row 290 2 pv l.length (pcells l)) * F)) w := h.of_eq (by unfold DkMid; ac_rfl)
  have hm : Sat ((pts p (.cells (dkCells sb mb pf d) 125 (0, 0)) * pts mb ob) * ((pts sb (.cells (strs d.sure) 9 (0, 0)) * Row 290 2 pv l.length (pcells l)) * F)) w := h.of_eq (by unfold DkMid; ac_rfl)
  have hq : Sat ((pts sb (.cells (strs d.sure) 9 (0, 0)) * pts mb ob) * ((pts p (.cells (dkCells sb mb pf d) 125 (0, 0)) * Row 290 2 pv l.length (pcells l)) * F)) w := h.of_eq (by unfold DkMid; ac_rfl)
  exact ⟨h1.lt, h2.lt, h3.lt, Sat.read h1.at 0, Sat.read h1.at 1, Sat.read h1.at 2, Sat.read h1.at 3, Sat.read h1.at 4, Sat.read h1.at 5, Sat.read h1.at 6, fun j => Sat.free h1.at j, h2.at, h3.at, hn.left.ne, hm.left.ne, hq.left.ne⟩

end Go.Proofs.YtojiffhknddleaaGreatDoor
