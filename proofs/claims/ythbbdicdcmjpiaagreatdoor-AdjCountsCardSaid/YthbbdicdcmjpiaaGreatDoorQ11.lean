/-
  The disk, in plain words, and how it lies in memory. It proves no statement by itself.
-/
import Derived.Test.YthbbdicdcmjpiaaGreatDoorRows
import Derived.Test.YthbbdicdcmjpiaaGreatDoorQ02
namespace Go.Proofs.YthbbdicdcmjpiaaGreatDoor
open Go.RowKit
set_option linter.unusedSimpArgs false
set_option linter.unusedVariables false

/-- n times the byte b. -/
def rp (n : Nat) (b : UInt8) : ByteArray := ⟨(List.replicate n b).toArray⟩
theorem rp_size (n : Nat) (b : UInt8) : (rp n b).size = n := by simp [rp, ByteArray.size]

/-- A disk. -/
structure Dk where
  sure : List ByteArray
  pend : List (Int × ByteArray)
  left : Int
  down : Bool
  reads : Int
  writes : Int

namespace Dk
/-- The text that was put last for i, if any. -/
def last (i : Int) : List (Int × ByteArray) → Option ByteArray
  | [] => none
  | p :: l => match last i l with
    | some s => some s
    | none => if p.1 = i then some p.2 else none

theorem last_snoc (i k : Int) (s : ByteArray) : ∀ l, last i (l ++ [(k, s)]) = if k = i then some s else last i l
  | [] => by simp [last]
  | p :: l => by
    simp only [List.cons_append, last, last_snoc i k s l]
    by_cases h : k = i <;> simp [h]

/-- What sector i reads as. -/
def now (d : Dk) (i : Nat) : ByteArray := (last (i : Int) d.pend).getD (d.sure.getD i ByteArray.empty)

structure Ok (d : Dk) : Prop where
  sect : ∀ i, i < d.sure.length → (d.sure.getD i ByteArray.empty).size = 256
  many : d.sure.length ≤ 16384
  rng : ∀ p ∈ d.pend, 0 ≤ p.1 ∧ p.1 < (d.sure.length : Int)
  txt : ∀ p ∈ d.pend, p.2.size = 256
  left : -1 ≤ d.left ∧ d.left ≤ 9223372036854775807
  reads : 0 ≤ d.reads
  writes : 0 ≤ d.writes

def new (n : Nat) : Dk := ⟨List.replicate n (rp 256 0), [], -1, false, 0, 0⟩

theorem new_ok (n : Nat) (h : n ≤ 16384) : (new n).Ok := by
  refine ⟨?_, by simpa [new] using h, by simp [new], by simp [new], by simp [new], by simp [new], by simp [new]⟩
  intro i hi
  have hi' : i < n := by simpa [new] using hi
  simp [new, List.getD, hi', rp_size]

/-- What a call at i errs with. -/
def atE (d : Dk) (i : Int) : Int := if d.down then 4 else if 0 ≤ i ∧ i < (d.sure.length : Int) then 0 else 40

def read (d : Dk) (i : Int) : Dk := if d.atE i = 0 then { d with reads := d.reads + 1 } else d
def readS (d : Dk) (i : Int) : ByteArray := if d.atE i = 0 then d.now i.toNat else ByteArray.empty

def writeE (d : Dk) (i : Int) (s : ByteArray) : Int :=
  if d.atE i ≠ 0 then d.atE i else if s.size ≠ 256 then 1 else if d.left = 0 then 4 else 0
def write (d : Dk) (i : Int) (s : ByteArray) : Dk :=
  if d.atE i ≠ 0 then d else if s.size ≠ 256 then d else
    { d with pend := d.pend ++ [(i, s)], writes := d.writes + 1, down := if d.left = 0 then true else d.down, left := if d.left = 0 then -1 else if 0 < d.left then d.left - 1 else d.left }

/-- A pending write done: the first n bytes of it. -/
def done (sure : List ByteArray) (p : Int × ByteArray) (n : Nat) : List ByteArray :=
  sure.set p.1.toNat (p.2.extract 0 n ++ (sure.getD p.1.toNat ByteArray.empty).extract n 256)

def settle (d : Dk) (sure : List ByteArray) : Dk := { d with sure := sure, pend := [] }

def syncE (d : Dk) : Int := if d.down then 4 else 0
def syncs (sure : List ByteArray) (l : List (Int × ByteArray)) : List ByteArray := l.foldl (fun s p => done s p 256) sure
def sync (d : Dk) : Dk := if d.down then d else d.settle (syncs d.sure d.pend)

def brk (d : Dk) (n : Int) : Dk := { d with left := max n (-1) }

/-- How many bytes of a write come. -/
def comes (torn cut : Int) (k : Nat) : Nat := if (k : Int) = torn then (min (max cut 0) 256).toNat else 256
theorem comes_le (torn cut : Int) (k : Nat) : comes torn cut k ≤ 256 := by unfold comes; split <;> omega

/-- The writes from number k on, of which those that are kept are done. -/
def crashes (keep : List Int) (torn cut : Int) : Nat → List (Int × ByteArray) → List ByteArray → List ByteArray
  | _, [], sure => sure
  | k, p :: l, sure => crashes keep torn cut (k + 1) l (if keep.contains (k : Int) then done sure p (comes torn cut k) else sure)
def crash (d : Dk) (keep : List Int) (torn cut : Int) : Dk :=
  { d with sure := crashes keep torn cut 0 d.pend d.sure, pend := [], down := false, left := -1 }

def sureS (d : Dk) (i : Int) : ByteArray := if 0 ≤ i ∧ i < (d.sure.length : Int) then d.sure.getD i.toNat ByteArray.empty else ByteArray.empty

theorem extract_size (s : ByteArray) (a b : Nat) (h : b ≤ s.size) : (s.extract a b).size = b - a := by simp [ByteArray.size_extract]; omega

theorem done_length (sure : List ByteArray) (p : Int × ByteArray) (n : Nat) : (done sure p n).length = sure.length := by simp [done]

theorem done_sect {sure : List ByteArray} {p : Int × ByteArray} {n : Nat} (h : ∀ i, i < sure.length → (sure.getD i ByteArray.empty).size = 256) (hp : p.2.size = 256) (hn : n ≤ 256) :
    ∀ i, i < (done sure p n).length → ((done sure p n).getD i ByteArray.empty).size = 256 := by
  intro i hi
  rw [done_length] at hi
  unfold done
  by_cases e : p.1.toNat = i
  · subst e
    have h1 := h _ hi
    have e1 : (p.2.extract 0 n).size = n - 0 := extract_size p.2 0 n (by omega)
    have e2 := extract_size (sure.getD p.1.toNat ByteArray.empty) n 256 (by omega)
    simp only [List.getD_eq_getElem?_getD] at h1 e2 ⊢
    rw [List.getElem?_set_self hi]
    simp only [Option.getD_some, ByteArray.size_append]
    rw [e1, e2]
    omega
  · have h1 := h i hi
    simp only [List.getD_eq_getElem?_getD] at h1 ⊢
    rw [List.getElem?_set_ne e]
    exact h1

theorem syncs_length : ∀ (l : List (Int × ByteArray)) (sure : List ByteArray), (syncs sure l).length = sure.length
  | [], sure => rfl
  | p :: l, sure => by
    show (syncs (done sure p 256) l).length = _
    rw [syncs_length l, done_length]

theorem crashes_length (keep : List Int) (torn cut : Int) : ∀ (l : List (Int × ByteArray)) (k : Nat) (sure : List ByteArray), (crashes keep torn cut k l sure).length = sure.length
  | [], k, sure => rfl
  | p :: l, k, sure => by
    unfold crashes
    rw [crashes_length keep torn cut l]
    split <;> simp [done_length]
theorem read_ok' {d : Dk} (h : d.Ok) (i : Int) : (d.read i).Ok := by
  unfold read
  split
  · exact ⟨h.sect, h.many, h.rng, h.txt, h.left, by have := h.reads; simp; omega, h.writes⟩
  · exact h

theorem at_range {d : Dk} {i : Int} (h : d.atE i = 0) : 0 ≤ i ∧ i < (d.sure.length : Int) := by
  unfold atE at h
  split at h
  · cases h
  · split at h
    · assumption
    · cases h

theorem write_ok' {d : Dk} (h : d.Ok) (i : Int) (s : ByteArray) : (d.write i s).Ok := by
  unfold write
  split
  · exact h
  · rename_i he
    split
    · exact h
    · rename_i hs
      have hr := at_range (Decidable.not_not.1 he)
      have hs' := Decidable.not_not.1 hs
      refine ⟨h.sect, h.many, ?_, ?_, ?_, h.reads, by have := h.writes; simp; omega⟩
      · intro p hp
        rcases List.mem_append.1 hp with hp | hp
        · exact h.rng p hp
        · simp at hp; subst hp; exact hr
      · intro p hp
        rcases List.mem_append.1 hp with hp | hp
        · exact h.txt p hp
        · simp at hp; subst hp; exact hs'
      · have := h.left
        simp only
        split
        · omega
        · split <;> omega

theorem syncs_sect' : ∀ (l : List (Int × ByteArray)) (sure : List ByteArray), (∀ i, i < sure.length → (sure.getD i ByteArray.empty).size = 256) → (∀ q ∈ l, q.2.size = 256) →
    ∀ i, i < (syncs sure l).length → ((syncs sure l).getD i ByteArray.empty).size = 256
  | [], sure, h, _ => h
  | q :: l, sure, h, ht => by
    show ∀ i, i < (syncs (done sure q 256) l).length → ((syncs (done sure q 256) l).getD i ByteArray.empty).size = 256
    exact syncs_sect' l _ (done_sect h (ht q (List.mem_cons_self ..)) (by omega)) fun r hr => ht r (List.mem_cons_of_mem _ hr)

theorem crashes_sect' (keep : List Int) (torn cut : Int) : ∀ (l : List (Int × ByteArray)) (k : Nat) (sure : List ByteArray), (∀ i, i < sure.length → (sure.getD i ByteArray.empty).size = 256) → (∀ q ∈ l, q.2.size = 256) →
    ∀ i, i < (crashes keep torn cut k l sure).length → ((crashes keep torn cut k l sure).getD i ByteArray.empty).size = 256
  | [], k, sure, h, _ => h
  | q :: l, k, sure, h, ht => by
    unfold crashes
    refine crashes_sect' keep torn cut l (k + 1) _ ?_ fun r hr => ht r (List.mem_cons_of_mem _ hr)
    split
    · exact done_sect h (ht q (List.mem_cons_self ..)) (comes_le _ _ _)
    · exact h

theorem sync_ok' {d : Dk} (h : d.Ok) : d.sync.Ok := by
  unfold sync settle
  split
  · exact h
  · exact ⟨syncs_sect' _ _ h.sect h.txt, by rw [syncs_length]; exact h.many, by simp, by simp, h.left, h.reads, h.writes⟩

theorem crash_ok' {d : Dk} (h : d.Ok) (keep : List Int) (torn cut : Int) : (d.crash keep torn cut).Ok := by
  unfold crash
  exact ⟨crashes_sect' keep torn cut _ _ _ h.sect h.txt, by rw [crashes_length]; exact h.many, by simp, by simp, by simp, h.reads, h.writes⟩

theorem brk_ok' {d : Dk} (h : d.Ok) (n : Int) (hn : n ≤ 9223372036854775807) : (d.brk n).Ok := by
  unfold brk
  exact ⟨h.sect, h.many, h.rng, h.txt, by simp; omega, h.reads, h.writes⟩
end Dk

/-- The cells of pending writes. -/
def pcells (l : List (Int × ByteArray)) : List Value := l.flatMap fun p => [.int .i64 p.1, .string p.2]
theorem pcells_length (l : List (Int × ByteArray)) : (pcells l).length = l.length * 2 := by
  unfold pcells
  induction l with
  | nil => rfl
  | cons p l ih => simp only [List.flatMap_cons, List.length_append, List.length_cons, List.length_nil, ih]; omega
theorem pcells_snoc (l : List (Int × ByteArray)) (p : Int × ByteArray) : pcells (l ++ [p]) = pcells l ++ [.int .i64 p.1, .string p.2] := by
  simp [pcells]
theorem pcells_get0 : ∀ (l : List (Int × ByteArray)) (k : Nat) (h : k < l.length), (pcells l)[2 * k]? = some (.int .i64 l[k].1)
  | p :: l, 0, h => by simp [pcells]
  | p :: l, k + 1, h => by
    have := pcells_get0 l k (by simpa using h)
    rw [show 2 * (k + 1) = 2 * k + 2 from by omega]
    simpa [pcells] using this
theorem pcells_get1 : ∀ (l : List (Int × ByteArray)) (k : Nat) (h : k < l.length), (pcells l)[2 * k + 1]? = some (.string l[k].2)
  | p :: l, 0, h => by simp [pcells]
  | p :: l, k + 1, h => by
    have := pcells_get1 l k (by simpa using h)
    rw [show 2 * (k + 1) + 1 = 2 * k + 1 + 2 from by omega]
    simpa [pcells] using this

/-- The map agrees with what is pending. -/
def Agrees (m : List (Int × Value)) (l : List (Int × ByteArray)) : Prop := ∀ i, mget i m = (Dk.last i l).map Value.string

theorem agrees_nil : Agrees [] [] := fun _ => rfl
theorem Agrees.put {m : List (Int × Value)} {l : List (Int × ByteArray)} (h : Agrees m l) (i : Int) (s : ByteArray) : Agrees (mput i (.string s) m) (l ++ [(i, s)]) := by
  intro j
  rw [Dk.last_snoc]
  by_cases e : i = j
  · subst e; simp [mget_mput_same]
  · rw [mget_mput_other _ (Ne.symm e), if_neg e]; exact h j

/-- The struct's own cells. -/
def dkCells (sb mb : Nat) (pv : Value) (d : Dk) : Array Value :=
  #[.slice (some ⟨sb, 0, none⟩) d.sure.length d.sure.length, .map (some mb), pv, .int .i64 d.left, .bool d.down, .int .i64 d.reads, .int .i64 d.writes]

def strs (l : List ByteArray) : Array Value := (l.map Value.string).toArray
theorem strs_get (l : List ByteArray) (i : Nat) (h : i < l.length) : (strs l)[i]? = some (.string (l.getD i ByteArray.empty)) := by
  simp [strs, List.getD, h]
theorem strs_set (l : List ByteArray) (i : Nat) (s : ByteArray) : (strs l).setIfInBounds i (.string s) = strs (l.set i s) := by
  simp [strs, List.map_set]

/-- What a disk is made of; the row of what is pending may be ahead of the field. -/
def DkMid (p sb mb : Nat) (pf : Value) (ob : Obj) (d : Dk) (pv : Value) (l : List (Int × ByteArray)) : Asn :=
  pts p (.cells (dkCells sb mb pf d) 130 (0, 0)) * (pts sb (.cells (strs d.sure) 9 (0, 0)) * (pts mb ob * Row 300 2 pv l.length (pcells l)))
def DkParts (p sb mb : Nat) (pv : Value) (ob : Obj) (d : Dk) : Asn := DkMid p sb mb pv ob d pv d.pend

/-- THE DISK d LIES AT p. -/
def IsDk (p : Nat) (d : Dk) : Asn := ex fun (x : Nat × Nat × Value × Obj × List (Int × Value)) =>
  on (MapI .i64 x.2.2.2.2 x.2.2.2.1 ∧ Agrees x.2.2.2.2 d.pend) (DkParts p x.1 x.2.1 x.2.2.1 x.2.2.2.1 d)

theorem isDk_open {p : Nat} {d : Dk} {F : Asn} {w : World} (h : Sat (IsDk p d * F) w) :
    ∃ sb mb pv ob m, MapI .i64 m ob ∧ Agrees m d.pend ∧ Sat (DkMid p sb mb pv ob d pv d.pend * F) w := by
  obtain ⟨⟨sb, mb, pv, ob, m⟩, h⟩ := sat_ex.1 h
  obtain ⟨⟨h1, h2⟩, h⟩ := sat_on.1 h
  exact ⟨sb, mb, pv, ob, m, h1, h2, h⟩

theorem isDk_shut {p sb mb : Nat} {pv : Value} {ob : Obj} {m : List (Int × Value)} {d : Dk} {F : Asn} {w : World} (h1 : MapI .i64 m ob) (h2 : Agrees m d.pend) (h : Sat (DkMid p sb mb pv ob d pv d.pend * F) w) :
    Sat (IsDk p d * F) w :=
  sat_ex.2 ⟨(sb, mb, pv, ob, m), sat_on.2 ⟨⟨h1, h2⟩, h⟩⟩

section
variable {p sb mb : Nat} {pf pv : Value} {ob : Obj} {d : Dk} {l : List (Int × ByteArray)} {F : Asn} {w : World}

theorem dk_struct : DkMid p sb mb pf ob d pv l * F =
    pts p (.cells (dkCells sb mb pf d) 130 (0, 0)) * ((pts sb (.cells (strs d.sure) 9 (0, 0)) * (pts mb ob * Row 300 2 pv l.length (pcells l))) * F) := by
  unfold DkMid; rw [star_assoc]
theorem dk_sure : DkMid p sb mb pf ob d pv l * F =
    pts sb (.cells (strs d.sure) 9 (0, 0)) * ((pts p (.cells (dkCells sb mb pf d) 130 (0, 0)) * (pts mb ob * Row 300 2 pv l.length (pcells l))) * F) := by
  unfold DkMid; ac_rfl
theorem dk_now : DkMid p sb mb pf ob d pv l * F =
    pts mb ob * ((pts p (.cells (dkCells sb mb pf d) 130 (0, 0)) * (pts sb (.cells (strs d.sure) 9 (0, 0)) * Row 300 2 pv l.length (pcells l))) * F) := by
  unfold DkMid; ac_rfl
theorem dk_row : DkMid p sb mb pf ob d pv l * F =
    Row 300 2 pv l.length (pcells l) * ((pts p (.cells (dkCells sb mb pf d) 130 (0, 0)) * (pts sb (.cells (strs d.sure) 9 (0, 0)) * pts mb ob)) * F) := by
  unfold DkMid; ac_rfl

theorem dk_pf (h : Sat (DkMid p sb mb pf ob d pv l * F) w) (v : Value) : Sat (DkMid p sb mb v ob d pv l * F) (w.setCell ⟨p, 2, none⟩ v) := by
  rw [dk_struct] at h ⊢; exact h.cell 2 _
theorem dk_left (h : Sat (DkMid p sb mb pf ob d pv l * F) w) (v : Int) : Sat (DkMid p sb mb pf ob { d with left := v } pv l * F) (w.setCell ⟨p, 3, none⟩ (.int .i64 v)) := by
  rw [dk_struct] at h ⊢; exact h.cell 3 _
theorem dk_down (h : Sat (DkMid p sb mb pf ob d pv l * F) w) (v : Bool) : Sat (DkMid p sb mb pf ob { d with down := v } pv l * F) (w.setCell ⟨p, 4, none⟩ (.bool v)) := by
  rw [dk_struct] at h ⊢; exact h.cell 4 _
theorem dk_reads (h : Sat (DkMid p sb mb pf ob d pv l * F) w) (v : Int) : Sat (DkMid p sb mb pf ob { d with reads := v } pv l * F) (w.setCell ⟨p, 5, none⟩ (.int .i64 v)) := by
  rw [dk_struct] at h ⊢; exact h.cell 5 _
theorem dk_writes (h : Sat (DkMid p sb mb pf ob d pv l * F) w) (v : Int) : Sat (DkMid p sb mb pf ob { d with writes := v } pv l * F) (w.setCell ⟨p, 6, none⟩ (.int .i64 v)) := by
  rw [dk_struct] at h ⊢; exact h.cell 6 _
/-- One sector is written. -/
theorem dk_sector (h : Sat (DkMid p sb mb pf ob d pv l * F) w) (i : Nat) (s : ByteArray) :
    Sat (DkMid p sb mb pf ob { d with sure := d.sure.set i s } pv l * F) (w.setCell ⟨sb, i, none⟩ (.string s)) := by
  rw [dk_sure] at h ⊢
  have := h.cell i (.string s)
  rw [strs_set] at this
  have e : dkCells sb mb pf d = dkCells sb mb pf { d with sure := d.sure.set i s } := by simp [dkCells]
  rw [← e]
  exact this
end

/-- What the walk wants to know of a disk. -/
structure DkSeen (p sb mb : Nat) (pv : Value) (ob : Obj) (d : Dk) (w : World) : Prop where
  lp : p < w.heap.size
  ls : sb < w.heap.size
  lm : mb < w.heap.size
  c0 : w.cell? ⟨p, 0, none⟩ = some (.slice (some ⟨sb, 0, none⟩) d.sure.length d.sure.length)
  c1 : w.cell? ⟨p, 1, none⟩ = some (.map (some mb))
  c2 : w.cell? ⟨p, 2, none⟩ = some pv
  c3 : w.cell? ⟨p, 3, none⟩ = some (.int .i64 d.left)
  c4 : w.cell? ⟨p, 4, none⟩ = some (.bool d.down)
  c5 : w.cell? ⟨p, 5, none⟩ = some (.int .i64 d.reads)
  c6 : w.cell? ⟨p, 6, none⟩ = some (.int .i64 d.writes)
  fz : ∀ j, w.frozen? ⟨p, j, none⟩ = false
  bs : w.heap[sb]? = some (.cells (strs d.sure) 9 (0, 0))
  bm : w.heap[mb]? = some ob
  ps : p ≠ sb
  pm : p ≠ mb
  sm : sb ≠ mb

theorem dk_seen {p sb mb : Nat} {pf pv : Value} {ob : Obj} {d : Dk} {l : List (Int × ByteArray)} {F : Asn} {w : World} (h : Sat (DkMid p sb mb pf ob d pv l * F) w) : DkSeen p sb mb pf ob d w := by
  have h1 := (dk_struct ▸ h).left
  have h2 := (dk_sure ▸ h).left
  have h3 := (dk_now ▸ h).left
  have hn : Sat ((pts p (.cells (dkCells sb mb pf d) 130 (0, 0)) * pts sb (.cells (strs d.sure) 9 (0, 0))) * ((pts mb ob * Row 300 2 pv l.length (pcells l)) * F)) w := h.of_eq (by unfold DkMid; ac_rfl)
  have hm : Sat ((pts p (.cells (dkCells sb mb pf d) 130 (0, 0)) * pts mb ob) * ((pts sb (.cells (strs d.sure) 9 (0, 0)) * Row 300 2 pv l.length (pcells l)) * F)) w := h.of_eq (by unfold DkMid; ac_rfl)
  have hq : Sat ((pts sb (.cells (strs d.sure) 9 (0, 0)) * pts mb ob) * ((pts p (.cells (dkCells sb mb pf d) 130 (0, 0)) * Row 300 2 pv l.length (pcells l)) * F)) w := h.of_eq (by unfold DkMid; ac_rfl)
  exact ⟨h1.lt, h2.lt, h3.lt, Sat.read h1.at 0, Sat.read h1.at 1, Sat.read h1.at 2, Sat.read h1.at 3, Sat.read h1.at 4, Sat.read h1.at 5, Sat.read h1.at 6, fun j => Sat.free h1.at j, h2.at, h3.at, hn.left.ne, hm.left.ne, hq.left.ne⟩

end Go.Proofs.YthbbdicdcmjpiaaGreatDoor
