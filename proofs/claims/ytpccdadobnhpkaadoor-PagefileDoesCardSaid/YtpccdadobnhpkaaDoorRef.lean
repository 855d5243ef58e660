/-
  The document's disk as it lies in memory, and what its calls do, by their walks: Now, Read, Put, Stop. It proves no statement by itself.
-/
import Derived.Test.YtpccdadobnhpkaaDoorApart
namespace Go.Proofs.YtpccdadobnhpkaaDoor
open Go.RowKit
set_option linter.unusedSimpArgs false
set_option linter.unusedVariables false

theorem row_any {e : TypeId} {size : Nat} {v : Value} {n : Nat} {xs : List Value} {F : Asn} {w : World} (h : Sat (Row e size v n xs * F) w) : ∃ a c, v = .slice a n c ∧ (0 < n → ∃ g, a = some ⟨g, 0, none⟩) := by
  obtain ⟨_, ⟨rfl, rfl, _⟩ | ⟨g, cap, cur, rfl, _⟩⟩ := sat_row.1 h
  · exact ⟨none, 0, rfl, fun h => by omega⟩
  · exact ⟨_, cap, rfl, fun _ => ⟨g, rfl⟩⟩

theorem row2_cells {e : TypeId} {g c : Nat} {l : List (Int × ByteArray)} {F : Asn} {w : World} (H : Sat (Row e 2 (.slice (some ⟨g, 0, none⟩) l.length c) l.length (pcells l) * F) w) (k : Nat) (hk : k < l.length) :
    w.cell? ⟨g, k * 2, none⟩ = some (.int .i64 l[k].1) ∧ w.cell? ⟨g, k * 2 + 1, none⟩ = some (.string l[k].2) ∧ g < w.heap.size := by
  have ho := H.owns
  have a0 := ho.cells (g := g) rfl (2 * k) _ (pcells_get0 l k hk)
  have a1 := ho.cells (g := g) rfl (2 * k + 1) _ (pcells_get1 l k hk)
  have e0 : (⟨g, 0, none⟩ : Addr).add (2 * k) = ⟨g, k * 2, none⟩ := by unfold Addr.add; split <;> simp <;> omega
  have e1 : (⟨g, 0, none⟩ : Addr).add (2 * k + 1) = ⟨g, k * 2 + 1, none⟩ := by unfold Addr.add; split <;> simp <;> omega
  rw [e0] at a0
  rw [e1] at a1
  exact ⟨a0, a1, World.block_lt_of_cell? w _ a0⟩

theorem row_ne {e : TypeId} {size g n c q : Nat} {xs : List Value} {o : Obj} {F : Asn} {w : World} (h : Sat (Row e size (.slice (some ⟨g, 0, none⟩) n c) n xs * (pts q o * F)) w) : g ≠ q := by
  obtain ⟨_, ⟨h0, _⟩ | ⟨g', cap, cur, e1, _, _, _, _, h⟩⟩ := sat_row.1 h
  · cases h0
  · cases e1
    exact (h.of_eq (show _ = pts g _ * pts q o * F from by ac_rfl)).left.ne

theorem row_lt {e : TypeId} {size g n c : Nat} {xs : List Value} {F : Asn} {w : World} (h : Sat (Row e size (.slice (some ⟨g, 0, none⟩) n c) n xs * F) w) : g < w.heap.size := by
  obtain ⟨_, ⟨h0, _⟩ | ⟨g', cap, cur, e1, _, _, _, _, h⟩⟩ := sat_row.1 h
  · cases h0
  · cases e1; exact h.left.lt

/-- The struct's own cells. -/
def rfCells (sf wf : Value) (d : Dk) : Array Value := #[sf, wf, .bool d.down, .int .i64 d.left, .int .i64 d.reads, .int .i64 d.writes]
def svals (l : List ByteArray) : List Value := l.map Value.string
theorem svals_get (l : List ByteArray) (i : Nat) (h : i < l.length) : (svals l)[i]? = some (.string (l.getD i ByteArray.empty)) := by simp [svals, List.getD, h]
theorem svals_set (l : List ByteArray) (i : Nat) (s : ByteArray) : (svals l).set i (.string s) = svals (l.set i s) := by simp [svals, List.map_set]

/-- What the document's disk is made of; the rows may be ahead of the fields. -/
def RfMid (q : Nat) (sf wf : Value) (d : Dk) (sv : Value) (ss : List ByteArray) (wv : Value) (l : List (Int × ByteArray)) : Asn :=
  pts q (.cells (rfCells sf wf d) 58 (0, 0)) * (Row 9 1 sv ss.length (svals ss) * Row 86 2 wv l.length (pcells l))
/-- THE DOCUMENT'S DISK d LIES AT q. -/
def IsRf (q : Nat) (d : Dk) : Asn := ex fun (x : Value × Value) => RfMid q x.1 x.2 d x.1 d.sure x.2 d.pend

section
variable {q : Nat} {sf wf sv wv : Value} {d : Dk} {ss : List ByteArray} {l : List (Int × ByteArray)} {F : Asn} {w : World} {R : Ending → World → Prop}

theorem rf_struct : RfMid q sf wf d sv ss wv l * F =
    pts q (.cells (rfCells sf wf d) 58 (0, 0)) * ((Row 9 1 sv ss.length (svals ss) * Row 86 2 wv l.length (pcells l)) * F) := by
  unfold RfMid; rw [star_assoc]
theorem rf_srow : RfMid q sf wf d sv ss wv l * F =
    Row 9 1 sv ss.length (svals ss) * (pts q (.cells (rfCells sf wf d) 58 (0, 0)) * (Row 86 2 wv l.length (pcells l) * F)) := by
  unfold RfMid; ac_rfl
theorem rf_wrow : RfMid q sf wf d sv ss wv l * F =
    Row 86 2 wv l.length (pcells l) * (pts q (.cells (rfCells sf wf d) 58 (0, 0)) * (Row 9 1 sv ss.length (svals ss) * F)) := by
  unfold RfMid; ac_rfl

theorem isRf_open (h : Sat (IsRf q d * F) w) : ∃ sv wv, Sat (RfMid q sv wv d sv d.sure wv d.pend * F) w := by
  obtain ⟨⟨sv, wv⟩, h⟩ := sat_ex.1 h
  exact ⟨sv, wv, h⟩
theorem isRf_shut (h : Sat (RfMid q sv wv d sv d.sure wv d.pend * F) w) : Sat (IsRf q d * F) w := sat_ex.2 ⟨(sv, wv), h⟩

theorem rf_sf (h : Sat (RfMid q sf wf d sv ss wv l * F) w) (v : Value) : Sat (RfMid q v wf d sv ss wv l * F) (w.setCell ⟨q, 0, none⟩ v) := by
  rw [rf_struct] at h ⊢; exact h.cell 0 _
theorem rf_wf (h : Sat (RfMid q sf wf d sv ss wv l * F) w) (v : Value) : Sat (RfMid q sf v d sv ss wv l * F) (w.setCell ⟨q, 1, none⟩ v) := by
  rw [rf_struct] at h ⊢; exact h.cell 1 _
theorem rf_down (h : Sat (RfMid q sf wf d sv ss wv l * F) w) (v : Bool) : Sat (RfMid q sf wf { d with down := v } sv ss wv l * F) (w.setCell ⟨q, 2, none⟩ (.bool v)) := by
  rw [rf_struct] at h ⊢; exact h.cell 2 _
theorem rf_left (h : Sat (RfMid q sf wf d sv ss wv l * F) w) (v : Int) : Sat (RfMid q sf wf { d with left := v } sv ss wv l * F) (w.setCell ⟨q, 3, none⟩ (.int .i64 v)) := by
  rw [rf_struct] at h ⊢; exact h.cell 3 _
theorem rf_reads (h : Sat (RfMid q sf wf d sv ss wv l * F) w) (v : Int) : Sat (RfMid q sf wf { d with reads := v } sv ss wv l * F) (w.setCell ⟨q, 4, none⟩ (.int .i64 v)) := by
  rw [rf_struct] at h ⊢; exact h.cell 4 _
theorem rf_writes (h : Sat (RfMid q sf wf d sv ss wv l * F) w) (v : Int) : Sat (RfMid q sf wf { d with writes := v } sv ss wv l * F) (w.setCell ⟨q, 5, none⟩ (.int .i64 v)) := by
  rw [rf_struct] at h ⊢; exact h.cell 5 _

/-- What the walk wants to know of the struct. -/
structure RfSeen (q : Nat) (sf wf : Value) (d : Dk) (w : World) : Prop where
  lp : q < w.heap.size
  c0 : w.cell? ⟨q, 0, none⟩ = some sf
  c1 : w.cell? ⟨q, 1, none⟩ = some wf
  c2 : w.cell? ⟨q, 2, none⟩ = some (.bool d.down)
  c3 : w.cell? ⟨q, 3, none⟩ = some (.int .i64 d.left)
  c4 : w.cell? ⟨q, 4, none⟩ = some (.int .i64 d.reads)
  c5 : w.cell? ⟨q, 5, none⟩ = some (.int .i64 d.writes)
  fz : ∀ j, w.frozen? ⟨q, j, none⟩ = false

theorem rf_seen (h : Sat (RfMid q sf wf d sv ss wv l * F) w) : RfSeen q sf wf d w := by
  have h1 := (rf_struct ▸ h).left
  exact ⟨h1.lt, Sat.read h1.at 0, Sat.read h1.at 1, Sat.read h1.at 2, Sat.read h1.at 3, Sat.read h1.at 4, Sat.read h1.at 5, fun j => Sat.free h1.at j⟩

set_option maxHeartbeats 1000000 in
theorem rf_now (H : Sat (RfMid q sv wv d sv d.sure wv d.pend * F) w) (hp : d.pend.length ≤ 1000000) (hm : d.sure.length ≤ 16384) (i : Int) (hi0 : 0 ≤ i) (hi : i < (d.sure.length : Int)) (h : R (.returned (.string (d.now i.toNat))) w) :
    Calls Tryd.prog 65 #[.pointer (some ⟨q, 0, none⟩), .int .i64 i] w R := by
  have S := rf_seen H
  obtain ⟨sg, sc, rfl⟩ := row_shape (rf_srow ▸ H) (show 0 < d.sure.length from by omega)
  obtain ⟨wa, wc, rfl, hwa⟩ := row_any (rf_wrow ▸ H)
  have c0 := S.c0
  have c1 := S.c1
  have lp := S.lp
  have q0 := row_cell (rf_srow ▸ H) i.toNat _ (svals_get d.sure i.toNat (by omega))
  have hnow : d.now i.toNat = (Dk.last i d.pend).getD (d.sure.getD i.toNat ByteArray.empty) := by unfold Dk.now; rw [Int.toNat_of_nonneg hi0]
  rw [hnow] at h
  generalize d.sure.getD i.toNat ByteArray.empty = t at *
  have HH := Lib.hid h
  have HWA := Lib.hid hwa
  clear hnow h S hwa
  go_enter Tryd.func65, Tryd.ntmps65
  go_wp2_with fail
  go_loop [5, 6] (fun s x => ∃ k : Nat, k ≤ d.pend.length ∧ s = .string ((Dk.last i (d.pend.take k)).getD t) ∧ x = .int .i64 (k : Int)) (fun _ x => d.pend.length - (intOf x).toNat)
  case atStart => exact ⟨0, Nat.zero_le _, rfl, rfl⟩
  case round =>
    obtain ⟨k, hk, rfl, rfl⟩ := hrel
    by_cases hlt : k < d.pend.length
    · obtain ⟨g, rfl⟩ := HWA.out (by omega)
      obtain ⟨a0, a1, lg⟩ := row2_cells (rf_wrow ▸ H) k hlt
      have hsn : Dk.last i (d.pend.take (k + 1)) = if d.pend[k].1 = i then some d.pend[k].2 else Dk.last i (d.pend.take k) := by
        rw [List.take_succ_eq_append_getElem hlt]
        exact Dk.last_snoc i d.pend[k].1 d.pend[k].2 _
      generalize d.pend[k].1 = x0 at *
      generalize d.pend[k].2 = x1 at *
      by_cases hx : x0 = i
      · have hx1 : (x0 == i) = true := by simpa using hx
        rw [if_pos hx] at hsn
        have HSN := Lib.hid hsn
        clear hsn hx
        go_wp2_with fail
        go_round
        case rel => exact ⟨k + 1, by omega, by rw [HSN.out]; rfl, by go_num⟩
        case measure => simp [intOf]; omega
      · have hx1 : (x0 == i) = false := by simpa using hx
        rw [if_neg hx] at hsn
        have HSN := Lib.hid hsn
        clear hsn hx
        go_wp2_with fail
        go_round
        case rel => exact ⟨k + 1, by omega, by rw [HSN.out], by go_num⟩
        case measure => simp [intOf]; omega
    · obtain rfl : k = d.pend.length := by omega
      rw [List.take_length]
      go_wp2_with fail
      exact HH.out

set_option maxHeartbeats 1000000 in
theorem rf_read (H : Sat (IsRf q d * F) w) (ok : d.Ok) (hr : d.reads ≤ 4000000000000000000) (hp : d.pend.length ≤ 1000000) (i : Int)
    (h : ∀ w', Sat (IsRf q (d.read i) * F) w' → Io w w' → R (.returned (.tuple #[.string (d.readS i), .int .i64 (d.atE i)])) w') :
    Calls Tryd.prog 41 #[.pointer (some ⟨q, 0, none⟩), .int .i64 i] w R := by
  obtain ⟨sv, wv, HP⟩ := isRf_open H
  have S := rf_seen HP
  have hmany := ok.many
  have c0 := S.c0
  have c2 := S.c2
  have lp := S.lp
  obtain ⟨sa, sc, rfl, hsa⟩ := row_any (rf_srow ▸ HP)
  cases hd : d.down with
  | true =>
    have ea : d.atE i = 4 := by simp [Dk.atE, hd]
    have hn := h w (by simpa [Dk.read, ea] using H) (Io.refl w)
    have e2 : d.readS i = ByteArray.empty := by simp [Dk.readS, ea]
    rw [e2, ea] at hn
    rw [hd] at c2
    clear ea e2 h hd hsa
    go_enter Tryd.func41, Tryd.ntmps41
    go_wp2_with fail
    exact hn
  | false =>
    rw [hd] at c2
    by_cases hi : 0 ≤ i ∧ i < (d.sure.length : Int)
    · have ea : d.atE i = 0 := by simp [Dk.atE, hd, hi]
      have er : d.read i = { d with reads := d.reads + 1 } := by simp [Dk.read, ea]
      have e2 : d.readS i = ({ d with reads := d.reads + 1 } : Dk).now i.toNat := by simp [Dk.readS, ea, Dk.now]
      have HR := rf_reads HP (d.reads + 1)
      have hn := h _ (by rw [er]; exact isRf_shut HR) ((Io.refl w).setCell _ _)
      rw [e2, ea] at hn
      obtain ⟨hi0, hi1⟩ := hi
      have c4 := S.c4
      have f4 := S.fz 4
      have hr0 := ok.reads
      clear ea er e2 h hd hsa
      go_enter Tryd.func41, Tryd.ntmps41
      go_wp2_with (go_at_call 65; refine rf_now (d := { d with reads := d.reads + 1 }) HR hp hmany i hi0 hi1 ?_)
      exact hn
    · have ea : d.atE i = 40 := by simp only [Dk.atE, hd, hi, if_false]; simp
      have hn := h w (by simpa [Dk.read, ea] using H) (Io.refl w)
      have e2 : d.readS i = ByteArray.empty := by simp [Dk.readS, ea]
      rw [e2, ea] at hn
      clear ea e2 h hd hsa
      by_cases hi0 : i < 0
      · clear hi
        go_enter Tryd.func41, Tryd.ntmps41
        go_wp2_with fail
        exact hn
      · have hi1 : (d.sure.length : Int) ≤ i := by omega
        clear hi
        go_enter Tryd.func41, Tryd.ntmps41
        go_wp2_with fail
        exact hn

set_option maxHeartbeats 1000000 in
theorem rf_stop (H : Sat (IsRf q d * F) w) (n : Int) (hn : -9223372036854775808 ≤ n) (hn2 : n ≤ 9223372036854775807) (h : ∀ w', Sat (IsRf q (d.brk n) * F) w' → Io w w' → R (.returned (.tuple #[])) w') :
    Calls Tryd.prog 25 #[.pointer (some ⟨q, 0, none⟩), .int .i64 n] w R := by
  obtain ⟨sv, wv, HP⟩ := isRf_open H
  have S := rf_seen HP
  have lp := S.lp
  have c3 := S.c3
  have f3 := S.fz 3
  have fin := h _ (isRf_shut (d := d.brk n) (rf_left HP (max n (-1)))) ((Io.refl w).setCell _ _)
  clear h S H HP
  go_enter Tryd.func25, Tryd.ntmps25
  go_wp2
  go_end0
  exact fin
end
end Go.Proofs.YtpccdadobnhpkaaDoor
