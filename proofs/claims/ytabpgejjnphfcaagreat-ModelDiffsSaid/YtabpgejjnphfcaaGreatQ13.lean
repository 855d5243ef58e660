/-
  The model of the index on the heap: its block, its three maps, the rows of edges that they share. It proves no statement by itself.
-/
import Derived.Test.YtabpgejjnphfcaaGreatQ02
import Derived.Test.YtabpgejjnphfcaaGreatQ11
import Derived.Test.YtabpgejjnphfcaaGreatQ12
import Derived.BigQuiet
namespace Go.Proofs.YtabpgejjnphfcaaGreat
open Go.RowKit Go.Lib
open Md (Nm St)
set_option linter.unusedSimpArgs false
set_option linter.unusedVariables false
set_option linter.unusedSectionVars false

section
variable {κ ν μ : Type} [DecidableEq κ]
def amap (f : ν → μ) (l : List (κ × ν)) : List (κ × μ) := l.map fun x => (x.1, f x.2)
theorem aget_amap (f : ν → μ) : ∀ (l : List (κ × ν)) (k : κ), aget (amap f l) k = (aget l k).map f
  | [], k => rfl
  | (a, v) :: l, k => by
    have := aget_amap f l k
    unfold amap at this ⊢
    simp only [List.map_cons, aget, this]
    split <;> rfl
theorem aput_amap (f : ν → μ) : ∀ (l : List (κ × ν)) (k : κ) (v : ν), amap f (aput l k v) = aput (amap f l) k (f v)
  | [], k, v => rfl
  | (a, u) :: l, k, v => by
    have := aput_amap f l k v
    unfold amap at this ⊢
    simp only [List.map_cons, aput]
    split
    · simp
    · simp [this]
theorem adel_amap (f : ν → μ) : ∀ (l : List (κ × ν)) (k : κ), amap f (adel l k) = adel (amap f l) k := fun l k => by
  unfold amap adel
  rw [List.filter_map]
  rfl
theorem amap_len (f : ν → μ) (l : List (κ × ν)) : (amap f l).length = l.length := by simp [amap]
end

/-- Rows of edges that stay as they are. -/
abbrev Pl := List (Value × List Pr)
def Pool : Pl → Asn
  | [] => emp
  | (v, l) :: p => RowP v l * Pool p
def Held (p : Pl) (v : Value) (l : List Pr) : Prop := (v = .slice none 0 0 ∧ l = []) ∨ (v, l) ∈ p
theorem pool_split : ∀ {p : Pl} {v : Value} {l : List Pr}, (v, l) ∈ p → ∃ G, Pool p = RowP v l * G
  | (u, m) :: p, v, l, h => by
    rcases List.mem_cons.1 h with e | h
    · cases e; exact ⟨Pool p, rfl⟩
    · obtain ⟨G, e⟩ := pool_split h
      refine ⟨RowP u m * G, ?_⟩
      show RowP u m * Pool p = _
      rw [e]; ac_rfl
theorem Held.reads {p : Pl} {v : Value} {l : List Pr} {F : Asn} {w : World} (h : Held p v l) (hl : l.length ≤ 1000000) (H : Sat (Pool p * F) w) : ReadsP (Pool p * F) v l := by
  rcases h with ⟨rfl, rfl⟩ | h
  · exact ⟨none, 0, rfl, by simp, .inl rfl⟩
  · obtain ⟨G, e⟩ := pool_split h
    rw [e, star_assoc] at H ⊢
    exact readsP_row H hl
theorem Held.more {p q : Pl} {v : Value} {l : List Pr} (h : Held p v l) (hs : ∀ x ∈ p, x ∈ q) : Held q v l := h.imp id (hs _)

/-- A model's state, with the slice values. -/
structure MV where
  vers : List (Int × (Int × Value × List Pr))
  heads : List (Nm × Int)
  pend : List (Nm × (Value × List Pr))
  next : Int
def fV (x : Int × Value × List Pr) : Int × List Pr := (x.1, x.2.2)
def fP (x : Value × List Pr) : List Pr := x.2
def MV.st (S : MV) : St := ⟨amap fV S.vers, S.heads, amap fP S.pend, S.next⟩
/-- The slice values stand for what is told. -/
structure MV.Ok (p : Pl) (S : MV) : Prop where
  v : ∀ id x, aget S.vers id = some x → Held p x.2.1 x.2.2
  q : ∀ n x, aget S.pend n = some x → Held p x.1 x.2
theorem MV.Ok.more {p q : Pl} {S : MV} (h : S.Ok p) (hs : ∀ x ∈ p, x ∈ q) : S.Ok q := ⟨fun id x e => (h.v id x e).more hs, fun n x e => (h.q n x e).more hs⟩
def MV.vv (S : MV) (id : Int) : Int × Value × List Pr := (aget S.vers id).getD (0, .slice none 0 0, [])
def MV.now (S : MV) (n : Nm) : Value × List Pr := match aget S.pend n with
  | some x => x
  | none => (S.vv (Md.hget S.st n)).2
theorem MV.now_st (S : MV) (n : Nm) : Md.now S.st n = (S.now n).2 := by
  unfold Md.now MV.now MV.vv Md.vget
  have e : aget S.st.pend n = (aget S.pend n).map fP := aget_amap _ _ _
  have e2 : ∀ id, aget S.st.vers id = (aget S.vers id).map fV := fun id => aget_amap _ _ _
  rw [e, e2]
  cases aget S.pend n with
  | some x => rfl
  | none =>
    cases aget S.vers (Md.hget S.st n) with
    | some x => rfl
    | none => rfl
theorem MV.Ok.vv {p : Pl} {S : MV} (h : S.Ok p) (id : Int) : Held p (S.vv id).2.1 (S.vv id).2.2 := by
  unfold MV.vv
  cases e : aget S.vers id with
  | some x => exact h.v id x e
  | none => exact .inl ⟨rfl, rfl⟩
theorem MV.Ok.now {p : Pl} {S : MV} (h : S.Ok p) (n : Nm) : Held p (S.now n).1 (S.now n).2 := by
  unfold MV.now
  cases e : aget S.pend n with
  | some x => exact h.q n x e
  | none => exact h.vv _
theorem MV.vget_st (S : MV) (id : Int) : Md.vget S.st id = fV (S.vv id) := by
  unfold Md.vget MV.vv
  have e2 : aget S.st.vers id = (aget S.vers id).map fV := aget_amap _ _ _
  rw [e2]
  cases aget S.vers id <;> rfl
/-- Where a model's parts lie. -/
structure Mh where
  b : Nat
  bv : Nat
  bh : Nat
  bp : Nat
abbrev ekS : Nm → Value := fun s => Value.string s
abbrev evV : Int × Value × List Pr → Value := fun x => .agg #[.int .i64 x.1, x.2.1]
abbrev evP : Value × List Pr → Value := fun x => x.1
def MapsAt (h : Mh) (S : MV) : Asn := MapAt ekI evV h.bv S.vers * (MapAt ekS ekI h.bh S.heads * MapAt ekS evP h.bp S.pend)
def MCell (h : Mh) (n : Int) : Asn := pts h.b (.cells #[.map (some h.bv), .map (some h.bh), .map (some h.bp), .int .i64 n] 74 (0, 0))
def ModelAt (h : Mh) (S : MV) : Asn := MCell h S.next * MapsAt h S
/-- The pointer to it. -/
abbrev Mh.ptr (h : Mh) : Value := .pointer (some ⟨h.b, 0, none⟩)
theorem Tryz.zeroVer (w : World) : (zeroValue 69).run Tryz.prog w = .ok (.agg #[.int .i64 0, .slice none 0 0]) w := by kernel_rfl
theorem Tryz.zeroInt (w : World) : (zeroValue 3).run Tryz.prog w = .ok (.int .i64 0) w := by kernel_rfl
theorem Tryz.zeroPairs (w : World) : (zeroValue 22).run Tryz.prog w = .ok (.slice none 0 0) w := by kernel_rfl
theorem field_ver1 (a s : Value) (w : World) : (Instr.field 69 (.agg #[a, s]) 1).run Tryz.prog w = .ok s w := by kernel_rfl
theorem field_ver0 (a s : Value) (w : World) : (Instr.field 69 (.agg #[a, s]) 0).run Tryz.prog w = .ok a w := by kernel_rfl
section
variable {h : Mh} {S : MV} {F : Asn} {w : World}
theorem ModelAt.cells (H : Sat (ModelAt h S * F) w) : w.cell? ⟨h.b, 0, none⟩ = some (.map (some h.bv)) ∧ w.cell? ⟨h.b, 1, none⟩ = some (.map (some h.bh)) ∧ w.cell? ⟨h.b, 2, none⟩ = some (.map (some h.bp)) ∧ w.cell? ⟨h.b, 3, none⟩ = some (.int .i64 S.next) := by
  unfold ModelAt MCell at H
  have k := H.left.left.at
  exact ⟨Sat.read k 0, Sat.read k 1, Sat.read k 2, Sat.read k 3⟩
theorem ModelAt.asV (H : Sat (ModelAt h S * F) w) : Sat (MapAt ekI evV h.bv S.vers * (MCell h S.next * (MapAt ekS ekI h.bh S.heads * (MapAt ekS evP h.bp S.pend * F)))) w := H.of_eq (by unfold ModelAt MapsAt; ac_rfl)
theorem ModelAt.asH (H : Sat (ModelAt h S * F) w) : Sat (MapAt ekS ekI h.bh S.heads * (MCell h S.next * (MapAt ekI evV h.bv S.vers * (MapAt ekS evP h.bp S.pend * F)))) w := H.of_eq (by unfold ModelAt MapsAt; ac_rfl)
theorem ModelAt.asP (H : Sat (ModelAt h S * F) w) : Sat (MapAt ekS evP h.bp S.pend * (MCell h S.next * (MapAt ekI evV h.bv S.vers * (MapAt ekS ekI h.bh S.heads * F)))) w := H.of_eq (by unfold ModelAt MapsAt; ac_rfl)
theorem look_ver (H : Sat (ModelAt h S * F) w) (id : Int) : (Instr.lookup 70 (.map (some h.bv)) (.int .i64 id) false).run Tryz.prog w = .ok (.agg #[.int .i64 (S.vv id).1, (S.vv id).2.1]) w := by
  have := run_lookup (P := Tryz.prog) (T := 70) intKey Tryz.underlying70 Tryz.underlying3 (Tryz.zeroVer w) (ModelAt.asV H) id false
  rw [this]
  unfold MV.vv
  cases aget S.vers id <;> rfl
theorem look_ver2 (H : Sat (ModelAt h S * F) w) (id : Int) : (Instr.lookup 70 (.map (some h.bv)) (.int .i64 id) true).run Tryz.prog w = .ok (.tuple #[.agg #[.int .i64 (S.vv id).1, (S.vv id).2.1], .bool (aget S.vers id).isSome]) w := by
  have := run_lookup (P := Tryz.prog) (T := 70) intKey Tryz.underlying70 Tryz.underlying3 (Tryz.zeroVer w) (ModelAt.asV H) id true
  rw [this]
  unfold MV.vv
  cases aget S.vers id <;> rfl
theorem look_head (H : Sat (ModelAt h S * F) w) (n : Nm) : (Instr.lookup 71 (.map (some h.bh)) (.string n) false).run Tryz.prog w = .ok (.int .i64 (Md.hget S.st n)) w := by
  have := run_lookup (P := Tryz.prog) (T := 71) strKey Tryz.underlying71 Tryz.underlying9 (Tryz.zeroInt w) (ModelAt.asH H) n false
  rw [this]
  unfold Md.hget MV.st
  cases aget S.heads n <;> rfl
theorem look_head2 (H : Sat (ModelAt h S * F) w) (n : Nm) : (Instr.lookup 71 (.map (some h.bh)) (.string n) true).run Tryz.prog w = .ok (.tuple #[.int .i64 (Md.hget S.st n), .bool (aget S.heads n).isSome]) w := by
  have := run_lookup (P := Tryz.prog) (T := 71) strKey Tryz.underlying71 Tryz.underlying9 (Tryz.zeroInt w) (ModelAt.asH H) n true
  rw [this]
  unfold Md.hget MV.st
  cases aget S.heads n <;> rfl
theorem look_pend2 (H : Sat (ModelAt h S * F) w) (n : Nm) : (Instr.lookup 72 (.map (some h.bp)) (.string n) true).run Tryz.prog w = .ok (.tuple #[((aget S.pend n).map evP).getD (.slice none 0 0), .bool (aget S.pend n).isSome]) w := by
  have := run_lookup (P := Tryz.prog) (T := 72) strKey Tryz.underlying72 Tryz.underlying9 (Tryz.zeroPairs w) (ModelAt.asP H) n true
  rw [this]
  rfl
end
section
variable {h : Mh} {S : MV} {F : Asn} {w : World} {R : Ending → World → Prop}
set_option maxRecDepth 100000 in
set_option maxHeartbeats 1000000 in
theorem now_any (n : Nm) {v : Value} {l : List Pr} (hv : Hid ((v, l) = S.now n)) (H : Sat (ModelAt h S * F) w) (hh : ∀ w', Sat (ModelAt h S * F) w' → Io w w' → R (.returned v) w') :
    Calls Tryz.prog 42 #[h.ptr, .string n] w R := by
  have HH := Lib.hid hh
  clear hh
  obtain ⟨c0, c1, c2, c3⟩ := ModelAt.cells H
  have e1 := look_pend2 H n
  have hn := hv.out
  unfold MV.now at hn
  cases hp : aget S.pend n with
  | some x =>
    rw [hp] at e1 hn
    simp only [Option.map_some, Option.getD_some, Option.isSome_some] at e1
    have hx : evP x = v := congrArg Prod.fst hn.symm
    rw [hx] at e1
    clear hn hv
    go_enter Tryz.func42, Tryz.ntmps42
    go_wp2_with fail
    exact HH.out _ H (Io.refl _)
  | none =>
    rw [hp] at e1 hn
    simp only [Option.map_none, Option.getD_none, Option.isSome_none] at e1
    have e2 := fun k => look_head (H.drewN k) n
    have e3 := fun k => look_ver (H.drewN k) (Md.hget S.st n)
    have hx : (S.vv (Md.hget S.st n)).2.1 = v := congrArg Prod.fst hn.symm
    rw [hx] at e3
    clear hn hv
    have f1 := field_ver1
    have Hn := fun k => HH.out _ (H.drewN k) ((Io.refl w).drewN k)
    go_enter Tryz.func42, Tryz.ntmps42
    go_wp2_with fail
    go_quiet (fail)
    go_wp2_with fail
    exact Hn _
end
end Go.Proofs.YtabpgejjnphfcaaGreat
