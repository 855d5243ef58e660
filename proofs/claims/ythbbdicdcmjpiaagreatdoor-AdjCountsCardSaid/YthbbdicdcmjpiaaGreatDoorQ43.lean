/-
  How the arguments of the statements of this seat read, what lies in the listed variable, and how a walk that ends in true closes a row. It proves no statement by itself.
-/
import Derived.Test.YthbbdicdcmjpiaaGreatDoorQ19
import Derived.ProofKit
import Derived.Deep.Slices
import Derived.LaidMore
import Derived.OpenShut
import Derived.Stop.Joined
import Derived.Lib.SmallJoins
namespace Go.Proofs.YthbbdicdcmjpiaaGreatDoor
open Go.ChangeShapes Go.WideShapes Go.ChangeAt Go.RowKit Go.Deep Go.Joins
set_option linter.unusedSimpArgs false
set_option linter.unusedVariables false

theorem own : ownKnob Tryz.prog.godebug = none := by kernel_rfl
theorem laidOut : laidOutB Tryz.prog = true := by kernel_rfl

section
variable {H : Type} {enc : TypeId × Value → H} {P : Program} {W : World}

/-- A cell of the heap that was there reads as it did, wherever W's heap is still held. -/
theorem whole_cell {w : World} (h : Sat (whole W) w) {a : Addr} {v : Value} (hc : W.cell? a = some v) : w.cell? a = some v := by
  have hlt := World.block_lt_of_cell? W a hc
  rw [World.cell?_of_block (w := W) (h.was a.block hlt)]
  exact hc

/-- The arguments read behind the call as they did. -/
theorem trodAll_below (hl : laidOutB P = true) {W' : World} (hb : Below W.heap.size W W') : ∀ (ts : List TypeId) (vs : List Value) (ds : List (DataW H)) (p : List MemPlace),
    ts.all (fun t => P.readableRec t && decide (t < P.types.size)) = true → DataW.TrodAll enc P W 0 (fun _ => true) true ts vs ds p → (∀ x ∈ p, x.block < W.heap.size) →
    DataW.TrodAll enc P W' 0 (fun b => decide (b < W.heap.size)) true ts vs ds p
  | [], [], [], p, _, h, _ => h
  | t :: ts, v :: vs, d :: ds, p, hr, h, hlt => by
    obtain ⟨p1, q1, h1, h2, rfl⟩ := h
    simp only [List.all_cons, Bool.and_eq_true, decide_eq_true_eq] at hr
    exact ⟨p1, q1, Below.trod hl hr.1.1 hr.1.2 h1 hb (fun x hx => hlt x (List.mem_append_left _ hx)), trodAll_below hl hb ts vs ds q1 hr.2 h2 (fun x hx => hlt x (List.mem_append_right _ hx)), rfl⟩
  | [], [], _ :: _, _, _, h, _ => absurd h (by simp [DataW.TrodAll])
  | [], _ :: _, _, _, _, h, _ => absurd h (by simp [DataW.TrodAll])
  | _ :: _, [], _, _, _, h, _ => absurd h (by simp [DataW.TrodAll])
  | _ :: _, _ :: _, [], _, _, h, _ => absurd h (by simp [DataW.TrodAll])

/-- A law's row behind a walk that has answered true and turned nothing that was there. -/
theorem law_post {f : Func} {s : ChangeSpec} {tb : TypeId} {W' : World} {args : Array Value} {ds gs : List (DataW H)} {before : List MemPlace} (hl : laidOutB P = true) (htb : P.underlying tb = some .bool)
    (hrt : f.resultTypes = #[tb]) (hvs : s.vars = []) (hread : f.params.toList.all (fun t => P.readableRec t && decide (t < P.types.size)) = true)
    (hW : DataW.Whole enc P f.params.toList s.vars false W args.toList ds gs before) (hb : Below W.heap.size W W')
    (hsr : (s.fn H (ds ++ gs)).results = [.lit (.bool true)]) (hsa : (s.fn H (ds ++ gs)).args = ds) (hsv : (s.fn H (ds ++ gs)).vars = []) :
    s.post enc P f false true false false W args (.bool true) W' := by
  have hW0 := hW
  obtain ⟨p, q, hA, hV, rfl, hfz, hnd⟩ := hW
  have hlt : ∀ x ∈ p, x.block < W.heap.size := fun x hx => hW0.lt x (List.mem_append_left _ hx)
  refine ⟨ds, gs, p ++ q, [], p, [], hW0, ?_, ?_, ?_, hb.frame _, fun h => by cases h⟩
  · rw [hrt, hsr]
    exact trodAll_mk1 (shut_bool htb true)
  · rw [hsa]
    exact trodAll_below hl hb _ _ _ _ hread hA hlt
  · rw [hvs, hsv]
    rfl

theorem take_one {l : List Value} {n j : Nat} (hl : l.length = n) (hj : j < n) : (l.drop j).take 1 = [l[j]'(by omega)] := by
  rw [List.drop_eq_getElem_cons (by omega)]
  rfl

end


section
variable {H : Type} {enc : TypeId × Value → H} {P : Program} {w : World} {base : Nat} {spare : Nat → Bool} {held : Bool}
theorem open_agg5 {r : Reach} {b0 : Nat} {t : TypeId} {f0 f1 f2 f3 f4 : Field} {v : Value} {d : DataW H} {p : List MemPlace} (hs : P.underlying t = some (.struct #[f0, f1, f2, f3, f4])) (hone : oneCellFields P #[f0, f1, f2, f3, f4] = true) (hC : P.cellsOf t = 5)
    (hv : Value.okWide P w r b0 t v) (h : DataW.Trod enc P w base spare held t v d p) :
    ∃ (v0 v1 v2 v3 v4 : Value) (y0 y1 y2 y3 y4 : DataW H × List MemPlace) (n : Nat), v = .agg #[v0, v1, v2, v3, v4] ∧ d = .agg [y0.1, y1.1, y2.1, y3.1, y4.1] ∧ p = y0.2 ++ (y1.2 ++ (y2.2 ++ (y3.2 ++ y4.2))) ∧
      DataW.trod enc P w base spare held n f0.type [v0] = some y0 ∧ DataW.trod enc P w base spare held n f1.type [v1] = some y1 ∧ DataW.trod enc P w base spare held n f2.type [v2] = some y2 ∧ DataW.trod enc P w base spare held n f3.type [v3] = some y3 ∧ DataW.trod enc P w base spare held n f4.type [v4] = some y4 := by
  obtain ⟨cs, rfl, hsz⟩ := okWide_struct hs hv
  obtain ⟨l⟩ := cs
  match l, hsz.trans hC with
  | [c0, c1, c2, c3, c4], _ =>
    obtain ⟨fuel, hf⟩ := h
    obtain ⟨xs, n, _, hx, _, hlen, hg⟩ := DataW.trod_struct hs hf
    obtain ⟨o0, k0⟩ := hone_of hone 0 f0 rfl
    obtain ⟨o1, k1⟩ := hone_of hone 1 f1 rfl
    obtain ⟨o2, k2⟩ := hone_of hone 2 f2 rfl
    obtain ⟨o3, k3⟩ := hone_of hone 3 f3 rfl
    obtain ⟨o4, k4⟩ := hone_of hone 4 f4 rfl
    match xs, hlen with
    | [y0, y1, y2, y3, y4], _ =>
      simp only [Prod.mk.injEq] at hx
      exact ⟨c0, c1, c2, c3, c4, y0, y1, y2, y3, y4, n, rfl, by simpa using hx.1, by simpa using hx.2, by simpa [Value.cells, o0, k0] using hg 0 f0 rfl, by simpa [Value.cells, o1, k1] using hg 1 f1 rfl, by simpa [Value.cells, o2, k2] using hg 2 f2 rfl, by simpa [Value.cells, o3, k3] using hg 3 f3 rfl, by simpa [Value.cells, o4, k4] using hg 4 f4 rfl⟩
end

/-- What the listed variable holds. -/
def laid1 : List (String × DataW Unit) := [("rootstock/crc.halves", Rows.laid_rootstock_crc_halves)]
theorem gHalves : Tryz.prog.globalNamed "rootstock/crc.halves" = some 1 := by kernel_rfl
theorem tHalves : (Tryz.prog.globals[1]?).map (·.type) = some 279 := by kernel_rfl

theorem door_met (os : Os) (args : Array Value) : laidMetH Tryz.prog laid1 ((World.doorLaid Tryz.prog 400 os).forCall (fun _ _ => 0) ⟨#[], args, []⟩).memory :=
  laidMetH_of_parts3 (fuel := 8) (laidMet_of_run' 8 (by kernel_rfl) (by kernel_rfl)) (by kernel_rfl) (by kernel_rfl)

theorem of_laid {W : World} (h : laidMetH Tryz.prog laid1 W) : Hv (whole W) := by
  rw [MakeChecks.laidMetH_plain _ _ _ (by kernel_rfl)] at h
  obtain ⟨ps, ⟨g0, t0, cs0, f0, p0, q0, hg0, ht0, hv0, hd0, _⟩, _, _⟩ := h
  obtain rfl := Option.some.inj (gHalves.symm.trans hg0)
  obtain rfl := Option.some.inj (tHalves.symm.trans ht0)
  obtain ⟨xs, m1, rfl, hx1, hlen, hn3, hel⟩ := DataW.trod_array Tryz.underlying279 hd0
  have c1 : Tryz.prog.cellsOf 195 = 1 := by kernel_rfl
  have c2 : Tryz.prog.cellsOf 279 = 16 := by kernel_rfl
  simp only [Prod.mk.injEq] at hx1
  intro w hw j hj
  refine whole_cell hw ?_
  rw [World.var?_cell hg0 hv0 j]
  have hj' := hel j hj
  rw [c1, Nat.mul_one] at hj'
  have hcl : cs0.toList.length = 16 := hlen.trans c2
  rw [take_one hcl hj] at hj'
  have hjx : j < xs.length := by omega
  rw [List.getElem?_eq_getElem hjx] at hj'
  obtain ⟨k, e1, e2, _⟩ := DataW.trod_int Tryz.underlying195 hj'
  have e3 : cs0[j]? = some (.int .u32 k) := by
    have hja : j < cs0.toList.length := by omega
    have : cs0.toList[j] = .int .u32 k := by simpa using e1
    rw [← Array.getElem?_toList, List.getElem?_eq_getElem hja, this]
  rw [e3]
  have e4 : (xs.map (·.1))[j]? = some (.lit (.int .u32 k)) := by
    rw [List.getElem?_map, List.getElem?_eq_getElem hjx, e2]
    rfl
  have e5 : xs.map (·.1) = [.lit (.int .u32 0), .lit (.int .u32 498536548), .lit (.int .u32 997073096), .lit (.int .u32 651767980), .lit (.int .u32 1994146192), .lit (.int .u32 1802195444), .lit (.int .u32 1303535960), .lit (.int .u32 1342533948), .lit (.int .u32 3988292384), .lit (.int .u32 4027552580), .lit (.int .u32 3604390888), .lit (.int .u32 3412177804), .lit (.int .u32 2607071920), .lit (.int .u32 2262029012), .lit (.int .u32 2685067896), .lit (.int .u32 3183342108)] := by
    have := hx1.1
    unfold Rows.laid_rootstock_crc_halves at this
    exact (DataW.agg.inj this).symm
  rw [e5] at e4
  match j, hj with
  | 0, _ => simp at e4; rw [← e4]; rfl
  | 1, _ => simp at e4; rw [← e4]; rfl
  | 2, _ => simp at e4; rw [← e4]; rfl
  | 3, _ => simp at e4; rw [← e4]; rfl
  | 4, _ => simp at e4; rw [← e4]; rfl
  | 5, _ => simp at e4; rw [← e4]; rfl
  | 6, _ => simp at e4; rw [← e4]; rfl
  | 7, _ => simp at e4; rw [← e4]; rfl
  | 8, _ => simp at e4; rw [← e4]; rfl
  | 9, _ => simp at e4; rw [← e4]; rfl
  | 10, _ => simp at e4; rw [← e4]; rfl
  | 11, _ => simp at e4; rw [← e4]; rfl
  | 12, _ => simp at e4; rw [← e4]; rfl
  | 13, _ => simp at e4; rw [← e4]; rfl
  | 14, _ => simp at e4; rw [← e4]; rfl
  | 15, _ => simp at e4; rw [← e4]; rfl
end Go.Proofs.YthbbdicdcmjpiaaGreatDoor

/-
  What the listed variables hold, where there are three. It proves no statement by itself.
-/
namespace Go.Proofs.YthbbdicdcmjpiaaGreatDoor
open Go.ChangeShapes Go.WideShapes Go.ChangeAt Go.RowKit Go.Deep Go.Joins
set_option linter.unusedSimpArgs false
set_option linter.unusedVariables false

def laid3 : List (String × DataW Unit) := [("rootstock/crc.halves", Rows.laid_rootstock_crc_halves), ("unicode/utf8.acceptRanges", Rows.laid_unicode_utf8_acceptRanges), ("unicode/utf8.first", Rows.laid_unicode_utf8_first)]
theorem of_laid3 {W : World} (h : laidMetH Tryz.prog laid3 W) : Hv (whole W) := by
  rw [MakeChecks.laidMetH_plain _ _ _ (by kernel_rfl)] at h
  obtain ⟨ps, ⟨g0, t0, cs0, f0, p0, q0, hg0, ht0, hv0, hd0, -⟩, -⟩ := h
  obtain rfl := Option.some.inj (gHalves.symm.trans hg0)
  obtain rfl := Option.some.inj (tHalves.symm.trans ht0)
  obtain ⟨xs, m1, rfl, hx1, hlen, hn3, hel⟩ := DataW.trod_array Tryz.underlying279 hd0
  have c1 : Tryz.prog.cellsOf 195 = 1 := by kernel_rfl
  have c2 : Tryz.prog.cellsOf 279 = 16 := by kernel_rfl
  simp only [Prod.mk.injEq] at hx1
  intro w hw j hj
  refine whole_cell hw ?_
  rw [World.var?_cell hg0 hv0 j]
  have hj' := hel j hj
  rw [c1, Nat.mul_one] at hj'
  have hcl : cs0.toList.length = 16 := hlen.trans c2
  rw [take_one hcl hj] at hj'
  have hjx : j < xs.length := by omega
  rw [List.getElem?_eq_getElem hjx] at hj'
  obtain ⟨k, e1, e2, _⟩ := DataW.trod_int Tryz.underlying195 hj'
  have e3 : cs0[j]? = some (.int .u32 k) := by
    have hja : j < cs0.toList.length := by omega
    have : cs0.toList[j] = .int .u32 k := by simpa using e1
    rw [← Array.getElem?_toList, List.getElem?_eq_getElem hja, this]
  rw [e3]
  have e4 : (xs.map (·.1))[j]? = some (.lit (.int .u32 k)) := by
    rw [List.getElem?_map, List.getElem?_eq_getElem hjx, e2]
    rfl
  have e5 : xs.map (·.1) = [.lit (.int .u32 0), .lit (.int .u32 498536548), .lit (.int .u32 997073096), .lit (.int .u32 651767980), .lit (.int .u32 1994146192), .lit (.int .u32 1802195444), .lit (.int .u32 1303535960), .lit (.int .u32 1342533948), .lit (.int .u32 3988292384), .lit (.int .u32 4027552580), .lit (.int .u32 3604390888), .lit (.int .u32 3412177804), .lit (.int .u32 2607071920), .lit (.int .u32 2262029012), .lit (.int .u32 2685067896), .lit (.int .u32 3183342108)] := by
    have := hx1.1
    unfold Rows.laid_rootstock_crc_halves at this
    exact (DataW.agg.inj this).symm
  rw [e5] at e4
  match j, hj with
  | 0, _ => simp at e4; rw [← e4]; rfl
  | 1, _ => simp at e4; rw [← e4]; rfl
  | 2, _ => simp at e4; rw [← e4]; rfl
  | 3, _ => simp at e4; rw [← e4]; rfl
  | 4, _ => simp at e4; rw [← e4]; rfl
  | 5, _ => simp at e4; rw [← e4]; rfl
  | 6, _ => simp at e4; rw [← e4]; rfl
  | 7, _ => simp at e4; rw [← e4]; rfl
  | 8, _ => simp at e4; rw [← e4]; rfl
  | 9, _ => simp at e4; rw [← e4]; rfl
  | 10, _ => simp at e4; rw [← e4]; rfl
  | 11, _ => simp at e4; rw [← e4]; rfl
  | 12, _ => simp at e4; rw [← e4]; rfl
  | 13, _ => simp at e4; rw [← e4]; rfl
  | 14, _ => simp at e4; rw [← e4]; rfl
  | 15, _ => simp at e4; rw [← e4]; rfl
end Go.Proofs.YthbbdicdcmjpiaaGreatDoor
