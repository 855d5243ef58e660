/-
  What the listed variables hold, where there are three. It proves no statement by itself.
-/
import Derived.Test.YtpccdadobnhpkaaDoorLawK
namespace Go.Proofs.YtpccdadobnhpkaaDoor
open Go.ChangeShapes Go.WideShapes Go.ChangeAt Go.RowKit Go.Deep Go.Joins
set_option linter.unusedSimpArgs false
set_option linter.unusedVariables false

def laid3 : List (String × DataW Unit) := [("rootstock/crc.halves", Rows.laid_rootstock_crc_halves), ("unicode/utf8.acceptRanges", Rows.laid_unicode_utf8_acceptRanges), ("unicode/utf8.first", Rows.laid_unicode_utf8_first)]
theorem of_laid3 {W : World} (h : laidMetH Tryd.prog laid3 W) : Hv (whole W) := by
  rw [MakeChecks.laidMetH_plain _ _ _ (by kernel_rfl)] at h
  obtain ⟨ps, ⟨g0, t0, cs0, f0, p0, q0, hg0, ht0, hv0, hd0, -⟩, -⟩ := h
  obtain rfl := Option.some.inj (gHalves.symm.trans hg0)
  obtain rfl := Option.some.inj (tHalves.symm.trans ht0)
  obtain ⟨xs, m1, rfl, hx1, hlen, hn3, hel⟩ := DataW.trod_array Tryd.underlying139 hd0
  have c1 : Tryd.prog.cellsOf 116 = 1 := by kernel_rfl
  have c2 : Tryd.prog.cellsOf 139 = 16 := by kernel_rfl
  simp only [Prod.mk.injEq] at hx1
  intro w hw j hj
  refine whole_cell hw ?_
  rw [World.var?_cell hg0 hv0 j]
  have hj' := hel j hj
  rw [c1, Nat.mul_one] at hj'
  have hcl : cs0.toList.length = 16 := hlen.trans c2
  rw [take_one hcl hj] at hj'
  have hjx : j < xs.length := by omega
  rw [List.getElem?_eq_getElem hjx] at hj'
  obtain ⟨k, e1, e2, _⟩ := DataW.trod_int Tryd.underlying116 hj'
  have e3 : cs0[j]? = some (.int .u32 k) := by
    have hja : j < cs0.toList.length := by omega
    have : cs0.toList[j] = .int .u32 k := by simpa using e1
    rw [← Array.getElem?_toList, List.getElem?_eq_getElem hja, this]
  rw [e3]
  have e4 : (xs.map (·.1))[j]? = some (.lit (.int .u32 k)) := by
    rw [List.getElem?_map, List.getElem?_eq_getElem hjx, e2]
    rfl
  have e5 : xs.map (·.1) = [.lit (.int .u32 0), .lit (.int .u32 498536548), .lit (.int .u32 997073096), .lit (.int .u32 651767980), .lit (.int .u32 1994146192), .lit (.int .u32 1802195444), .lit (.int .u32 1303535960), .lit (.int .u32 1342533948), .lit (.int .u32 3988292384), .lit (.int .u32 4027552580), .lit (.int .u32 3604390888), .lit (.int .u32 3412177804), .lit (.int .u32 2607071920), .lit (.int .u32 2262029012), .lit (.int .u32 2685067896), .lit (.int .u32 3183342108)] := by
    have := hx1.1
    unfold Rows.laid_rootstock_crc_halves at this
    exact (DataW.agg.inj this).symm
  rw [e5] at e4
  match j, hj with
  | 0, _ => simp at e4; rw [← e4]; rfl
  | 1, _ => simp at e4; rw [← e4]; rfl
  | 2, _ => simp at e4; rw [← e4]; rfl
  | 3, _ => simp at e4; rw [← e4]; rfl
  | 4, _ => simp at e4; rw [← e4]; rfl
  | 5, _ => simp at e4; rw [← e4]; rfl
  | 6, _ => simp at e4; rw [← e4]; rfl
  | 7, _ => simp at e4; rw [← e4]; rfl
  | 8, _ => simp at e4; rw [← e4]; rfl
  | 9, _ => simp at e4; rw [← e4]; rfl
  | 10, _ => simp at e4; rw [← e4]; rfl
  | 11, _ => simp at e4; rw [← e4]; rfl
  | 12, _ => simp at e4; rw [← e4]; rfl
  | 13, _ => simp at e4; rw [← e4]; rfl
  | 14, _ => simp at e4; rw [← e4]; rfl
  | 15, _ => simp at e4; rw [← e4]; rfl
end Go.Proofs.YtpccdadobnhpkaaDoor
