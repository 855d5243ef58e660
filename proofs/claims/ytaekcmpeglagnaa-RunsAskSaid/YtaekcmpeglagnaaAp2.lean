/-
  append as one step of a region that draws its order. It proves no statement by itself.
-/
import Derived.Test.YtaekcmpeglagnaaAp
import Derived.Deep.RegionHeld3
namespace Go.Proofs.Ytaekcmpeglagnaa
open Go.RowKit
set_option linter.unusedSimpArgs false
set_option linter.unusedVariables false

section
variable {P : Program}
/-- append of what has just been laid in a block of its own, as one step of a region that draws its order. -/
theorem step_append_new {R : Asn} {w : World} {ops : Array Oper} {o : Oper} {a : Act} {K : Act → World → Prop} {Q : Exit → Act → World → Prop} {E : Prop} (hgd : o.guard = none) (s x : Operand) (t : TypeId)
    (ho : o.op = .call { callee := .builtin .append, args := #[s, x], argTypes := #[t, t] })
    (e : TypeId) {i : TypeInfo} {z : Value} {size bytes : Nat} (ht : P.underlying t = some (.slice e)) (hi : P.info? e = some i) (hz : i.zero = some z)
    (hsize : i.size = size) (hby : i.bytes = bytes) (hzs : z.cells.size = size)
    {v : Value} {n : Nat} {xs : List Value} (hs : a.eval s = v) (H : Sat (Row e size v n xs * R) w)
    {b : Nat} (m c : Nat) (cs : List Value) (hx : a.eval x = .slice (some ⟨b, 0, none⟩) m c) (hb : b = w.heap.size) (hl : cs.length = m * size) (h1 : cs.all (·.oneCell') = true)
    (hbytes : n + m ≤ 1000000000) (hby2 : bytes ≤ 100000)
    (hm : 0 < m) (h : ∀ g c' w', Sat (Row e size (.slice (some ⟨g, 0, none⟩) (n + m) c') (n + m) (xs ++ cs) * R) w' → Io w w' → K (a.put o.dst (.slice (some ⟨g, 0, none⟩) (n + m) c')) w') :
    if Region.wanted o (yielded ops a.tmps) = true then Oper.wp P o a (w.alloc (.cells cs.toArray e)) K Q else E := by
  have hk : (n + m) * bytes ≤ 1000000000 * 100000 := Nat.mul_le_mul hbytes hby2
  have hw : Region.wanted o (yielded ops a.tmps) = true := by simp [Region.wanted, hgd]
  rw [if_pos hw]
  obtain ⟨v', w', hr, h2, h3⟩ := run_append_sl (P := P) (w.alloc (.cells cs.toArray e)) t o.type e ht hi hz hsize hby hzs (H.alloc _) ⟨b, 0, none⟩ m c cs hl (news_at w b hb cs e) (fun u hu => List.all_eq_true.1 h1 u hu) (by unfold maxLen; omega) (by omega)
  obtain ⟨g, c', rfl⟩ := row_shape h2 (by omega)
  unfold Oper.wp execOp
  simp only [ho, resolve, invoke, builtin, Sem.run_bind, Sem.run_pure, Result.andThen_ok, List.map_toArray, List.map_cons, List.map_nil, hs, hx, hr]
  exact h g c' w' h2 (((Io.refl w).alloc _).trans h3)
end
end Go.Proofs.Ytaekcmpeglagnaa
