/-
  A record is stored whole into a block that is owned. No program in sight. It proves no statement by itself.
-/
import Derived.Test.YtabpgejjnphfcaaGreatQ01
import Derived.Laws.Tables
import Derived.RegionCalls
namespace Go.Proofs.YtabpgejjnphfcaaGreat
open Go.RowKit
set_option linter.unusedSimpArgs false
set_option linter.unusedVariables false
section
variable {P : Program} {G : Asn} {w : World} {ops : Array Oper} {rest : List Oper} {o : Oper} {a : Act} {Q : Exit → Act → World → Prop}
theorem sat_setRow {g : Nat} {old new : Array Value} {t : TypeId} (H : Sat (pts g (.cells old t (0, 0)) * G) w) : Sat (pts g (.cells new t (0, 0)) * G) (w.setRow g new) :=
  H.set (setRow_heap w g old new t _ H.left.at) fun k _ hk => setRow_other w g k _ hk
theorem io_setRow (w : World) (g : Nat) (new : Array Value) : Io w (w.setRow g new) := ⟨rfl, rfl, rfl, by simp [World.setRow]⟩
theorem wpList_store_sl {old new : Array Value} {t : TypeId} {g : Nat} (hgd : o.guard = none) (ty : TypeId) (x y : Operand) (ho : o.op = .store ty x y) (hx : a.eval x = .pointer (some ⟨g, 0, none⟩)) (hy : a.eval y = .agg new)
    (H : Sat (pts g (.cells old t (0, 0)) * G) w) (hi : (P.info? ty).map (·.size) = some new.size) (hold : old.size = new.size) (h1 : new.all (·.oneCell') = true)
    (h : ∀ w', Sat (pts g (.cells new t (0, 0)) * G) w' → Io w w' → wpList P ops Q rest (a.put o.dst undef) w') : wpList P ops Q (o :: rest) a w :=
  wpList_store_row hgd ty x y ho g new hx hy t old H.left.at hi hold h1 (h _ (sat_setRow H) (io_setRow w g new))
theorem run_store_sl {old new : Array Value} {t : TypeId} {g : Nat} (ty : TypeId) (H : Sat (pts g (.cells old t (0, 0)) * G) w) (hi : (P.info? ty).map (·.size) = some new.size) (hold : old.size = new.size) (h1 : new.all (·.oneCell') = true) :
    ∃ w', (Instr.storeAt ty (.pointer (some ⟨g, 0, none⟩)) (.agg new)).run P w = .ok () w' ∧ Sat (pts g (.cells new t (0, 0)) * G) w' ∧ Io w w' := by
  refine ⟨_, ?_, sat_setRow H, io_setRow w g new⟩
  simp only [Instr.storeAt, Instr.sureAddr, Sem.run_bind, Sem.run_pure, Result.andThen_ok, run_storeVar_row w g t ty old new H.left.at hi hold h1]
theorem step_store_sl {old new : Array Value} {t : TypeId} {g : Nat} {K : Act → World → Prop} {E : Prop} (hgd : o.guard = none) (ty : TypeId) (x y : Operand) (ho : o.op = .store ty x y) (hx : a.eval x = .pointer (some ⟨g, 0, none⟩)) (hy : a.eval y = .agg new)
    (H : Sat (pts g (.cells old t (0, 0)) * G) w) (hi : (P.info? ty).map (·.size) = some new.size) (hold : old.size = new.size) (h1 : new.all (·.oneCell') = true)
    (h : ∀ w', Sat (pts g (.cells new t (0, 0)) * G) w' → Io w w' → K (a.put o.dst undef) w') : if Region.wanted o (yielded ops a.tmps) = true then Oper.wp P o a w K Q else E := by
  have hw : Region.wanted o (yielded ops a.tmps) = true := by simp [Region.wanted, hgd]
  rw [if_pos hw]
  exact wp_store_row ty x y ho g new hx hy t old H.left.at hi hold h1 (h _ (sat_setRow H) (io_setRow w g new))
end
end Go.Proofs.YtabpgejjnphfcaaGreat
