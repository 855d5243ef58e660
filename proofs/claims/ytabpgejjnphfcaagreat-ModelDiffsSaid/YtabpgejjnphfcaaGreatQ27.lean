/-
  Rows of pairs into which one is put, or from which one is taken: what the cells are. It proves no statement by itself.
-/
import Derived.Test.YtabpgejjnphfcaaGreatQ19
namespace Go.Proofs.YtabpgejjnphfcaaGreat
open Go.RowKit
set_option linter.unusedSimpArgs false
set_option linter.unusedVariables false

theorem ins_cells {l : List Pr} {i : Nat} (x : Pr) {xs : List Value} (hi : i ≤ l.length) (hl : xs.length = (l.length + 1) * 2) (ht : xs.take (i * 2) = pv (l.take i)) :
    splice (splice xs ((i + 1) * 2) (pv (l.drop i))) (i * 2) [.int .i64 x.1, .int .i64 x.2] = pv (l.take i ++ x :: l.drop i) ∧
    splice (splice xs (i * 2) [.int .i64 x.1, .int .i64 x.2]) ((i + 1) * 2) (pv (l.drop i)) = pv (l.take i ++ x :: l.drop i) := by
  have hd : (pv (l.drop i)).length = (l.length - i) * 2 := by rw [pv_length, List.length_drop]
  have e : pv (l.take i ++ x :: l.drop i) = pv (l.take i) ++ ([.int .i64 x.1, .int .i64 x.2] ++ pv (l.drop i)) := by rw [pv_append]; rfl
  have hp : (pv (l.take i)).length = i * 2 := by rw [pv_length, List.length_take, Nat.min_eq_left hi]
  rw [e]
  unfold splice
  have k1 : (i + 1) * 2 + (pv (l.drop i)).length = xs.length := by rw [hd, hl]; omega
  have z2 : ([.int .i64 x.1, .int .i64 x.2] : List Value).length = 2 := rfl
  constructor
  · rw [k1, List.drop_length, List.append_nil, z2]
    have t1 : (xs.take ((i + 1) * 2) ++ pv (l.drop i)).take (i * 2) = pv (l.take i) := by
      rw [List.take_append_of_le_length (by rw [List.length_take]; omega), List.take_take, Nat.min_eq_left (by omega), ht]
    have t2 : (xs.take ((i + 1) * 2) ++ pv (l.drop i)).drop (i * 2 + 2) = pv (l.drop i) := List.drop_left' (by rw [List.length_take]; omega)
    first | (rw [t1, t2]; done) | (rw [t1, t2, List.append_assoc]) | rw [t1, t2]
  · rw [ht, z2]
    have hs : (pv (l.take i) ++ ([.int .i64 x.1, .int .i64 x.2] : List Value) ++ xs.drop (i * 2 + 2)).length = xs.length := by rw [List.length_append, List.length_append, hp, List.length_drop, z2]; omega
    simp only [List.append_assoc] at hs ⊢
    rw [k1, List.drop_of_length_le (Nat.le_of_eq hs), List.append_nil]
    have t3 : (pv (l.take i) ++ (([.int .i64 x.1, .int .i64 x.2] : List Value) ++ xs.drop (i * 2 + 2))).take ((i + 1) * 2) = pv (l.take i) ++ [.int .i64 x.1, .int .i64 x.2] := by rw [← List.append_assoc]; exact List.take_left' (by rw [List.length_append, hp, z2]; omega)
    rw [t3, List.append_assoc]

section
variable {P : Program} {e : TypeId} {sz g n c : Nat} {xs : List Value} {F : Asn} {w : World} {ops : Array Oper} {rest : List Oper} {o : Oper} {a : Act} {Q : Exit → Act → World → Prop}
/-- copy into a row that is owned. -/
theorem wpList_copy_row (hgd : o.guard = none) (d s : Operand) (dT sT : TypeId) (ho : o.op = .call { callee := .builtin .copy, args := #[d, s], argTypes := #[dT, sT] })
    {i : TypeInfo} (hu : P.underlying dT = some (.slice e)) (hi : P.info? e = some i) (hs : i.size = sz)
    (H : Sat (Row e sz (.slice (some ⟨g, 0, none⟩) n c) n xs * F) w) (q dLen dCap : Nat) (ad : Addr) (sLen sCap : Nat) (cs : List Value)
    (hd : a.eval d = .slice (some ⟨g, q * sz, none⟩) dLen dCap) (hsv : a.eval s = .slice (some ad) sLen sCap) (hn : cs.length = Nat.min sLen dLen * sz) (hq : q * sz + cs.length ≤ n * sz)
    (hsrc : ∀ j v, cs[j]? = some v → w.cell? (ad.add j) = some v) (h1 : ∀ v ∈ cs, v.oneCell' = true)
    (h : ∀ v' w', Sat (Row e sz (.slice (some ⟨g, 0, none⟩) n c) n (splice xs (q * sz) cs) * F) w' → Io w w' → wpList P ops Q rest (a.put o.dst v') w') :
    wpList P ops Q (o :: rest) a w := by
  obtain ⟨w', hr, H', I'⟩ := run_copy_into (P := P) (ty := o.type) (sT := sT) hu hi hs H q dLen dCap ad sLen sCap cs hn hq hsrc h1
  refine wpList_plain hgd fun K hK => ?_
  unfold Oper.wp execOp
  simp only [ho, resolve, invoke, builtin, Sem.run_bind, Sem.run_pure, Result.andThen_ok, List.map_toArray, List.map_cons, List.map_nil, hd, hsv, hr]
  exact hK _ _ (h _ w' H' I')
theorem step_copy_row {K : Act → World → Prop} {E : Prop} (hgd : o.guard = none) (d s : Operand) (dT sT : TypeId) (ho : o.op = .call { callee := .builtin .copy, args := #[d, s], argTypes := #[dT, sT] })
    {i : TypeInfo} (hu : P.underlying dT = some (.slice e)) (hi : P.info? e = some i) (hs : i.size = sz)
    (H : Sat (Row e sz (.slice (some ⟨g, 0, none⟩) n c) n xs * F) w) (q dLen dCap : Nat) (ad : Addr) (sLen sCap : Nat) (cs : List Value)
    (hd : a.eval d = .slice (some ⟨g, q * sz, none⟩) dLen dCap) (hsv : a.eval s = .slice (some ad) sLen sCap) (hn : cs.length = Nat.min sLen dLen * sz) (hq : q * sz + cs.length ≤ n * sz)
    (hsrc : ∀ j v, cs[j]? = some v → w.cell? (ad.add j) = some v) (h1 : ∀ v ∈ cs, v.oneCell' = true)
    (h : ∀ v' w', Sat (Row e sz (.slice (some ⟨g, 0, none⟩) n c) n (splice xs (q * sz) cs) * F) w' → Io w w' → K (a.put o.dst v') w') :
    if Region.wanted o (yielded ops a.tmps) = true then Oper.wp P o a w K Q else E := by
  obtain ⟨w', hr, H', I'⟩ := run_copy_into (P := P) (ty := o.type) (sT := sT) hu hi hs H q dLen dCap ad sLen sCap cs hn hq hsrc h1
  have hw : Region.wanted o (yielded ops a.tmps) = true := by simp [Region.wanted, hgd]
  rw [if_pos hw]
  unfold Oper.wp execOp
  simp only [ho, resolve, invoke, builtin, Sem.run_bind, Sem.run_pure, Result.andThen_ok, List.map_toArray, List.map_cons, List.map_nil, hd, hsv, hr]
  exact h _ w' H' I'
end
end Go.Proofs.YtabpgejjnphfcaaGreat
