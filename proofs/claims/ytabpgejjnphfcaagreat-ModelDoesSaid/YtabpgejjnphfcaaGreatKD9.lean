/-
  The document's model: commit, by its walk. It proves no statement by itself.
-/
import Derived.Test.YtabpgejjnphfcaaGreatQ44
namespace Go.Proofs.YtabpgejjnphfcaaGreat
open Go.RowKit
open Go.Lib
open Md (Nm St)
set_option linter.unusedSimpArgs false
set_option linter.unusedVariables false
set_option linter.unusedSectionVars false
section
variable {F : Asn} {w : World} {R : Ending → World → Prop} {x : Dx} {S : St} {p : Pl} {j : Nat}
theorem DMC.cells {G : Asn} (H : Sat (DMC x * G) w) : w.cell? ⟨x.b, 0, none⟩ = some (lptr x.l) ∧ w.cell? ⟨x.b, 1, none⟩ = some x.ve ∧ w.cell? ⟨x.b, 2, none⟩ = some x.vq ∧ w.cell? ⟨x.b, 3, none⟩ = some x.vd ∧ w.cell? ⟨x.b, 4, none⟩ = some (.int .i64 x.n) ∧ ∀ i, w.frozen? ⟨x.b, i, none⟩ = false := by
  unfold DMC at H
  have k := H.left.at
  exact ⟨Sat.read k 0, Sat.read k 1, Sat.read k 2, Sat.read k 3, Sat.read k 4, fun i => Sat.free k i⟩
theorem DAt.storeE {v' : Value} {E' : List (Sl3 × List Pr)} (H : Sat (RowSl v' (E'.map (·.1)) * (LAt x.l x.vv x.vb x.V x.B * (DMC x * (RowSl x.vq (x.Q.map (·.1)) * (RowBo x.vd x.D * F))))) w) : Sat (DAt { x with ve := v', E := E' } * F) (w.setCell ⟨x.b, 1, none⟩ v') := by
  have H1 : Sat (pts x.b (.cells #[lptr x.l, x.ve, x.vq, x.vd, .int .i64 x.n] 95 (0, 0)) * (RowSl v' (E'.map (·.1)) * (LAt x.l x.vv x.vb x.V x.B * (RowSl x.vq (x.Q.map (·.1)) * (RowBo x.vd x.D * F))))) w := H.of_eq (by unfold DMC; ac_rfl)
  have H2 : Sat (pts x.b (.cells #[lptr x.l, v', x.vq, x.vd, .int .i64 x.n] 95 (0, 0)) * (RowSl v' (E'.map (·.1)) * (LAt x.l x.vv x.vb x.V x.B * (RowSl x.vq (x.Q.map (·.1)) * (RowBo x.vd x.D * F))))) _ := H1.cell 1 v'
  refine H2.of_eq ?_
  show _ = LAt x.l x.vv x.vb x.V x.B * (pts x.b (.cells #[lptr x.l, v', x.vq, x.vd, .int .i64 x.n] 95 (0, 0)) * (RowSl v' (E'.map (·.1)) * (RowSl x.vq (x.Q.map (·.1)) * RowBo x.vd x.D))) * F
  ac_rfl
theorem DAt.storeE2 {v' : Value} {E' : List (Sl3 × List Pr)} (H : Sat (RowSl v' (E'.map (·.1)) * (DAt x * F)) w) : Sat (DAt { x with ve := v', E := E' } * F) (w.setCell ⟨x.b, 1, none⟩ v') :=
  DAt.storeE ((H.of_eq (show _ = RowSl x.ve (x.E.map (·.1)) * (RowSl v' (E'.map (·.1)) * (LAt x.l x.vv x.vb x.V x.B * (DMC x * (RowSl x.vq (x.Q.map (·.1)) * (RowBo x.vd x.D * F))))) from by unfold DAt DRows; ac_rfl)).right)
theorem DAt.storeN (H : Sat (DAt x * F) w) (n : Int) : Sat (DAt { x with n := n } * F) (w.setCell ⟨x.b, 4, none⟩ (.int .i64 n)) := by
  have H1 : Sat (pts x.b (.cells #[lptr x.l, x.ve, x.vq, x.vd, .int .i64 x.n] 95 (0, 0)) * (LAt x.l x.vv x.vb x.V x.B * (DRows x * F))) w := H.of_eq (by unfold DAt DMC; ac_rfl)
  have H2 : Sat (pts x.b (.cells #[lptr x.l, x.ve, x.vq, x.vd, .int .i64 n] 95 (0, 0)) * (LAt x.l x.vv x.vb x.V x.B * (DRows x * F))) _ := H1.cell 4 (.int .i64 n)
  refine H2.of_eq ?_
  show _ = LAt x.l x.vv x.vb x.V x.B * (pts x.b (.cells #[lptr x.l, x.ve, x.vq, x.vd, .int .i64 n] 95 (0, 0)) * DRows x) * F
  ac_rfl
theorem DAt.setL {vv' vb' : Value} {V' : List Md.Ver} {B' : List Md.Br} (H : Sat (LAt x.l vv' vb' V' B' * (DMC x * (DRows x * F))) w) : Sat (DAt { x with vv := vv', vb := vb', V := V', B := B' } * F) w := by
  refine H.of_eq ?_
  show _ = LAt x.l vv' vb' V' B' * (DMC x * DRows x) * F
  ac_rfl
theorem mdo_com {S : St} {o : Md.Op} (hk : o.kind = 3) (hn : (aget S.heads o.name).isSome = true) : Md.mdo S o = Md.commit S o.name := by
  rw [Md.mdo_k S o (by omega), if_neg (by simp [hn])]
  unfold Md.onB
  rw [if_pos hk]
/-- What a commit makes of it. -/
def Dx.com (x : Dx) (vv vb ve : Value) (n : Nm) (hd : Int) (s : Sl3) (l : List Pr) (i : Nat) : Dx :=
  { x with vv := vv, vb := vb, ve := ve, V := x.V ++ [⟨x.n, hd, 0, (l.length : Int)⟩], B := x.B.set i ⟨n, x.n⟩, E := x.E ++ [(s, l)], D := x.D.set i false, n := x.n + 1 }
theorem DocOk.commit (h : DocOk j S p x) {n : Nm} (hn : (aget S.heads n).isSome = true) (hx : S.next ≤ 1048576) {s : Sl3} (hheld : Held p (slv s) (Md.now S n)) (vv vb ve : Value) : DocOk (j + 1) (Md.commit S n).1 p (x.com vv vb ve n (Md.hget S n) s (Md.now S n) (Md.bplace x.B n)) where
  inv := Md.inv_commit h.inv n hn
  sim := by
    have := h.sim.commit h.inv hn hx
    unfold Dx.dv Dx.com at *
    simp only [List.map_append, List.map_cons, List.map_nil] at this ⊢
    exact this
  ok := ⟨fun y hy => by
    rcases List.mem_append.1 hy with hy | hy
    · exact h.ok.e y hy
    · rw [List.mem_singleton] at hy; subst hy; exact hheld, h.ok.q⟩
  ne := by
    have := h.ne
    unfold Dx.com
    simpa using this
set_option maxRecDepth 100000 in
set_option maxHeartbeats 16000000 in
theorem rcommit_any (y : OpX) (h3 : y.op.kind = 3) (hj : j ≤ 300) (ok : DocOk j S p x) {S' : St} {A : Md.An} (hm : Hid (Md.mdo S y.op = (S', A))) (H : Sat (DAt x * (Pool p * F)) w)
    (hh : ∀ x' p' w', x'.b = x.b → DocOk (j + 1) S' p' x' → Sat (DAt x' * (Pool p' * F)) w' → Io w w' → R (.returned (ansV A nil4)) w') :
    Calls Tryz.prog 54 #[x.ptr, opV y] w R := by
  have HH := Lib.hid hh
  clear hh
  have OK := Lib.hid ok
  obtain ⟨ea, ec, hve⟩ := DAt.shE H
  have HVE := Lib.hid hve
  have HVD := Lib.hid (fun hne => DAt.shD_ne hne H)
  clear hve
  have H00 : Sat (OpAt w.heap.size y * (DAt x * (Pool p * F))) (w.alloc (.cells (opC y) 41)) := H.new _
  have I00 : Io w (w.alloc (.cells (opC y) 41)) := (Io.refl w).alloc _
  have H0 := ansZ_new H00
  have I0 := I00.trans (io_ansZ _)
  have hr : (w.alloc (.cells (opC y) 41)).heap.size = w.heap.size + 1 := by simp
  rw [hr] at H0
  clear H00 I00 hr
  have FX := Lib.hid (ok.fit (by omega))
  have f2 := FX.out.b
  obtain ⟨bi, hbi⟩ : ∃ r, r = Md.bnum x.B y.op.name := ⟨_, rfl⟩
  have HBI := Lib.hid hbi
  rw [ok.bnum] at hbi
  have HBJ := Lib.hid hbi
  clear hbi
  have HZ := Lib.hid (fun (o : Nat) (G : Asn) W (hW : Sat (DAt x * (OpAt o y * G)) W) => (⟨(DAt.cells hW).1, (op_reads hW.right).2.1⟩ : W.cell? ⟨x.b, 0, none⟩ = some (lptr x.l) ∧ W.cell? ⟨o, 1, none⟩ = some (.string y.op.name)))
  go_enter Tryz.func54, Tryz.ntmps54
  go_upto_region 1 with fail
  generalize (w.alloc (.cells (opC y) 41)).alloc (.cells #[.int .i64 0, .int .i64 0, .bool false, .int .i64 0, .slice none 0 0, .slice none 0 0, .slice none 0 0, .slice none 0 0] 37) = w0 at *
  generalize w.heap.size + 1 = r at *
  generalize w.heap.size = o at *
  have H1 : Sat (DAt x * (OpAt o y * (ansZ r * (Pool p * F)))) w0 := H0.of_eq (by ac_rfl)
  have Z0 := HZ.out _ _ _ H1.drew
  have LL := DAt.asL H1.drew
  clear H0
  go_region_held3 (fun W => W.cell? ⟨x.b, 0, none⟩ = some (lptr x.l) ∧ W.cell? ⟨o, 1, none⟩ = some (.string y.op.name)) (first | exact Z0 | exact Z1) ((go_at_call 52; with_reducible refine rbranch_any y.op.name (by omega) LL HBI ?_; intro w1 H2 I2; have K2 := DAt.ofL H2; have Z1 := HZ.out _ _ _ K2))
  all_goals
    have hbi := HBJ.out
    clear Z0 Z1 LL H1 H2 HBI HBJ
    have I3 := I0.drew.trans I2
    have K4 : Sat (ansZ r * (OpAt o y * (DAt x * (Pool p * F)))) w1 := K2.of_eq (by ac_rfl)
    clear I0 I2
    by_cases hn : (aget S.heads y.op.name).isSome = true
    · rw [if_pos hn] at hbi
      have HMC := mdo_com h3 hn
      obtain ⟨i, hi, s, hidef, hs, hheld⟩ := ok.nowi hn
      have hlen := (ok.inv.now y.op.name).2
      have HID := Lib.hid hidef
      rw [← hidef] at hbi
      obtain ⟨sa, sn, sc⟩ := s
      obtain ⟨sa', sc', hsl⟩ := hheld.slice K4.right.right.right
      cases hsl
      have HHELD := Lib.hid hheld
      have HN := Lib.hid hn
      have HMC' := Lib.hid HMC
      obtain ⟨l, hl⟩ : ∃ l, l = Md.now S y.op.name := ⟨_, rfl⟩
      have HL := Lib.hid hl
      rw [← hl] at hlen hs
      have HS2 := Lib.hid hs
      have hnx : x.n = S.next := ok.sim.n
      have hnext := ok.inv.next
      rw [← hnx] at hnext
      have HNX := Lib.hid hnx
      obtain ⟨hd, hhd⟩ : ∃ hd, hd = Md.hget S y.op.name := ⟨_, rfl⟩
      have HHD := Lib.hid hhd
      have hbh : (x.B[i]'hi).head = hd := by
        have := ok.sim.head ok.inv (n := y.op.name) (by show Md.bplace x.B y.op.name < x.B.length; rw [← hidef]; exact hi)
        rw [hhd, ← this]
        simp only [hidef]
        rfl
      have hhr : 1 ≤ hd ∧ hd < x.n := by
        obtain ⟨q, hq⟩ := Option.isSome_iff_exists.1 hn
        have e : hd = q := by rw [hhd]; unfold Md.hget; rw [hq]; rfl
        rw [e, hnx]
        exact ok.inv.ids q (ok.inv.head _ q hq)
      have hvlt : ∀ v ∈ x.V, v.id < x.n := by
        intro v hv
        have e : x.V = Md.vlist S := ok.sim.v
        rw [e] at hv
        rw [hnx]
        exact Md.vlist_next ok.inv hv
      have HVLT := Lib.hid hvlt
      clear hs hheld HMC hn hl ok hnx hvlt hhd
      subst hbi
      have hi0 : ¬ (i : Int) < 0 := by omega
      have hi1 : (0 : Int) ≤ (i : Int) := by omega
      obtain ⟨c0, c1, c2, c3, c4⟩ := DAt.cells K2
      have hn2 : x.n ≤ 1048576 := by omega
      have q1 : 1 ≤ x.n ∧ x.n ≤ 1048576 := ⟨by omega, hn2⟩
      have q2 : 0 ≤ hd ∧ hd ≤ 1048576 := ⟨by omega, by omega⟩
      have q4 : 0 ≤ (l.length : Int) ∧ (l.length : Int) ≤ 4294967295 := ⟨by omega, by omega⟩
      have q5 : x.V.length ≤ 100000 := by have := FX.out.v; omega
      have HP := Lib.hid (⟨q1, q2, q4, q5⟩ : _ ∧ _ ∧ _ ∧ _)
      clear q1 q2 q4 q5
      have hmany : ¬ 1048576 < x.n := by omega
      have HBP : Hid (Md.bplace x.B y.op.name < x.B.length) := Lib.hid (by rw [← hidef]; exact hi)
      clear hidef
      go_upto_region 8 with (go_at_call 80; with_reducible refine rnow_any (s := (sa, l.length, sc)) i FX.out hi HS2 K2 ?_; intro w4 H5 I6; obtain ⟨e0, e1, e2, e3, e4⟩ := DAt.cells H5)
      have I7 := I3.trans I6
      clear c0 c1 c2 c3 c4 e0 e1 e2 e3 e4 I3 I6 K2 K4
      obtain ⟨bb, ob, cb, hvb, hgb⟩ := DAt.getB H5 (by omega) i hi
      rw [hbh] at hgb
      have hiB : (i : Int) < (x.B.length : Int) := by omega
      have HY := Lib.hid (fun (vv : Value) (V : List Md.Ver) (G : Asn) W (hW : Sat (LAt x.l vv x.vb V x.B * (DMC x * (DRows x * G))) W) => (by
        have h1 := LAt.cells hW
        have h2 := DMC.cells hW.right
        rw [hvb] at h1 hW
        refine ⟨h2.1, h1.2, ?_⟩
        have hr := LAt.readB hW (by omega)
        obtain ⟨b', off', nm, hd', e1, e2, e3⟩ := dreadsB_get hr i hi
        cases e1
        have := (e3 W hW).2
        rw [← hbh, e2]; exact this : W.cell? ⟨x.b, 0, none⟩ = some (lptr x.l) ∧ W.cell? ⟨x.l, 1, none⟩ = some (.slice (some ⟨bb, ob, none⟩) x.B.length cb) ∧ W.cell? ⟨bb, ob + i * 2 + 1, none⟩ = some (.int .i64 hd)))
      have LL := DAt.asL H5.drew
      have Z0 := HY.out _ _ _ _ LL
      clear hgb hvb
      go_region_held3 (fun W => W.cell? ⟨x.b, 0, none⟩ = some (lptr x.l) ∧ W.cell? ⟨x.l, 1, none⟩ = some (.slice (some ⟨bb, ob, none⟩) x.B.length cb) ∧ W.cell? ⟨bb, ob + i * 2 + 1, none⟩ = some (.int .i64 hd)) (first | exact Z0 | exact Z1) ((go_at_call 50; with_reducible refine rput_any (⟨x.n, hd, 0, (l.length : Int)⟩ : Md.Ver) HP.out.1 HP.out.2.1 rfl HP.out.2.2.1 HP.out.2.2.2 HVLT.out LL ?_; intro vv' w8 H8 I8; have Z1 := HY.out _ _ _ _ H8))
      all_goals
        clear Z0 Z1 HY LL H5
        have I9 := I7.drew.trans I8
        clear I7 I8
        obtain ⟨g2, gc2, hvd⟩ := HVD.out (by intro e; have := FX.out.d; rw [e] at this; simp at this; omega)
        have HZ1 := Lib.hid (fun (vb' : Value) (V' : List Md.Ver) (B' : List Md.Br) (G : Asn) W (hW : Sat (LAt x.l vv' vb' V' B' * (DMC x * (DRows x * (OpAt o y * G)))) W) => (⟨(DMC.cells hW.right).1, (op_reads hW.right.right.right).2.1⟩ : W.cell? ⟨x.b, 0, none⟩ = some (lptr x.l) ∧ W.cell? ⟨o, 1, none⟩ = some (.string y.op.name)))
        have Z0 := HZ1.out _ _ _ _ _ H8.drew
        have L8 := H8.drew
        have HPV : Hid (Md.vplace (x.V ++ [(⟨x.n, hd, 0, (l.length : Int)⟩ : Md.Ver)]) x.n < (x.V ++ [(⟨x.n, hd, 0, (l.length : Int)⟩ : Md.Ver)]).length ∧ (x.V ++ [(⟨x.n, hd, 0, (l.length : Int)⟩ : Md.Ver)]).length ≤ 100000) := Lib.hid ⟨Md.vplace_lt.2 ⟨⟨x.n, hd, 0, (l.length : Int)⟩, by simp, rfl⟩, by have := FX.out.v; simp; omega⟩
        go_upto_region 9 with fail
        go_region_held3 (fun W => W.cell? ⟨x.b, 0, none⟩ = some (lptr x.l) ∧ W.cell? ⟨o, 1, none⟩ = some (.string y.op.name)) (first | exact Z0 | exact Z1) ((go_at_call 84; with_reducible refine rmove_any y.op.name x.n HPV.out.2 (by omega) HBP.out HPV.out.1 L8 ?_; intro vb' w9 H9 I10; have Z1 := HZ1.out _ _ _ _ _ H9))
        all_goals
          clear Z0 Z1 HZ1 L8 H8
          have I11 := I9.drew.trans I10
          have K9 := DAt.setL H9
          rw [← HID.out] at K9
          clear I9 I10 H9
          have E9 := DAt.asE K9
          obtain ⟨f0, f1, f2', f3, f4, f5⟩ := DMC.cells E9.right.right
          simp only at E9 f0 f1 f2' f3 f4
          have hve := HVE.out
          rw [hve] at E9 f1
          have hel : (x.E.map (·.1)).length ≤ 1000000 := by rw [List.length_map]; have := FX.out.e; have := FX.out.v; omega
          have hid : i < x.D.length := by have := FX.out.d; omega
          have hidi : (i : Int) < (x.D.length : Int) := by omega
          have hns : x.n + 1 ≤ 9223372036854775807 := by omega
          go_wp2_with (first
            | (at_builtin; (refine wpList_append_rec Tryz.rowSl encSl_ok rfl (.tmp 63) (.tmp 65) rfl rfl E9 hel (sa, l.length, sc) rfl rfl ?_); intro ve' w10 H10 I12; go_loud ((
               obtain ⟨a10, c10, e10⟩ := rowOf_shape H10; rw [List.length_append, List.length_singleton, List.length_map] at e10; subst e10
               obtain ⟨g0, g1, g2', g3, g4, g5⟩ := DMC.cells H10.right.right
               simp only at g0 g1 g2' g3 g4
               have fr1 := g5 1
               simp only at fr1
               rw [show List.map (·.1) x.E ++ [(sa, l.length, sc)] = (x.E ++ [((sa, l.length, sc), l)]).map (·.1) from by rw [List.map_append]; rfl] at H10
               have M11 := DAt.storeE (x := { x with vv := vv', vb := vb', ve := .slice ea x.E.length ec, V := x.V ++ [⟨x.n, hd, 0, (l.length : Int)⟩], B := x.B.set i ⟨y.op.name, x.n⟩ }) (E' := x.E ++ [((sa, l.length, sc), l)]) H10
               simp only at M11
               obtain ⟨k0, k1, k2, k3, k4⟩ := DAt.cells (x := { x with vv := vv', vb := vb', ve := .slice a10 (x.E.length + 1) c10, V := x.V ++ [⟨x.n, hd, 0, (l.length : Int)⟩], B := x.B.set i ⟨y.op.name, x.n⟩, E := x.E ++ [((sa, l.length, sc), l)] }) M11
               simp only at k0 k1 k2 k3 k4
               have rd := DAt.readD (x := { x with vv := vv', vb := vb', ve := .slice a10 (x.E.length + 1) c10, V := x.V ++ [⟨x.n, hd, 0, (l.length : Int)⟩], B := x.B.set i ⟨y.op.name, x.n⟩, E := x.E ++ [((sa, l.length, sc), l)] }) hvd M11 i hid
               have fd := DAt.freeD (x := { x with vv := vv', vb := vb', ve := .slice a10 (x.E.length + 1) c10, V := x.V ++ [⟨x.n, hd, 0, (l.length : Int)⟩], B := x.B.set i ⟨y.op.name, x.n⟩, E := x.E ++ [((sa, l.length, sc), l)] }) hvd M11 i
               rw [hvd] at k3
               have M12 := DAt.storeD (x := { x with vv := vv', vb := vb', ve := .slice a10 (x.E.length + 1) c10, V := x.V ++ [⟨x.n, hd, 0, (l.length : Int)⟩], B := x.B.set i ⟨y.op.name, x.n⟩, E := x.E ++ [((sa, l.length, sc), l)] }) hvd M11 i hid false
               simp only at M12 rd fd
               obtain ⟨n0, n1, n2, n3, n4⟩ := DAt.cells (x := { x with vv := vv', vb := vb', ve := .slice a10 (x.E.length + 1) c10, V := x.V ++ [⟨x.n, hd, 0, (l.length : Int)⟩], B := x.B.set i ⟨y.op.name, x.n⟩, E := x.E ++ [((sa, l.length, sc), l)], D := x.D.set i false }) M12
               have fr4 := DAt.free (x := { x with vv := vv', vb := vb', ve := .slice a10 (x.E.length + 1) c10, V := x.V ++ [⟨x.n, hd, 0, (l.length : Int)⟩], B := x.B.set i ⟨y.op.name, x.n⟩, E := x.E ++ [((sa, l.length, sc), l)], D := x.D.set i false }) M12 4
               simp only at n0 n1 n2 n3 n4 fr4
               have M13 := DAt.storeN (x := { x with vv := vv', vb := vb', ve := .slice a10 (x.E.length + 1) c10, V := x.V ++ [⟨x.n, hd, 0, (l.length : Int)⟩], B := x.B.set i ⟨y.op.name, x.n⟩, E := x.E ++ [((sa, l.length, sc), l)], D := x.D.set i false }) M12 (x.n + 1)
               have K13 := M13.of_eq (show _ = ansZ r * (OpAt o y * (DAt (x.com vv' vb' (.slice a10 (x.E.length + 1) c10) y.op.name hd (sa, l.length, sc) l i) * (Pool p * F))) from by unfold Dx.com; ac_rfl)
               have I13 := (((I11.trans I12).setCell ⟨x.b, 1, none⟩ (.slice a10 (x.E.length + 1) c10)).setCell ⟨g2, i, none⟩ (.bool false)).setCell ⟨x.b, 4, none⟩ (.int .i64 (x.n + 1)))))
            | (with_reducible refine store_ans (A := { version := x.n }) rfl (.tmp 4) (.tmp 83) rfl rfl nil4_fit K13 rfl ?_; intro w6 H6 I6; obtain ⟨d0, d1, d2, d3, d4, d5, d6, d7⟩ := ansA_reads H6))
          have okk := OK.out.commit HN.out (by rw [← HNX.out]; exact hn2) (s := (sa, l.length, sc)) (by have := HHELD.out; rw [HL.out]; exact this) vv' vb' (.slice a10 (x.E.length + 1) c10)
          rw [← HL.out, ← HHD.out, ← HID.out] at okk
          obtain ⟨rfl, rfl⟩ : S' = (Md.commit S y.op.name).1 ∧ A = { version := x.n } := by
            have e := hm.out
            rw [HMC'.out] at e
            refine ⟨by rw [e], ?_⟩
            have e2 : (Md.commit S y.op.name).2 = A := by rw [e]
            rw [← e2]
            unfold Md.commit
            rw [if_neg (by rw [← HNX.out]; omega), HNX.out]
          exact bodyPost_ret (v := ansV { version := x.n } nil4) (by simp [results, Tryz.results54, go_sem, d0, d1, d2, d3, d4, d5, d6, d7]) rfl (HH.out (x.com vv' vb' (.slice a10 (x.E.length + 1) c10) y.op.name hd (sa, l.length, sc) l i) p _ rfl okk H6.right.right (I13.trans I6))
    · rw [if_neg hn] at hbi
      subst hbi
      obtain ⟨rfl, rfl⟩ : S' = S ∧ A = Md.fail 191 := by have e := hm.out; rw [mdo_none (by omega) hn] at e; cases e; exact ⟨rfl, rfl⟩
      go_wp2_with (first
        | (go_at_call 58; with_reducible refine rfail_any 191 K4 ?_; intro w7 H7 I7)
        | (with_reducible refine store_ans rfl (.tmp 4) (.tmp 17) rfl rfl nil4_fit H7 rfl ?_; intro w6 H6 I6; obtain ⟨d0, d1, d2, d3, d4, d5, d6, d7⟩ := ansA_reads H6))
      exact bodyPost_ret (v := ansV (Md.fail 191) nil4) (by simp [results, Tryz.results54, go_sem, d0, d1, d2, d3, d4, d5, d6, d7]) rfl (HH.out x p _ rfl (OK.out.mono (by omega)) H6.right.right ((I3.trans I7).trans I6))
end
end Go.Proofs.YtabpgejjnphfcaaGreat
