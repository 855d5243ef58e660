/-
  The document's model: ask, by its walk. It proves no statement by itself.
-/
import Derived.Test.YtabpgejjnphfcaaGreatKD11
namespace Go.Proofs.YtabpgejjnphfcaaGreat
open Go.RowKit
open Go.Lib
open Md (Nm St)
set_option linter.unusedSimpArgs false
set_option linter.unusedVariables false
set_option linter.unusedSectionVars false
/-- The rows of an answer read as it says. -/
def DReads (X : Asn) (A : Md.An) (s : Sl4) : Prop := ReadsC X s.c A.changes ∧ ReadsP X s.p A.pairs ∧ ReadsV X s.v A.versions ∧ ReadsB X s.b A.branches
theorem readsC_nil (X : Asn) : ReadsC X (.slice none 0 0) [] := ⟨none, 0, rfl, by simp, .inl rfl⟩
theorem readsP_nil (X : Asn) : ReadsP X (.slice none 0 0) [] := ⟨none, 0, rfl, by simp, .inl rfl⟩
theorem readsV_nil (X : Asn) : ReadsV X (.slice none 0 0) [] := ⟨none, 0, rfl, by simp, .inl rfl⟩
theorem readsB_nil (X : Asn) : ReadsB X (.slice none 0 0) [] := ⟨none, 0, rfl, by simp, .inl rfl⟩
theorem dreads_nil (X : Asn) {A : Md.An} (h1 : A.changes = []) (h2 : A.pairs = []) (h3 : A.versions = []) (h4 : A.branches = []) : DReads X A nil4 := by
  unfold DReads
  rw [h1, h2, h3, h4]
  exact ⟨readsC_nil X, readsP_nil X, readsV_nil X, readsB_nil X⟩
theorem diff_len1 (l m : List Pr) : (Eg.diff l m).length ≤ l.length + m.length := by
  rw [Md.diff_eq, List.length_map]
  have h1 := Eg.sort_len (Eg.minus l m ++ Eg.minus m l)
  have h2 := Eg.minus_le l m
  have h3 := Eg.minus_le m l
  rw [List.length_append] at h1
  omega
section
variable {F : Asn} {w : World} {R : Ending → World → Prop} {x : Dx} {S : St} {p : Pl} {j : Nat}
set_option maxRecDepth 100000 in
set_option maxHeartbeats 2000000 in
theorem rfindq_any {l : Nat} {vv vb : Value} {V : List Md.Ver} {B : List Md.Br} (id : Int) (hV : V.length ≤ 1000000) (H : Sat (LAt l vv vb V B * F) w) {r : Int} (hr : Hid (r = Md.vnum V id)) (h : R (.returned (.int .i64 r)) w) :
    Calls Tryz.prog 77 #[lptr l, .int .i64 id] w R := by
  obtain ⟨⟨a, c, rfl⟩, _⟩ := LAt.shape H
  have HC := Lib.hid (fun W (hW : Sat (LAt l (.slice a V.length c) vb V B * F) W) => LAt.cells hW)
  have HV := Lib.hid (fun k hk => dreadsV_get (LAt.readV H hV) k hk)
  have HH := Lib.hid h
  clear h
  go_enter Tryz.func77, Tryz.ntmps77
  go_wp2_with fail
  go_loopw [5] (fun x wr => ∃ (k : Nat), k ≤ V.length ∧ x = .int .i64 (k : Int) ∧ Hid (k ≤ Md.vplace V id) ∧ wr = w) (fun x _ => V.length - (RowKit.intOf x).toNat)
  case atStart => exact ⟨0, by omega, rfl, Lib.hid (Nat.zero_le _), rfl⟩
  case round =>
    obtain ⟨k, hk, rfl, hs, rfl⟩ := hrel
    have Hk := H
    obtain ⟨c0, c1⟩ := HC.out _ Hk
    by_cases hlt : k < V.length
    · have hlti : (k : Int) < (V.length : Int) := by omega
      have hk0 : (0 : Int) ≤ (k : Int) := by omega
      obtain ⟨b, off, i, p, q, e, rfl, hx, hc⟩ := HV.out k hlt
      obtain ⟨g0, g1, g2, g3⟩ := hc _ Hk
      by_cases he : i = id
      · subst he
        have e1 := Md.vplace_here hlt hs.out (by rw [hx])
        obtain rfl : r = (k : Int) := by rw [hr.out]; unfold Md.vnum; rw [e1, if_pos hlt]
        clear hc hx hs e1
        go_wp2_with fail
        exact HH.out
      · have hs' : Hid (k + 1 ≤ Md.vplace V id) := Lib.hid (Md.vplace_next hlt hs.out (by rw [hx]; exact he))
        clear hc hx hs
        go_wp2_with fail
        go_roundw
        case rel => exact ⟨k + 1, by omega, by go_num, hs', by trivial⟩
        case measure => simp [RowKit.intOf]; omega
    · obtain rfl : k = V.length := by omega
      have hge : ¬ (V.length : Int) < (V.length : Int) := by omega
      obtain rfl : r = -1 := by rw [hr.out]; unfold Md.vnum; rw [if_neg (by have := hs.out; omega)]
      clear HV hs
      go_wp2_with fail
      exact HH.out
theorem ask_none {S : St} {o : Md.Op} (h : ¬ (aget S.vers o.a).isSome = true) : Md.ask S o = Md.fail 190 := by
  unfold Md.ask
  rw [if_pos (.inl (by simpa using h))]
theorem ask_none8 {S : St} {o : Md.Op} (h8 : o.kind = 8) (h : ¬ (aget S.vers o.b).isSome = true) : Md.ask S o = Md.fail 190 := by
  unfold Md.ask
  rw [if_pos (.inr ⟨h8, by simpa using h⟩)]
theorem ask_8 {S : St} {o : Md.Op} (h8 : o.kind = 8) (ha : (aget S.vers o.a).isSome = true) (hb : (aget S.vers o.b).isSome = true) : Md.ask S o = { changes := Eg.diff (Md.vget S o.a).2 (Md.vget S o.b).2 } := by
  unfold Md.ask
  rw [if_neg (by rw [ha, hb]; simp), if_pos h8]
theorem ask_9 {S : St} {o : Md.Op} (h9 : o.kind = 9) (ha : (aget S.vers o.a).isSome = true) : Md.ask S o = if (Md.vtx o.u && Md.vtx o.v) = false then Md.fail 30 else { yes := decide (o.v ∈ Gr.members (Md.vget S o.a).2 o.u) } := by
  unfold Md.ask
  rw [if_neg (by rw [ha]; simp; omega), if_neg (by omega), if_pos h9]
theorem ask_10 {S : St} {o : Md.Op} (h9 : o.kind = 10) (ha : (aget S.vers o.a).isSome = true) : Md.ask S o = if Md.vtx o.u = false then Md.fail 30 else { count := ((Gr.members (Md.vget S o.a).2 o.u).length : Int) } := by
  unfold Md.ask
  rw [if_neg (by rw [ha]; simp; omega), if_neg (by omega), if_neg (by omega), if_pos h9]
theorem ask_11 {S : St} {o : Md.Op} (h9 : o.kind = 11) (ha : (aget S.vers o.a).isSome = true) : Md.ask S o = { pairs := (Md.vget S o.a).2 } := by
  unfold Md.ask
  rw [if_neg (by rw [ha]; simp; omega), if_neg (by omega), if_neg (by omega), if_neg (by omega)]
set_option maxRecDepth 100000 in
set_option maxHeartbeats 16000000 in
theorem rask_na (y : OpX) (ha : ¬ (aget S.vers y.op.a).isSome = true) (hj : j ≤ 300) (ok : DocOk j S p x) {A : Md.An} (hm : Hid (Md.ask S y.op = A)) (H : Sat (DAt x * (Pool p * F)) w)
    (hh : ∀ (G : Asn) (s : Sl4) w', Sat (G * (DAt x * (Pool p * F))) w' → DReads (G * (DAt x * Pool p)) A s → Io w w' → R (.returned (ansV A s)) w') :
    Calls Tryz.prog 57 #[x.ptr, opV y] w R := by
  have HH := Lib.hid hh
  clear hh
  have OK := Lib.hid ok
  have H00 : Sat (OpAt w.heap.size y * (DAt x * (Pool p * F))) (w.alloc (.cells (opC y) 41)) := H.new _
  have I00 : Io w (w.alloc (.cells (opC y) 41)) := (Io.refl w).alloc _
  have H0 := ansZ_new H00
  have I0 := I00.trans (io_ansZ _)
  have hr : (w.alloc (.cells (opC y) 41)).heap.size = w.heap.size + 1 := by simp
  rw [hr] at H0
  clear H00 I00 hr
  have FX := Lib.hid (ok.fit (by omega))
  have f1 := FX.out.v
  obtain ⟨ba, hba⟩ : ∃ r, r = Md.vnum x.V y.op.a := ⟨_, rfl⟩
  have HBA := Lib.hid hba
  rw [ok.vnum] at hba
  obtain ⟨bb, hbb⟩ : ∃ r, r = Md.vnum x.V y.op.b := ⟨_, rfl⟩
  have HBB := Lib.hid hbb
  rw [ok.vnum] at hbb
  have hVm : x.V.length ≤ 1000000 := by omega
  have HZ := Lib.hid (fun (o : Nat) (G : Asn) W (hW : Sat (LAt x.l x.vv x.vb x.V x.B * (DMC x * (DRows x * (OpAt o y * G)))) W) => (⟨(DMC.cells hW.right).1, (op_reads hW.right.right.right).1, (op_reads hW.right.right.right).2.2.2.2.1, (op_reads hW.right.right.right).2.2.2.2.2.1⟩ : W.cell? ⟨x.b, 0, none⟩ = some (lptr x.l) ∧ W.cell? ⟨o, 0, none⟩ = some (.int .i64 y.op.kind) ∧ W.cell? ⟨o, 4, none⟩ = some (.int .i64 y.op.a) ∧ W.cell? ⟨o, 5, none⟩ = some (.int .i64 y.op.b)))
  rw [if_neg ha] at hba
  subst hba
  obtain rfl : A = Md.fail 190 := by rw [← hm.out]; exact ask_none ha
  clear hbb HBB ok ha
  go_enter Tryz.func57, Tryz.ntmps57
  go_upto_region 1 with fail
  generalize (w.alloc (.cells (opC y) 41)).alloc (.cells #[.int .i64 0, .int .i64 0, .bool false, .int .i64 0, .slice none 0 0, .slice none 0 0, .slice none 0 0, .slice none 0 0] 37) = w0 at *
  generalize w.heap.size + 1 = r at *
  generalize w.heap.size = o at *
  have H1 : Sat (DAt x * (OpAt o y * (ansZ r * (Pool p * F)))) w0 := H0.of_eq (by ac_rfl)
  have LL := DAt.asL H1
  obtain ⟨z0, z1, z2, z3⟩ := HZ.out _ _ _ LL
  clear H0
  go_quiet (first | (go_at_call 77; with_reducible refine rfindq_any y.op.a hVm LL HBA ?_; exact ⟨rfl, _, rfl⟩) | (go_at_call 77; with_reducible refine rfindq_any y.op.b hVm LL HBB ?_; exact ⟨rfl, _, rfl⟩))
  have H2 := H1.drewN nq
  have I2 := I0.drewN nq
  generalize w0.drewN nq = w1 at *
  clear z0 z1 z2 z3 LL
  have K4 : Sat (ansZ r * (OpAt o y * (DAt x * (Pool p * F)))) _ := H2.of_eq (by ac_rfl)
  have I4 := I2
  go_wp2_with (first
    | (go_at_call 58; with_reducible refine rfail_any 190 K4 ?_; intro w7 H7 I7)
    | (with_reducible refine store_ans rfl (.tmp 4) (.tmp 31) rfl rfl nil4_fit H7 rfl ?_; intro w6 H6 I6; obtain ⟨d0, d1, d2, d3, d4, d5, d6, d7⟩ := ansA_reads H6))
  exact bodyPost_ret (v := ansV (Md.fail 190) nil4) (by simp [results, Tryz.results57, go_sem, d0, d1, d2, d3, d4, d5, d6, d7]) rfl (HH.out (ansA r (Md.fail 190) nil4 * OpAt o y) nil4 _ (H6.of_eq (by ac_rfl)) (dreads_nil _ rfl rfl rfl rfl) ((I4.trans I7).trans I6))
set_option maxRecDepth 100000 in
set_option maxHeartbeats 16000000 in
theorem rask_nb (y : OpX) (h8 : y.op.kind = 8) (ha : (aget S.vers y.op.a).isSome = true) (hb : ¬ (aget S.vers y.op.b).isSome = true) (hj : j ≤ 300) (ok : DocOk j S p x) {A : Md.An} (hm : Hid (Md.ask S y.op = A)) (H : Sat (DAt x * (Pool p * F)) w)
    (hh : ∀ (G : Asn) (s : Sl4) w', Sat (G * (DAt x * (Pool p * F))) w' → DReads (G * (DAt x * Pool p)) A s → Io w w' → R (.returned (ansV A s)) w') :
    Calls Tryz.prog 57 #[x.ptr, opV y] w R := by
  have HH := Lib.hid hh
  clear hh
  have OK := Lib.hid ok
  have H00 : Sat (OpAt w.heap.size y * (DAt x * (Pool p * F))) (w.alloc (.cells (opC y) 41)) := H.new _
  have I00 : Io w (w.alloc (.cells (opC y) 41)) := (Io.refl w).alloc _
  have H0 := ansZ_new H00
  have I0 := I00.trans (io_ansZ _)
  have hr : (w.alloc (.cells (opC y) 41)).heap.size = w.heap.size + 1 := by simp
  rw [hr] at H0
  clear H00 I00 hr
  have FX := Lib.hid (ok.fit (by omega))
  have f1 := FX.out.v
  obtain ⟨ba, hba⟩ : ∃ r, r = Md.vnum x.V y.op.a := ⟨_, rfl⟩
  have HBA := Lib.hid hba
  rw [ok.vnum] at hba
  obtain ⟨bb, hbb⟩ : ∃ r, r = Md.vnum x.V y.op.b := ⟨_, rfl⟩
  have HBB := Lib.hid hbb
  rw [ok.vnum] at hbb
  have hVm : x.V.length ≤ 1000000 := by omega
  have HZ := Lib.hid (fun (o : Nat) (G : Asn) W (hW : Sat (LAt x.l x.vv x.vb x.V x.B * (DMC x * (DRows x * (OpAt o y * G)))) W) => (⟨(DMC.cells hW.right).1, (op_reads hW.right.right.right).1, (op_reads hW.right.right.right).2.2.2.2.1, (op_reads hW.right.right.right).2.2.2.2.2.1⟩ : W.cell? ⟨x.b, 0, none⟩ = some (lptr x.l) ∧ W.cell? ⟨o, 0, none⟩ = some (.int .i64 y.op.kind) ∧ W.cell? ⟨o, 4, none⟩ = some (.int .i64 y.op.a) ∧ W.cell? ⟨o, 5, none⟩ = some (.int .i64 y.op.b)))
  rw [if_pos ha] at hba
  rw [if_neg hb] at hbb
  subst hbb
  obtain ⟨i, hi⟩ : ∃ i : Nat, i = Md.vplace x.V y.op.a := ⟨_, rfl⟩
  rw [← hi] at hba
  subst hba
  have hi0 : ¬ (i : Int) < 0 := by omega
  have hi1 : decide ((i : Int) < 0) = false := decide_eq_false hi0
  obtain rfl : A = Md.fail 190 := by rw [← hm.out]; exact ask_none8 h8 hb
  have hk8 : (y.op.kind == 8) = true := by simp [h8]
  clear ok ha hi hb
  go_enter Tryz.func57, Tryz.ntmps57
  go_upto_region 1 with fail
  generalize (w.alloc (.cells (opC y) 41)).alloc (.cells #[.int .i64 0, .int .i64 0, .bool false, .int .i64 0, .slice none 0 0, .slice none 0 0, .slice none 0 0, .slice none 0 0] 37) = w0 at *
  generalize w.heap.size + 1 = r at *
  generalize w.heap.size = o at *
  have H1 : Sat (DAt x * (OpAt o y * (ansZ r * (Pool p * F)))) w0 := H0.of_eq (by ac_rfl)
  have LL := DAt.asL H1
  obtain ⟨z0, z1, z2, z3⟩ := HZ.out _ _ _ LL
  clear H0
  go_quiet (first | (go_at_call 77; with_reducible refine rfindq_any y.op.a hVm LL HBA ?_; exact ⟨rfl, _, rfl⟩) | (go_at_call 77; with_reducible refine rfindq_any y.op.b hVm LL HBB ?_; exact ⟨rfl, _, rfl⟩))
  have H2 := H1.drewN nq
  have I2 := I0.drewN nq
  generalize w0.drewN nq = w1 at *
  clear z0 z1 z2 z3 LL
  have K4 : Sat (ansZ r * (OpAt o y * (DAt x * (Pool p * F)))) _ := H2.of_eq (by ac_rfl)
  have I4 := I2
  go_wp2_with (first
    | (go_at_call 58; with_reducible refine rfail_any 190 K4 ?_; intro w7 H7 I7)
    | (with_reducible refine store_ans rfl (.tmp 4) (.tmp 31) rfl rfl nil4_fit H7 rfl ?_; intro w6 H6 I6; obtain ⟨d0, d1, d2, d3, d4, d5, d6, d7⟩ := ansA_reads H6))
  exact bodyPost_ret (v := ansV (Md.fail 190) nil4) (by simp [results, Tryz.results57, go_sem, d0, d1, d2, d3, d4, d5, d6, d7]) rfl (HH.out (ansA r (Md.fail 190) nil4 * OpAt o y) nil4 _ (H6.of_eq (by ac_rfl)) (dreads_nil _ rfl rfl rfl rfl) ((I4.trans I7).trans I6))
set_option maxRecDepth 100000 in
set_option maxHeartbeats 16000000 in
theorem rask_9 (y : OpX) (h9 : y.op.kind = 9) (ha : (aget S.vers y.op.a).isSome = true) (hj : j ≤ 300) (ok : DocOk j S p x) {A : Md.An} (hm : Hid (Md.ask S y.op = A)) (H : Sat (DAt x * (Pool p * F)) w)
    (hh : ∀ (G : Asn) (s : Sl4) w', Sat (G * (DAt x * (Pool p * F))) w' → DReads (G * (DAt x * Pool p)) A s → Io w w' → R (.returned (ansV A s)) w') :
    Calls Tryz.prog 57 #[x.ptr, opV y] w R := by
  have HH := Lib.hid hh
  clear hh
  have OK := Lib.hid ok
  have H00 : Sat (OpAt w.heap.size y * (DAt x * (Pool p * F))) (w.alloc (.cells (opC y) 41)) := H.new _
  have I00 : Io w (w.alloc (.cells (opC y) 41)) := (Io.refl w).alloc _
  have H0 := ansZ_new H00
  have I0 := I00.trans (io_ansZ _)
  have hr : (w.alloc (.cells (opC y) 41)).heap.size = w.heap.size + 1 := by simp
  rw [hr] at H0
  clear H00 I00 hr
  have FX := Lib.hid (ok.fit (by omega))
  have f1 := FX.out.v
  obtain ⟨ba, hba⟩ : ∃ r, r = Md.vnum x.V y.op.a := ⟨_, rfl⟩
  have HBA := Lib.hid hba
  rw [ok.vnum] at hba
  obtain ⟨bb, hbb⟩ : ∃ r, r = Md.vnum x.V y.op.b := ⟨_, rfl⟩
  have HBB := Lib.hid hbb
  rw [ok.vnum] at hbb
  have hVm : x.V.length ≤ 1000000 := by omega
  have HZ := Lib.hid (fun (o : Nat) (G : Asn) W (hW : Sat (LAt x.l x.vv x.vb x.V x.B * (DMC x * (DRows x * (OpAt o y * G)))) W) => (⟨(DMC.cells hW.right).1, (op_reads hW.right.right.right).1, (op_reads hW.right.right.right).2.2.2.2.1, (op_reads hW.right.right.right).2.2.2.2.2.1⟩ : W.cell? ⟨x.b, 0, none⟩ = some (lptr x.l) ∧ W.cell? ⟨o, 0, none⟩ = some (.int .i64 y.op.kind) ∧ W.cell? ⟨o, 4, none⟩ = some (.int .i64 y.op.a) ∧ W.cell? ⟨o, 5, none⟩ = some (.int .i64 y.op.b)))
  rw [if_pos ha] at hba
  obtain ⟨i, hi⟩ : ∃ i : Nat, i = Md.vplace x.V y.op.a := ⟨_, rfl⟩
  rw [← hi] at hba
  subst hba
  have hi0 : ¬ (i : Int) < 0 := by omega
  have hi1 : decide ((i : Int) < 0) = false := decide_eq_false hi0
  obtain ⟨s, hs, hheld⟩ := ok.of ha
  obtain ⟨sa, sn, sc⟩ := s
  obtain ⟨sa', sc', hsl⟩ := hheld.slice H.right
  cases hsl
  have hlen : (Md.vget S y.op.a).2.length ≤ 300 := by
    obtain ⟨q, hq⟩ := Option.isSome_iff_exists.1 ha
    obtain ⟨q1, q2⟩ := q
    have := (ok.inv.goodV _ q1 q2 hq).2
    unfold Md.vget
    rw [hq]
    simp only [Option.getD_some]
    omega
  have h1 := (ok.vsome y.op.a).2 ha
  have R1 := Lib.hid (fun (G : Asn) W (hW : Sat (Pool p * G) W) => hheld.reads (by omega) hW)
  simp only [slv] at R1
  have HS := Lib.hid hs
  obtain ⟨l, hl⟩ : ∃ l, l = (Md.vget S y.op.a).2 := ⟨_, rfl⟩
  have HL := Lib.hid hl
  have HA := Lib.hid ha
  rw [← hl] at R1 hlen HS
  have hk8 : ¬ y.op.kind = 8 := by omega
  have hk8b : (y.op.kind == 8) = false := by simp [hk8]
  have hk8c : decide (y.op.kind = 8) = false := decide_eq_false hk8
  obtain ⟨tu, htu⟩ : ∃ d, d = Md.vtx y.op.u := ⟨_, rfl⟩
  have HTU := Lib.hid htu
  obtain ⟨tv, htv⟩ : ∃ d, d = Md.vtx y.op.v := ⟨_, rfl⟩
  have HTV := Lib.hid htv
  clear hbb HBB ok ha hi hs hheld hl htu htv
  have hk10 : ¬ y.op.kind = 10 := by omega
  have hk10b : (y.op.kind == 10) = false := by simp [hk10]
  have hk11 : ¬ y.op.kind = 11 := by omega
  have hk11b : (y.op.kind == 11) = false := by simp [hk11]
  have hkk : (y.op.kind == 9) = true := by simp [h9]

  go_enter Tryz.func57, Tryz.ntmps57
  go_upto_region 1 with fail
  generalize (w.alloc (.cells (opC y) 41)).alloc (.cells #[.int .i64 0, .int .i64 0, .bool false, .int .i64 0, .slice none 0 0, .slice none 0 0, .slice none 0 0, .slice none 0 0] 37) = w0 at *
  generalize w.heap.size + 1 = r at *
  generalize w.heap.size = o at *
  have H1 : Sat (DAt x * (OpAt o y * (ansZ r * (Pool p * F)))) w0 := H0.of_eq (by ac_rfl)
  have LL := DAt.asL H1
  obtain ⟨z0, z1, z2, z3⟩ := HZ.out _ _ _ LL
  clear H0
  go_quiet (first | (go_at_call 77; with_reducible refine rfindq_any y.op.a hVm LL HBA ?_; exact ⟨rfl, _, rfl⟩) | (go_at_call 77; with_reducible refine rfindq_any y.op.b hVm LL HBB ?_; exact ⟨rfl, _, rfl⟩))
  have H2 := H1.drewN nq
  have I2 := I0.drewN nq
  generalize w0.drewN nq = w1 at *
  clear z0 z1 z2 z3 LL
  have K2 := H2
  have I3 := I2
  obtain ⟨x0, x1, x2, x3, x4, x5, x6, x7, x8, x9⟩ := op_reads K2.right
  go_upto_region 6 with (first
    | (go_at_call 86; with_reducible refine rof_any (s := (sa, l.length, sc)) y.op.a FX.out h1 HS K2 ?_; intro w3 H3 I4; obtain ⟨y0, y1, y2, y3, y4, y5, y6, y7, y8, y9⟩ := op_reads H3.right)
    | (go_at_call 87; first
      | (with_reducible refine rvtx_any y.op.u H3 HTU ?_; intro w4 H4 I5; obtain ⟨z0, z1, z2, z3, z4, z5, z6, z7, z8, z9⟩ := op_reads H4.right)
      | (with_reducible refine rvtx_any y.op.v H4 HTV ?_; intro w5 H5 I6)))
  have I7 := ((I3.trans I4).trans I5).trans I6
  clear x0 x1 x2 x3 x4 x5 x6 x7 x8 x9 y0 y1 y2 y3 y4 y5 y6 y7 y8 y9 z0 z1 z2 z3 z4 z5 z6 z7 z8 z9 H4 H3 H2 K2 I3 I4 I5 I6
  obtain ⟨x0, x1, x2, x3, x4, x5, x6, x7, x8, x9⟩ := op_reads H5.right
  have K5 : Sat (ansZ r * (OpAt o y * (DAt x * (Pool p * F)))) w5 := H5.of_eq (by ac_rfl)
  have P5 : Sat (Pool p * (ansZ r * (OpAt o y * (DAt x * F)))) w5 := H5.of_eq (by ac_rfl)
  have rx := R1.out _ _ P5
  cases tu with
  | false =>
    obtain rfl : A = Md.fail 30 := by rw [← hm.out]; rw [ask_9 h9 HA.out, ← HTU.out]; rfl
    clear hm
    go_wp2_with (first
      | (go_at_call 58; with_reducible refine rfail_any 30 K5 ?_; intro w7 H7 I8)
      | (with_reducible refine store_ans rfl (.tmp 4) (.tmp 61) rfl rfl nil4_fit H7 rfl ?_; intro w6 H6 I6; obtain ⟨d0, d1, d2, d3, d4, d5, d6, d7⟩ := ansA_reads H6))
    exact bodyPost_ret (v := ansV (Md.fail 30) nil4) (by simp [results, Tryz.results57, go_sem, d0, d1, d2, d3, d4, d5, d6, d7]) rfl (HH.out (ansA r (Md.fail 30) nil4 * OpAt o y) nil4 _ (H6.of_eq (by ac_rfl)) (dreads_nil _ rfl rfl rfl rfl) ((I7.trans I8).trans I6))
  | true =>
    cases tv with
    | false =>
      obtain rfl : A = Md.fail 30 := by rw [← hm.out]; rw [ask_9 h9 HA.out, ← HTU.out, ← HTV.out]; rfl
      clear hm
      go_wp2_with (first
        | (go_at_call 58; with_reducible refine rfail_any 30 K5 ?_; intro w7 H7 I8)
        | (with_reducible refine store_ans rfl (.tmp 4) (.tmp 61) rfl rfl nil4_fit H7 rfl ?_; intro w6 H6 I6; obtain ⟨d0, d1, d2, d3, d4, d5, d6, d7⟩ := ansA_reads H6))
      exact bodyPost_ret (v := ansV (Md.fail 30) nil4) (by simp [results, Tryz.results57, go_sem, d0, d1, d2, d3, d4, d5, d6, d7]) rfl (HH.out (ansA r (Md.fail 30) nil4 * OpAt o y) nil4 _ (H6.of_eq (by ac_rfl)) (dreads_nil _ rfl rfl rfl rfl) ((I7.trans I8).trans I6))
    | true =>
      obtain ⟨d, hd⟩ : ∃ d, d = decide (y.op.v ∈ Gr.members l y.op.u) := ⟨_, rfl⟩
      have HD := Lib.hid hd
      clear hd
      obtain rfl : A = { yes := d } := by rw [← hm.out, ask_9 h9 HA.out, ← HTU.out, ← HTV.out, HD.out, HL.out]; rfl
      clear hm
      go_wp2_with (first
        | (go_at_call 12; with_reducible refine rjoined_any rx (by omega) y.op.u y.op.v HD P5 ?_; intro w7 H7 I8; have K7 : Sat (ansZ r * (OpAt o y * (DAt x * (Pool p * F)))) w7 := H7.of_eq (by ac_rfl))
        | (with_reducible refine store_ans (A := { yes := d }) rfl (.tmp 4) (.tmp 68) rfl rfl nil4_fit K7 rfl ?_; intro w6 H6 I6; obtain ⟨d0, d1, d2, d3, d4, d5, d6, d7⟩ := ansA_reads H6))
      exact bodyPost_ret (v := ansV { yes := d } nil4) (by simp [results, Tryz.results57, go_sem, d0, d1, d2, d3, d4, d5, d6, d7]) rfl (HH.out (ansA r { yes := d } nil4 * OpAt o y) nil4 _ (H6.of_eq (by ac_rfl)) (dreads_nil _ rfl rfl rfl rfl) ((I7.trans I8).trans I6))

set_option maxRecDepth 100000 in
set_option maxHeartbeats 16000000 in
theorem rask_10 (y : OpX) (h9 : y.op.kind = 10) (ha : (aget S.vers y.op.a).isSome = true) (hj : j ≤ 300) (ok : DocOk j S p x) {A : Md.An} (hm : Hid (Md.ask S y.op = A)) (H : Sat (DAt x * (Pool p * F)) w)
    (hh : ∀ (G : Asn) (s : Sl4) w', Sat (G * (DAt x * (Pool p * F))) w' → DReads (G * (DAt x * Pool p)) A s → Io w w' → R (.returned (ansV A s)) w') :
    Calls Tryz.prog 57 #[x.ptr, opV y] w R := by
  have HH := Lib.hid hh
  clear hh
  have OK := Lib.hid ok
  have H00 : Sat (OpAt w.heap.size y * (DAt x * (Pool p * F))) (w.alloc (.cells (opC y) 41)) := H.new _
  have I00 : Io w (w.alloc (.cells (opC y) 41)) := (Io.refl w).alloc _
  have H0 := ansZ_new H00
  have I0 := I00.trans (io_ansZ _)
  have hr : (w.alloc (.cells (opC y) 41)).heap.size = w.heap.size + 1 := by simp
  rw [hr] at H0
  clear H00 I00 hr
  have FX := Lib.hid (ok.fit (by omega))
  have f1 := FX.out.v
  obtain ⟨ba, hba⟩ : ∃ r, r = Md.vnum x.V y.op.a := ⟨_, rfl⟩
  have HBA := Lib.hid hba
  rw [ok.vnum] at hba
  obtain ⟨bb, hbb⟩ : ∃ r, r = Md.vnum x.V y.op.b := ⟨_, rfl⟩
  have HBB := Lib.hid hbb
  rw [ok.vnum] at hbb
  have hVm : x.V.length ≤ 1000000 := by omega
  have HZ := Lib.hid (fun (o : Nat) (G : Asn) W (hW : Sat (LAt x.l x.vv x.vb x.V x.B * (DMC x * (DRows x * (OpAt o y * G)))) W) => (⟨(DMC.cells hW.right).1, (op_reads hW.right.right.right).1, (op_reads hW.right.right.right).2.2.2.2.1, (op_reads hW.right.right.right).2.2.2.2.2.1⟩ : W.cell? ⟨x.b, 0, none⟩ = some (lptr x.l) ∧ W.cell? ⟨o, 0, none⟩ = some (.int .i64 y.op.kind) ∧ W.cell? ⟨o, 4, none⟩ = some (.int .i64 y.op.a) ∧ W.cell? ⟨o, 5, none⟩ = some (.int .i64 y.op.b)))
  rw [if_pos ha] at hba
  obtain ⟨i, hi⟩ : ∃ i : Nat, i = Md.vplace x.V y.op.a := ⟨_, rfl⟩
  rw [← hi] at hba
  subst hba
  have hi0 : ¬ (i : Int) < 0 := by omega
  have hi1 : decide ((i : Int) < 0) = false := decide_eq_false hi0
  obtain ⟨s, hs, hheld⟩ := ok.of ha
  obtain ⟨sa, sn, sc⟩ := s
  obtain ⟨sa', sc', hsl⟩ := hheld.slice H.right
  cases hsl
  have hlen : (Md.vget S y.op.a).2.length ≤ 300 := by
    obtain ⟨q, hq⟩ := Option.isSome_iff_exists.1 ha
    obtain ⟨q1, q2⟩ := q
    have := (ok.inv.goodV _ q1 q2 hq).2
    unfold Md.vget
    rw [hq]
    simp only [Option.getD_some]
    omega
  have h1 := (ok.vsome y.op.a).2 ha
  have R1 := Lib.hid (fun (G : Asn) W (hW : Sat (Pool p * G) W) => hheld.reads (by omega) hW)
  simp only [slv] at R1
  have HS := Lib.hid hs
  obtain ⟨l, hl⟩ : ∃ l, l = (Md.vget S y.op.a).2 := ⟨_, rfl⟩
  have HL := Lib.hid hl
  have HA := Lib.hid ha
  rw [← hl] at R1 hlen HS
  have hk8 : ¬ y.op.kind = 8 := by omega
  have hk8b : (y.op.kind == 8) = false := by simp [hk8]
  have hk8c : decide (y.op.kind = 8) = false := decide_eq_false hk8
  obtain ⟨tu, htu⟩ : ∃ d, d = Md.vtx y.op.u := ⟨_, rfl⟩
  have HTU := Lib.hid htu
  obtain ⟨tv, htv⟩ : ∃ d, d = Md.vtx y.op.v := ⟨_, rfl⟩
  have HTV := Lib.hid htv
  clear hbb HBB ok ha hi hs hheld hl htu htv
  have hk9 : ¬ y.op.kind = 9 := by omega
  have hk9b : (y.op.kind == 9) = false := by simp [hk9]
  have hk11 : ¬ y.op.kind = 11 := by omega
  have hk11b : (y.op.kind == 11) = false := by simp [hk11]
  have hkk : (y.op.kind == 10) = true := by simp [h9]

  go_enter Tryz.func57, Tryz.ntmps57
  go_upto_region 1 with fail
  generalize (w.alloc (.cells (opC y) 41)).alloc (.cells #[.int .i64 0, .int .i64 0, .bool false, .int .i64 0, .slice none 0 0, .slice none 0 0, .slice none 0 0, .slice none 0 0] 37) = w0 at *
  generalize w.heap.size + 1 = r at *
  generalize w.heap.size = o at *
  have H1 : Sat (DAt x * (OpAt o y * (ansZ r * (Pool p * F)))) w0 := H0.of_eq (by ac_rfl)
  have LL := DAt.asL H1
  obtain ⟨z0, z1, z2, z3⟩ := HZ.out _ _ _ LL
  clear H0
  go_quiet (first | (go_at_call 77; with_reducible refine rfindq_any y.op.a hVm LL HBA ?_; exact ⟨rfl, _, rfl⟩) | (go_at_call 77; with_reducible refine rfindq_any y.op.b hVm LL HBB ?_; exact ⟨rfl, _, rfl⟩))
  have H2 := H1.drewN nq
  have I2 := I0.drewN nq
  generalize w0.drewN nq = w1 at *
  clear z0 z1 z2 z3 LL
  have K2 := H2
  have I3 := I2
  obtain ⟨x0, x1, x2, x3, x4, x5, x6, x7, x8, x9⟩ := op_reads K2.right
  go_upto_region 6 with (first
    | (go_at_call 86; with_reducible refine rof_any (s := (sa, l.length, sc)) y.op.a FX.out h1 HS K2 ?_; intro w3 H3 I4; obtain ⟨y0, y1, y2, y3, y4, y5, y6, y7, y8, y9⟩ := op_reads H3.right)
    | (go_at_call 87; first
      | (with_reducible refine rvtx_any y.op.u H3 HTU ?_; intro w4 H4 I5; obtain ⟨z0, z1, z2, z3, z4, z5, z6, z7, z8, z9⟩ := op_reads H4.right)
      | (with_reducible refine rvtx_any y.op.v H4 HTV ?_; intro w5 H5 I6)))
  have I7 := ((I3.trans I4).trans I5).trans I6
  clear x0 x1 x2 x3 x4 x5 x6 x7 x8 x9 y0 y1 y2 y3 y4 y5 y6 y7 y8 y9 z0 z1 z2 z3 z4 z5 z6 z7 z8 z9 H4 H3 H2 K2 I3 I4 I5 I6
  obtain ⟨x0, x1, x2, x3, x4, x5, x6, x7, x8, x9⟩ := op_reads H5.right
  have K5 : Sat (ansZ r * (OpAt o y * (DAt x * (Pool p * F)))) w5 := H5.of_eq (by ac_rfl)
  have P5 : Sat (Pool p * (ansZ r * (OpAt o y * (DAt x * F)))) w5 := H5.of_eq (by ac_rfl)
  have rx := R1.out _ _ P5
  cases tu with
  | false =>
    obtain rfl : A = Md.fail 30 := by rw [← hm.out]; rw [ask_10 h9 HA.out, ← HTU.out]; rfl
    clear hm
    go_wp2_with (first
      | (go_at_call 58; with_reducible refine rfail_any 30 K5 ?_; intro w7 H7 I8)
      | (with_reducible refine store_ans rfl (.tmp 4) (.tmp 73) rfl rfl nil4_fit H7 rfl ?_; intro w6 H6 I6; obtain ⟨d0, d1, d2, d3, d4, d5, d6, d7⟩ := ansA_reads H6))
    exact bodyPost_ret (v := ansV (Md.fail 30) nil4) (by simp [results, Tryz.results57, go_sem, d0, d1, d2, d3, d4, d5, d6, d7]) rfl (HH.out (ansA r (Md.fail 30) nil4 * OpAt o y) nil4 _ (H6.of_eq (by ac_rfl)) (dreads_nil _ rfl rfl rfl rfl) ((I7.trans I8).trans I6))
  | true =>
    obtain ⟨n, hn⟩ : ∃ n, n = (Gr.members l y.op.u).length := ⟨_, rfl⟩
    have HD := Lib.hid hn
    clear hn
    obtain rfl : A = { count := (n : Int) } := by rw [← hm.out, ask_10 h9 HA.out, ← HTU.out, HD.out, HL.out]; rfl
    clear hm
    go_wp2_with (first
      | (go_at_call 14; with_reducible refine rmembers_any rx (by omega) y.op.u P5 ?_; intro v7 w7 H7 I8; obtain ⟨a7, c7, e7⟩ := rowOf_shape H7; rw [← HD.out] at e7; subst e7; have K7 : Sat (ansZ r * (OpAt o y * (DAt x * (Pool p * F)))) w7 := H7.right.of_eq (by ac_rfl))
      | (with_reducible refine store_ans (A := { count := (n : Int) }) rfl (.tmp 4) (.tmp 79) rfl rfl nil4_fit K7 rfl ?_; intro w6 H6 I6; obtain ⟨d0, d1, d2, d3, d4, d5, d6, d7⟩ := ansA_reads H6))
    exact bodyPost_ret (v := ansV { count := (n : Int) } nil4) (by simp [results, Tryz.results57, go_sem, d0, d1, d2, d3, d4, d5, d6, d7]) rfl (HH.out (ansA r { count := (n : Int) } nil4 * OpAt o y) nil4 _ (H6.of_eq (by ac_rfl)) (dreads_nil _ rfl rfl rfl rfl) ((I7.trans I8).trans I6))

set_option maxRecDepth 100000 in
set_option maxHeartbeats 16000000 in
theorem rask_11 (y : OpX) (h9 : y.op.kind = 11) (ha : (aget S.vers y.op.a).isSome = true) (hj : j ≤ 300) (ok : DocOk j S p x) {A : Md.An} (hm : Hid (Md.ask S y.op = A)) (H : Sat (DAt x * (Pool p * F)) w)
    (hh : ∀ (G : Asn) (s : Sl4) w', Sat (G * (DAt x * (Pool p * F))) w' → DReads (G * (DAt x * Pool p)) A s → Io w w' → R (.returned (ansV A s)) w') :
    Calls Tryz.prog 57 #[x.ptr, opV y] w R := by
  have HH := Lib.hid hh
  clear hh
  have OK := Lib.hid ok
  have H00 : Sat (OpAt w.heap.size y * (DAt x * (Pool p * F))) (w.alloc (.cells (opC y) 41)) := H.new _
  have I00 : Io w (w.alloc (.cells (opC y) 41)) := (Io.refl w).alloc _
  have H0 := ansZ_new H00
  have I0 := I00.trans (io_ansZ _)
  have hr : (w.alloc (.cells (opC y) 41)).heap.size = w.heap.size + 1 := by simp
  rw [hr] at H0
  clear H00 I00 hr
  have FX := Lib.hid (ok.fit (by omega))
  have f1 := FX.out.v
  obtain ⟨ba, hba⟩ : ∃ r, r = Md.vnum x.V y.op.a := ⟨_, rfl⟩
  have HBA := Lib.hid hba
  rw [ok.vnum] at hba
  obtain ⟨bb, hbb⟩ : ∃ r, r = Md.vnum x.V y.op.b := ⟨_, rfl⟩
  have HBB := Lib.hid hbb
  rw [ok.vnum] at hbb
  have hVm : x.V.length ≤ 1000000 := by omega
  have HZ := Lib.hid (fun (o : Nat) (G : Asn) W (hW : Sat (LAt x.l x.vv x.vb x.V x.B * (DMC x * (DRows x * (OpAt o y * G)))) W) => (⟨(DMC.cells hW.right).1, (op_reads hW.right.right.right).1, (op_reads hW.right.right.right).2.2.2.2.1, (op_reads hW.right.right.right).2.2.2.2.2.1⟩ : W.cell? ⟨x.b, 0, none⟩ = some (lptr x.l) ∧ W.cell? ⟨o, 0, none⟩ = some (.int .i64 y.op.kind) ∧ W.cell? ⟨o, 4, none⟩ = some (.int .i64 y.op.a) ∧ W.cell? ⟨o, 5, none⟩ = some (.int .i64 y.op.b)))
  rw [if_pos ha] at hba
  obtain ⟨i, hi⟩ : ∃ i : Nat, i = Md.vplace x.V y.op.a := ⟨_, rfl⟩
  rw [← hi] at hba
  subst hba
  have hi0 : ¬ (i : Int) < 0 := by omega
  have hi1 : decide ((i : Int) < 0) = false := decide_eq_false hi0
  obtain ⟨s, hs, hheld⟩ := ok.of ha
  obtain ⟨sa, sn, sc⟩ := s
  obtain ⟨sa', sc', hsl⟩ := hheld.slice H.right
  cases hsl
  have hlen : (Md.vget S y.op.a).2.length ≤ 300 := by
    obtain ⟨q, hq⟩ := Option.isSome_iff_exists.1 ha
    obtain ⟨q1, q2⟩ := q
    have := (ok.inv.goodV _ q1 q2 hq).2
    unfold Md.vget
    rw [hq]
    simp only [Option.getD_some]
    omega
  have h1 := (ok.vsome y.op.a).2 ha
  have R1 := Lib.hid (fun (G : Asn) W (hW : Sat (Pool p * G) W) => hheld.reads (by omega) hW)
  simp only [slv] at R1
  have HS := Lib.hid hs
  obtain ⟨l, hl⟩ : ∃ l, l = (Md.vget S y.op.a).2 := ⟨_, rfl⟩
  have HL := Lib.hid hl
  have HA := Lib.hid ha
  rw [← hl] at R1 hlen HS
  have hk8 : ¬ y.op.kind = 8 := by omega
  have hk8b : (y.op.kind == 8) = false := by simp [hk8]
  have hk8c : decide (y.op.kind = 8) = false := decide_eq_false hk8
  obtain ⟨tu, htu⟩ : ∃ d, d = Md.vtx y.op.u := ⟨_, rfl⟩
  have HTU := Lib.hid htu
  obtain ⟨tv, htv⟩ : ∃ d, d = Md.vtx y.op.v := ⟨_, rfl⟩
  have HTV := Lib.hid htv
  clear hbb HBB ok ha hi hs hheld hl htu htv
  have hk9 : ¬ y.op.kind = 9 := by omega
  have hk9b : (y.op.kind == 9) = false := by simp [hk9]
  have hk10 : ¬ y.op.kind = 10 := by omega
  have hk10b : (y.op.kind == 10) = false := by simp [hk10]
  have hkk : (y.op.kind == 11) = true := by simp [h9]

  go_enter Tryz.func57, Tryz.ntmps57
  go_upto_region 1 with fail
  generalize (w.alloc (.cells (opC y) 41)).alloc (.cells #[.int .i64 0, .int .i64 0, .bool false, .int .i64 0, .slice none 0 0, .slice none 0 0, .slice none 0 0, .slice none 0 0] 37) = w0 at *
  generalize w.heap.size + 1 = r at *
  generalize w.heap.size = o at *
  have H1 : Sat (DAt x * (OpAt o y * (ansZ r * (Pool p * F)))) w0 := H0.of_eq (by ac_rfl)
  have LL := DAt.asL H1
  obtain ⟨z0, z1, z2, z3⟩ := HZ.out _ _ _ LL
  clear H0
  go_quiet (first | (go_at_call 77; with_reducible refine rfindq_any y.op.a hVm LL HBA ?_; exact ⟨rfl, _, rfl⟩) | (go_at_call 77; with_reducible refine rfindq_any y.op.b hVm LL HBB ?_; exact ⟨rfl, _, rfl⟩))
  have H2 := H1.drewN nq
  have I2 := I0.drewN nq
  generalize w0.drewN nq = w1 at *
  clear z0 z1 z2 z3 LL
  have K2 := H2
  have I3 := I2
  obtain ⟨x0, x1, x2, x3, x4, x5, x6, x7, x8, x9⟩ := op_reads K2.right
  go_upto_region 6 with (first
    | (go_at_call 86; with_reducible refine rof_any (s := (sa, l.length, sc)) y.op.a FX.out h1 HS K2 ?_; intro w3 H3 I4; obtain ⟨y0, y1, y2, y3, y4, y5, y6, y7, y8, y9⟩ := op_reads H3.right)
    | (go_at_call 87; first
      | (with_reducible refine rvtx_any y.op.u H3 HTU ?_; intro w4 H4 I5; obtain ⟨z0, z1, z2, z3, z4, z5, z6, z7, z8, z9⟩ := op_reads H4.right)
      | (with_reducible refine rvtx_any y.op.v H4 HTV ?_; intro w5 H5 I6)))
  have I7 := ((I3.trans I4).trans I5).trans I6
  clear x0 x1 x2 x3 x4 x5 x6 x7 x8 x9 y0 y1 y2 y3 y4 y5 y6 y7 y8 y9 z0 z1 z2 z3 z4 z5 z6 z7 z8 z9 H4 H3 H2 K2 I3 I4 I5 I6
  obtain ⟨x0, x1, x2, x3, x4, x5, x6, x7, x8, x9⟩ := op_reads H5.right
  have K5 : Sat (ansZ r * (OpAt o y * (DAt x * (Pool p * F)))) w5 := H5.of_eq (by ac_rfl)
  have P5 : Sat (Pool p * (ansZ r * (OpAt o y * (DAt x * F)))) w5 := H5.of_eq (by ac_rfl)
  have rx := R1.out _ _ P5
  obtain rfl : A = { pairs := l } := by rw [← hm.out, ask_11 h9 HA.out, HL.out]
  clear hm
  go_wp2_with (with_reducible refine store_ans (A := { pairs := l }) (s := ⟨.slice none 0 0, .slice sa l.length sc, .slice none 0 0, .slice none 0 0⟩) rfl (.tmp 4) (.tmp 81) rfl rfl ⟨rfl, rfl, rfl, rfl⟩ K5 rfl ?_; intro w6 H6 I6; obtain ⟨d0, d1, d2, d3, d4, d5, d6, d7⟩ := ansA_reads H6)
  have K6 : Sat (Pool p * emp) w6 := by rw [emp_star]; exact H6.right.right.right.left
  have ry := R1.out _ _ K6
  exact bodyPost_ret (v := ansV { pairs := l } ⟨.slice none 0 0, .slice sa l.length sc, .slice none 0 0, .slice none 0 0⟩) (by simp [results, Tryz.results57, go_sem, d0, d1, d2, d3, d4, d5, d6, d7]) rfl (HH.out (ansA r { pairs := l } ⟨.slice none 0 0, .slice sa l.length sc, .slice none 0 0, .slice none 0 0⟩ * OpAt o y) ⟨.slice none 0 0, .slice sa l.length sc, .slice none 0 0, .slice none 0 0⟩ _ (H6.of_eq (by ac_rfl)) ⟨readsC_nil _, readsP_imp ry (fun W hW => by rw [emp_star]; exact hW.right.right), readsV_nil _, readsB_nil _⟩ (I7.trans I6))

set_option maxRecDepth 100000 in
set_option maxHeartbeats 16000000 in
theorem rask_8 (y : OpX) (h8 : y.op.kind = 8) (ha : (aget S.vers y.op.a).isSome = true) (hb : (aget S.vers y.op.b).isSome = true) (hj : j ≤ 300) (ok : DocOk j S p x) {A : Md.An} (hm : Hid (Md.ask S y.op = A)) (H : Sat (DAt x * (Pool p * F)) w)
    (hh : ∀ (G : Asn) (s : Sl4) w', Sat (G * (DAt x * (Pool p * F))) w' → DReads (G * (DAt x * Pool p)) A s → Io w w' → R (.returned (ansV A s)) w') :
    Calls Tryz.prog 57 #[x.ptr, opV y] w R := by
  have HH := Lib.hid hh
  clear hh
  have OK := Lib.hid ok
  have H00 : Sat (OpAt w.heap.size y * (DAt x * (Pool p * F))) (w.alloc (.cells (opC y) 41)) := H.new _
  have I00 : Io w (w.alloc (.cells (opC y) 41)) := (Io.refl w).alloc _
  have H0 := ansZ_new H00
  have I0 := I00.trans (io_ansZ _)
  have hr : (w.alloc (.cells (opC y) 41)).heap.size = w.heap.size + 1 := by simp
  rw [hr] at H0
  clear H00 I00 hr
  have FX := Lib.hid (ok.fit (by omega))
  have f1 := FX.out.v
  obtain ⟨ba, hba⟩ : ∃ r, r = Md.vnum x.V y.op.a := ⟨_, rfl⟩
  have HBA := Lib.hid hba
  rw [ok.vnum] at hba
  obtain ⟨bb, hbb⟩ : ∃ r, r = Md.vnum x.V y.op.b := ⟨_, rfl⟩
  have HBB := Lib.hid hbb
  rw [ok.vnum] at hbb
  have hVm : x.V.length ≤ 1000000 := by omega
  have HZ := Lib.hid (fun (o : Nat) (G : Asn) W (hW : Sat (LAt x.l x.vv x.vb x.V x.B * (DMC x * (DRows x * (OpAt o y * G)))) W) => (⟨(DMC.cells hW.right).1, (op_reads hW.right.right.right).1, (op_reads hW.right.right.right).2.2.2.2.1, (op_reads hW.right.right.right).2.2.2.2.2.1⟩ : W.cell? ⟨x.b, 0, none⟩ = some (lptr x.l) ∧ W.cell? ⟨o, 0, none⟩ = some (.int .i64 y.op.kind) ∧ W.cell? ⟨o, 4, none⟩ = some (.int .i64 y.op.a) ∧ W.cell? ⟨o, 5, none⟩ = some (.int .i64 y.op.b)))
  rw [if_pos ha] at hba
  obtain ⟨i, hi⟩ : ∃ i : Nat, i = Md.vplace x.V y.op.a := ⟨_, rfl⟩
  rw [← hi] at hba
  subst hba
  have hi0 : ¬ (i : Int) < 0 := by omega
  have hi1 : decide ((i : Int) < 0) = false := decide_eq_false hi0
  obtain ⟨s, hs, hheld⟩ := ok.of ha
  obtain ⟨sa, sn, sc⟩ := s
  obtain ⟨sa', sc', hsl⟩ := hheld.slice H.right
  cases hsl
  have hlen : (Md.vget S y.op.a).2.length ≤ 300 := by
    obtain ⟨q, hq⟩ := Option.isSome_iff_exists.1 ha
    obtain ⟨q1, q2⟩ := q
    have := (ok.inv.goodV _ q1 q2 hq).2
    unfold Md.vget
    rw [hq]
    simp only [Option.getD_some]
    omega
  have h1 := (ok.vsome y.op.a).2 ha
  have R1 := Lib.hid (fun (G : Asn) W (hW : Sat (Pool p * G) W) => hheld.reads (by omega) hW)
  simp only [slv] at R1
  have HS := Lib.hid hs
  rw [if_pos hb] at hbb
  obtain ⟨i2, hi2⟩ : ∃ i : Nat, i = Md.vplace x.V y.op.b := ⟨_, rfl⟩
  rw [← hi2] at hbb
  subst hbb
  have hj0 : ¬ (i2 : Int) < 0 := by omega
  have hj1 : decide ((i2 : Int) < 0) = false := decide_eq_false hj0
  obtain ⟨s2, hs2, hheld2⟩ := ok.of hb
  obtain ⟨ta, tn, tc⟩ := s2
  obtain ⟨ta', tc', hsl2⟩ := hheld2.slice H.right
  cases hsl2
  have hlen2 : (Md.vget S y.op.b).2.length ≤ 300 := by
    obtain ⟨q, hq⟩ := Option.isSome_iff_exists.1 hb
    obtain ⟨q1, q2⟩ := q
    have := (ok.inv.goodV _ q1 q2 hq).2
    unfold Md.vget
    rw [hq]
    simp only [Option.getD_some]
    omega
  have h2 := (ok.vsome y.op.b).2 hb
  have R2 := Lib.hid (fun (G : Asn) W (hW : Sat (Pool p * G) W) => hheld2.reads (by omega) hW)
  simp only [slv] at R2
  have HS2 := Lib.hid hs2
  obtain ⟨l, hl⟩ : ∃ l, l = (Md.vget S y.op.a).2 := ⟨_, rfl⟩
  obtain ⟨m, hmm⟩ : ∃ m, m = (Md.vget S y.op.b).2 := ⟨_, rfl⟩
  obtain rfl : A = { changes := Eg.diff l m } := by rw [← hm.out, ask_8 h8 ha hb, hl, hmm]
  rw [← hl] at R1 hlen HS
  rw [← hmm] at R2 hlen2 HS2
  have hk8b : (y.op.kind == 8) = true := by simp [h8]
  have hk8c : decide (y.op.kind = 8) = true := decide_eq_true h8
  obtain ⟨tu, htu⟩ : ∃ d, d = Md.vtx y.op.u := ⟨_, rfl⟩
  have HTU := Lib.hid htu
  obtain ⟨tv, htv⟩ : ∃ d, d = Md.vtx y.op.v := ⟨_, rfl⟩
  have HTV := Lib.hid htv
  clear ok ha hi hs hheld hl htu htv hm hb hi2 hs2 hheld2 hmm

  go_enter Tryz.func57, Tryz.ntmps57
  go_upto_region 1 with fail
  generalize (w.alloc (.cells (opC y) 41)).alloc (.cells #[.int .i64 0, .int .i64 0, .bool false, .int .i64 0, .slice none 0 0, .slice none 0 0, .slice none 0 0, .slice none 0 0] 37) = w0 at *
  generalize w.heap.size + 1 = r at *
  generalize w.heap.size = o at *
  have H1 : Sat (DAt x * (OpAt o y * (ansZ r * (Pool p * F)))) w0 := H0.of_eq (by ac_rfl)
  have LL := DAt.asL H1
  obtain ⟨z0, z1, z2, z3⟩ := HZ.out _ _ _ LL
  clear H0
  go_quiet (first | (go_at_call 77; with_reducible refine rfindq_any y.op.a hVm LL HBA ?_; exact ⟨rfl, _, rfl⟩) | (go_at_call 77; with_reducible refine rfindq_any y.op.b hVm LL HBB ?_; exact ⟨rfl, _, rfl⟩))
  have H2 := H1.drewN nq
  have I2 := I0.drewN nq
  generalize w0.drewN nq = w1 at *
  clear z0 z1 z2 z3 LL
  have K2 := H2
  have I3 := I2
  obtain ⟨x0, x1, x2, x3, x4, x5, x6, x7, x8, x9⟩ := op_reads K2.right
  go_upto_region 6 with (first
    | (go_at_call 86; with_reducible refine rof_any (s := (sa, l.length, sc)) y.op.a FX.out h1 HS K2 ?_; intro w3 H3 I4; obtain ⟨y0, y1, y2, y3, y4, y5, y6, y7, y8, y9⟩ := op_reads H3.right)
    | (go_at_call 87; first
      | (with_reducible refine rvtx_any y.op.u H3 HTU ?_; intro w4 H4 I5; obtain ⟨z0, z1, z2, z3, z4, z5, z6, z7, z8, z9⟩ := op_reads H4.right)
      | (with_reducible refine rvtx_any y.op.v H4 HTV ?_; intro w5 H5 I6)))
  have I7 := ((I3.trans I4).trans I5).trans I6
  clear x0 x1 x2 x3 x4 x5 x6 x7 x8 x9 y0 y1 y2 y3 y4 y5 y6 y7 y8 y9 z0 z1 z2 z3 z4 z5 z6 z7 z8 z9 H4 H3 H2 K2 I3 I4 I5 I6
  obtain ⟨x0, x1, x2, x3, x4, x5, x6, x7, x8, x9⟩ := op_reads H5.right
  have K5 : Sat (ansZ r * (OpAt o y * (DAt x * (Pool p * F)))) w5 := H5.of_eq (by ac_rfl)
  have P5 : Sat (Pool p * (ansZ r * (OpAt o y * (DAt x * F)))) w5 := H5.of_eq (by ac_rfl)
  have hel : (Eg.diff l m).length ≤ 1000000 := Nat.le_trans (diff_len1 l m) (by omega)
  have HEL := Lib.hid hel
  have D5 : Sat (DAt x * (OpAt o y * (ansZ r * (Pool p * F)))) w5 := H5
  go_wp2_with (first
    | (go_at_call 86; with_reducible refine rof_any (s := (ta, m.length, tc)) y.op.b FX.out h2 HS2 D5 ?_; intro w7 H7 I8; have P7 : Sat (Pool p * (ansZ r * (OpAt o y * (DAt x * F)))) w7 := H7.of_eq (by ac_rfl); have ry := R1.out _ _ P7; have rz := R2.out _ _ P7)
    | (go_at_call 88; with_reducible refine rdiff_any ry (by omega) rz (by omega) P7 ?_; intro v8 w8 H8 I9; obtain ⟨a8, c8, e8⟩ := rowOf_shape H8; subst e8; have K8 : Sat (ansZ r * (OpAt o y * (RowC (.slice a8 (Eg.diff l m).length c8) (Eg.diff l m) * (DAt x * (Pool p * F))))) w8 := H8.of_eq (by ac_rfl))
    | (with_reducible refine store_ans (A := { changes := Eg.diff l m }) (s := ⟨.slice a8 (Eg.diff l m).length c8, .slice none 0 0, .slice none 0 0, .slice none 0 0⟩) rfl (.tmp 4) (.tmp 52) rfl rfl ⟨rfl, rfl, rfl, rfl⟩ K8 rfl ?_; intro w6 H6 I6; obtain ⟨d0, d1, d2, d3, d4, d5, d6, d7⟩ := ansA_reads H6))
  have C6 : Sat (RowC (.slice a8 (Eg.diff l m).length c8) (Eg.diff l m) * (DAt x * (Pool p * F))) w6 := H6.right.right
  have C7 : Sat (RowC (.slice a8 (Eg.diff l m).length c8) (Eg.diff l m) * emp) w6 := by rw [emp_star]; exact C6.left
  have rc := (Reads.of_row C7 HEL.out).imp (G := RowC (.slice a8 (Eg.diff l m).length c8) (Eg.diff l m) * (DAt x * Pool p)) fun W hW => by rw [emp_star]; exact hW.left
  exact bodyPost_ret (v := ansV { changes := Eg.diff l m } ⟨.slice a8 (Eg.diff l m).length c8, .slice none 0 0, .slice none 0 0, .slice none 0 0⟩) (by simp [results, Tryz.results57, go_sem, d0, d1, d2, d3, d4, d5, d6, d7]) rfl (HH.out (RowC (.slice a8 (Eg.diff l m).length c8) (Eg.diff l m)) ⟨.slice a8 (Eg.diff l m).length c8, .slice none 0 0, .slice none 0 0, .slice none 0 0⟩ _ C6 ⟨rc, readsP_nil _, readsV_nil _, readsB_nil _⟩ (((I7.trans I8).trans I9).trans I6))

end
end Go.Proofs.YtabpgejjnphfcaaGreat
