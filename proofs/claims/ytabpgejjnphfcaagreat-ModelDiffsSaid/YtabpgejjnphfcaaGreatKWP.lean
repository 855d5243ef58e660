/-
  ModelParents, by its walk. It proves no statement by itself.
-/
import Derived.Test.YtabpgejjnphfcaaGreatKWO
namespace Go.Proofs.YtabpgejjnphfcaaGreat
open Go.RowKit Go.Lib Go.MapKept
open Md (Nm St)
set_option linter.unusedSimpArgs false
set_option linter.unusedVariables false
set_option linter.unusedSectionVars false
namespace Md
theorem vlist_par {k : Nat} {S : St} (h : Inv k S) {v : Ver} (hv : v ∈ vlist S) : 0 ≤ v.parent ∧ v.parent < v.id ∧ (v.id = 1 → v.parent = 0) ∧ (1 < v.id → v.parent ≠ 0) ∧ v.root = 0 ∧ 1 ≤ v.id ∧ v.id < S.next := by
  obtain ⟨⟨p, l⟩, hx, e⟩ := (mem_vlist h v).1 hv
  have h1 := h.par v.id p l hx
  have h2 := h.ids v.id (by rw [hx]; rfl)
  rw [e]
  unfold toVer
  simp only
  exact ⟨h1.1, h1.2.1, h1.2.2.1, h1.2.2.2, trivial, h2.1, h2.2⟩
theorem head_none {S : St} {n : Nm} (h : aget S.heads n = none) : mdo S ⟨12, n, 0, 0, 0, 0⟩ = (S, { err := 191 }) := by
  rw [mdo_k _ _ (by simp), if_pos (by simp [h])]
  rfl
theorem head_some {S : St} {n : Nm} {x : Int} (h : aget S.heads n = some x) : mdo S ⟨12, n, 0, 0, 0, 0⟩ = (S, { version := x }) := by
  rw [mdo_k _ _ (by simp), if_neg (by simp [h]), onB_12 rfl]
  unfold hget
  simp only [h]
  rfl
theorem abort_some {S : St} {n : Nm} {x : Int} (h : aget S.heads n = some x) : mdo S ⟨4, n, 0, 0, 0, 0⟩ = (abort S n, {}) := by
  rw [mdo_k _ _ (by simp), if_neg (by simp [h]), onB_4 rfl]
theorem commit_some {S : St} {n : Nm} {x : Int} (h : aget S.heads n = some x) (hn : S.next ≤ 1048576) : mdo S ⟨3, n, 0, 0, 0, 0⟩ = ((commit S n).1, { version := S.next }) := by
  rw [mdo_k _ _ (by simp), if_neg (by simp [h]), onB_3 rfl]
  unfold commit
  rw [if_neg (by omega)]
theorem parents_tail {j : Nat} {S : St} (hI : Inv j S) (hj : j ≤ 1000) {n : Nm} {x : Int} (h : aget S.heads n = some x) : x < S.next ∧
    mdo (abort S n) ⟨3, n, 0, 0, 0, 0⟩ = ((commit (abort S n) n).1, { version := S.next }) ∧
    mdo (commit (abort S n) n).1 ⟨8, ⟨#[]⟩, 0, 0, x, S.next⟩ = ((commit (abort S n) n).1, {}) ∧
    mdo (commit (abort S n) n).1 ⟨12, n, 0, 0, 0, 0⟩ = ((commit (abort S n) n).1, { version := S.next }) := by
  have hx := hI.ids x (hI.head n x h)
  have hn := hI.next
  obtain ⟨⟨p, l⟩, hv⟩ := Option.isSome_iff_exists.1 (hI.head n x h)
  have hnow : now (abort S n) n = l := by
    unfold now abort
    simp only [aget_del_same]
    unfold vget hget
    simp only [h, Option.getD_some, hv]
  have hget' : hget (abort S n) n = x := by unfold hget abort; simp only [h, Option.getD_some]
  have hc : (commit (abort S n) n).1 = { vers := aput S.vers S.next (x, l), heads := aput S.heads n S.next, pend := adel (abort S n).pend n, next := S.next + 1 } := by
    unfold commit
    rw [if_neg (show ¬ 1048576 < (abort S n).next from by show ¬ 1048576 < S.next; omega), hnow, hget']
    rfl
  refine ⟨hx.2, commit_some (S := abort S n) h (by show S.next ≤ _; omega), ?_, ?_⟩
  · rw [mdo_q _ _ (by simp), hc]
    have e1 : aget (aput S.vers S.next (x, l)) x = some (p, l) := by rw [aget_put, if_neg (by omega)]; exact hv
    have e2 : aget (aput S.vers S.next (x, l)) S.next = some (x, l) := aget_put_same _ _ _
    unfold ask vget
    simp only [e1, e2, Option.isSome_some, Option.getD_some]
    simp [Eg.diff_none]
  · rw [hc]
    exact head_some (by simp only; exact aget_put_same _ _ _)
end Md
theorem readsV_get {F : Asn} {a : Option Addr} {n c : Nat} {l : List Md.Ver} (hl : ReadsV F (.slice a n c) l) (k : Nat) (hk : k < l.length) : ∃ b off, a = some ⟨b, off, none⟩ ∧ ∃ i p r e, l[k] = ⟨i, p, r, e⟩ ∧ ∀ w, Sat F w →
    w.cell? ⟨b, off + k * 4, none⟩ = some (.int .i64 i) ∧ w.cell? ⟨b, off + k * 4 + 1, none⟩ = some (.int .i64 p) ∧ w.cell? ⟨b, off + k * 4 + 2, none⟩ = some (.int .i64 r) ∧ w.cell? ⟨b, off + k * 4 + 3, none⟩ = some (.int .i64 e) := by
  obtain ⟨b, off, h1, h2⟩ := hl.get encV4_ok k hk
  obtain ⟨x, hx⟩ : ∃ x, l[k] = x := ⟨_, rfl⟩
  obtain ⟨i, p, r, e⟩ := x
  refine ⟨b, off, h1, i, p, r, e, hx, fun w hw => ?_⟩
  have h3 := h2 w hw
  rw [hx] at h3
  exact ⟨h3 0 _ (by omega) rfl, h3 1 _ (by omega) rfl, h3 2 _ (by omega) rfl, h3 3 _ (by omega) rfl⟩
theorem ans_new2 {A : Md.An} {s : Sl4} {M F : Asn} {w : World} (H : Sat (AnsAt A s * (M * F)) w) : Sat (M * (ansA w.heap.size A s * (AnsAt A s * F))) (w.alloc (.cells #[.int .i64 A.err, .int .i64 A.version, .bool A.yes, .int .i64 A.count, s.c, s.p, s.v, s.b] 37)) := (H.new _).of_eq (by show pts _ _ * _ = _ * (pts _ _ * _); ac_rfl)
section
variable {F : Asn} {w : World} {R : Ending → World → Prop}
set_option maxRecDepth 100000 in
set_option maxHeartbeats 16000000 in
theorem parents_any {l : List OpX} {vl : Value} (hl : ReadsO F vl l) (n : Nm) (hnm : n.size ≤ 9223372036854775807) (H : Sat F w) (hh : ∀ w', Sat F w' → Io w w' → R (.returned (.bool true)) w') : Calls Tryz.prog 8 #[vl, .string n] w R := by
  have HH := Lib.hid hh
  clear hh
  obtain ⟨a, c, rfl, hm⟩ := reads_len hl
  obtain ⟨d, hd⟩ : ∃ d, d = much l := ⟨_, rfl⟩
  have HD := Lib.hid hd
  clear hd
  cases d with
  | true =>
    go_enter Tryz.func8, Tryz.ntmps8
    go_wp2_with (first
      | (go_at_call 10; with_reducible refine works20_any H ?_; intro w1 H1 I1)
      | (go_at_call 15; with_reducible refine over_any hl HD H1 ?_; intro w2 H2 I2))
    exact HH.out _ H2 (I1.trans I2)
  | false =>
    by_cases hn : n.size ≤ 60
    · have hni : ¬ (60 : Int) < (n.size : Int) := by omega
      have hl120 := (much_not HD.out.symm).1
      have HN := Lib.hid (much_not HD.out.symm).2
      have HV := Lib.hid (fun k hk => readsO_get hl k hk)
      have hR := Lib.hid hl
      clear hl
      go_enter Tryz.func8, Tryz.ntmps8
      go_wp2_with (first
        | (go_at_call 10; with_reducible refine works20_any H ?_; intro w1 H1 I1)
        | (go_at_call 15; with_reducible refine over_any hR.out HD H1 ?_; intro w2 H2 I2)
        | (go_at_call 16; with_reducible refine newms_any (ms_none H2) ?_; intro h w3 H3 I3))
      have K3 : Sat (Ms [(h, Md.run Md.init ((opsOf l).take 0))] * F) w3 := H3
      have J3 := (I1.trans I2).trans I3
      clear H1 H2 H3 I1 I2 I3 H
      go_loopw [8] (fun x wr => ∃ k : Nat, k ≤ l.length ∧ x = .int .i64 (k : Int) ∧ Sat (Ms [(h, Md.run Md.init ((opsOf l).take k))] * F) wr ∧ Io w wr) (fun x _ => l.length - (intOf x).toNat)
      case atStart => exact ⟨0, by omega, rfl, K3, J3⟩
      case round =>
        obtain ⟨k, hk, rfl, Hk, Ik⟩ := hrel
        clear K3 J3
        by_cases hlt : k < l.length
        · have hlti : (k : Int) < (l.length : Int) := by omega
          have hk0 : (0 : Int) ≤ (k : Int) := by omega
          obtain ⟨b, off, rfl, kind, name, u, v, A, B, ka, kl, kc, torn, cut, text, hx, hc⟩ := HV.out k hlt
          have hsz : name.size ≤ 1000000 := by have := HN.out l[k] (List.getElem_mem hlt); rw [hx] at this; simp only at this; omega
          have HSZ := Lib.hid hsz
          have HM := Lib.hid (run_step Md.init l k hlt hx)
          have hI := Lib.hid (inv_ops l k hl120)
          obtain ⟨c0, c1, c2, c3, c4, c5, c6, c7, c8, c9⟩ := hc wr Hk.right
          clear hc hx hsz
          go_wp2_with (go_at_call 17; with_reducible refine do_ms HSZ.out (by omega) hI.out HM Hk ?_; intro ca cl cc pa pl pc va vl vc ba bl bc w5 H5 I5)
          go_roundw
          case rel => exact ⟨k + 1, by omega, by go_num, H5.right, Ik.trans I5⟩
          case measure => simp [intOf]; omega
        · obtain rfl : k = l.length := by omega
          have hge : ¬ (l.length : Int) < (l.length : Int) := by omega
          rw [run_all] at Hk
          have hI : Md.Inv 120 (Md.run Md.init (opsOf l)) := by rw [← run_all]; exact inv_ops l _ hl120
          generalize Md.run Md.init (opsOf l) = T at *
          have HI := Lib.hid hI
          have hlp := Lib.hid (fun v (hv : v ∈ Md.vlist T) => Md.vlist_par hI hv)
          have hML : Md.mdo T ⟨13, ⟨#[]⟩, 0, 0, 0, 0⟩ = (T, { versions := Md.vlist T, branches := Md.blist T }) := Md.mdo_list T _ rfl
          have hlv : (Md.vlist T).length ≤ 1000 := by rw [Md.vlist_len]; have := hI.nv; omega
          generalize hV : Md.vlist T = V at *
          generalize hB : Md.blist T = B at *
          have HML := Lib.hid hML
          clear hV hB hML hI
          go_wp2_with (go_at_call 17; with_reducible refine do_ms (by decide) (by omega) HI.out HML Hk ?_; intro c5a c5l c5c p5a p5l p5c v5a v5l v5c b5a b5l b5c w5 H5 I5; obtain ⟨rfl, rfl, rfl, rfl⟩ := ansAt_len H5)
          have J5 := (Ik.trans I5).alloc (.cells #[.int .i64 0, .int .i64 0, .bool false, .int .i64 0, .slice c5a 0 c5c, .slice p5a 0 p5c, .slice v5a V.length v5c, .slice b5a B.length b5c] 37)
          have K5 : Sat (Ms [(h, T)] * (ansA w5.heap.size { versions := V, branches := B } ⟨.slice c5a 0 c5c, .slice p5a 0 p5c, .slice v5a V.length v5c, .slice b5a B.length b5c⟩ * (AnsAt { versions := V, branches := B } ⟨.slice c5a 0 c5c, .slice p5a 0 p5c, .slice v5a V.length v5c, .slice b5a B.length b5c⟩ * F))) (w5.alloc (.cells #[.int .i64 0, .int .i64 0, .bool false, .int .i64 0, .slice c5a 0 c5c, .slice p5a 0 p5c, .slice v5a V.length v5c, .slice b5a B.length b5c] 37)) := ans_new2 H5
          clear H5 I5 Hk Ik HML
          generalize w5.alloc (.cells #[.int .i64 0, .int .i64 0, .bool false, .int .i64 0, .slice c5a 0 c5c, .slice p5a 0 p5c, .slice v5a V.length v5c, .slice b5a B.length b5c] 37) = w6 at *
          generalize w5.heap.size = q at *
          have HX := Lib.hid (fun (G : Asn) W (hW : Sat (RowV (.slice v5a V.length v5c) V * G) W) => Reads.of_row hW (by omega))
          obtain ⟨X, hX⟩ : ∃ X, X = Ms [(h, T)] * (ansA q { versions := V, branches := B } ⟨.slice c5a 0 c5c, .slice p5a 0 p5c, .slice v5a V.length v5c, .slice b5a B.length b5c⟩ * (AnsAt { versions := V, branches := B } ⟨.slice c5a 0 c5c, .slice p5a 0 p5c, .slice v5a V.length v5c, .slice b5a B.length b5c⟩ * F)) := ⟨_, rfl⟩
          rw [← hX] at K5
          have HXr := Lib.hid (fun W (hW : Sat X W) => (by rw [hX] at hW; exact ansA_reads hW.right : _ ∧ _ ∧ _ ∧ _ ∧ _ ∧ _ ∧ W.cell? ⟨q, 6, none⟩ = some (.slice v5a V.length v5c) ∧ _))
          have HXv := Lib.hid (fun W (hW : Sat X W) => (by rw [hX] at hW; exact (ansAt_rows hW.right.right).right.right : Sat (RowV (.slice v5a V.length v5c) V * (RowB (.slice b5a B.length b5c) B * F)) W))
          have HXm := Lib.hid (fun W (hW : Sat X W) => (by rw [hX] at hW; exact hW.of_eq (show _ = (ansA q { versions := V, branches := B } ⟨.slice c5a 0 c5c, .slice p5a 0 p5c, .slice v5a V.length v5c, .slice b5a B.length b5c⟩ * AnsAt { versions := V, branches := B } ⟨.slice c5a 0 c5c, .slice p5a 0 p5c, .slice v5a V.length v5c, .slice b5a B.length b5c⟩) * (Ms [(h, T)] * F) from by ac_rfl) |>.right : Sat (Ms [(h, T)] * F) W))
          clear hX
          go_loopw [10] (fun x wr => ∃ k : Nat, k ≤ V.length ∧ x = .int .i64 (k : Int) ∧ Sat X wr ∧ Io w wr) (fun x _ => V.length - (intOf x).toNat)
          case atStart => exact ⟨0, by omega, rfl, K5, J5⟩
          case round =>
            obtain ⟨k, hk, rfl, Hk, Ik⟩ := hrel
            clear K5 J5
            obtain ⟨_, _, _, _, _, _, z6, _⟩ := HXr.out wr Hk
            by_cases hlt : k < V.length
            · have hlti : (k : Int) < (V.length : Int) := by omega
              have hk0 : (0 : Int) ≤ (k : Int) := by omega
              obtain ⟨vb, vo, hva, i, p, r, e, hx, hc⟩ := readsV_get (HX.out _ _ (HXv.out wr Hk)) k hlt
              subst hva
              obtain ⟨g0, g1, g2, g3⟩ := hc wr (HXv.out wr Hk)
              have hp := hlp.out V[k] (List.getElem_mem hlt)
              rw [hx] at hp
              simp only at hp
              obtain ⟨p0, p1, p2, p3, rfl, p4, p5⟩ := hp
              have hN := Hk.new (.cells #[.int .i64 i, .int .i64 p, .int .i64 0, .int .i64 e] 44)
              have y0 := Sat.read hN.left.at 0
              have y1 := Sat.read hN.left.at 1
              have y2 := Sat.read hN.left.at 2
              simp only [List.getElem?_toArray, List.getElem?_cons_zero, List.getElem?_cons_succ] at y0 y1 y2
              have hNa := hN.right
              have IN := Ik.alloc (.cells #[.int .i64 i, .int .i64 p, .int .i64 0, .int .i64 e] 44)
              have u1 : ¬ i ≤ p := by omega
              have u2 : ¬ p < 0 := by omega
              have u3 : p < i := by omega
              clear hN hc hx
              by_cases hi1 : i = 1
              · have hp0 : p = 0 := p2 hi1
                clear p0 p1 p2 p3 p4 p5 u1 u2 u3
                subst hi1
                subst hp0
                go_wp2_with fail
                go_roundw
                case rel => exact ⟨k + 1, by omega, by go_num, hNa, IN⟩
                case measure => simp [intOf]; omega
              · have hi2 : 1 < i := by omega
                have hp0 : ¬ p = 0 := p3 hi2
                clear p0 p1 p2 p3 p4 p5
                go_wp2_with fail
                go_roundw
                case rel => exact ⟨k + 1, by omega, by go_num, hNa, IN⟩
                case measure => simp [intOf]; omega
            · obtain rfl : k = V.length := by omega
              have hge : ¬ (V.length : Int) < (V.length : Int) := by omega
              have KM := HXm.out wr Hk
              clear HXr HXv HXm HX Hk
              have hszn : n.size ≤ 1000000 := by omega
              have HSZ := Lib.hid hszn
              clear hszn
              cases hxx : aget T.heads n with
              | none =>
                have HM1 := Lib.hid (Md.head_none hxx)
                go_wp2_with (go_at_call 17; with_reducible refine do_ms HSZ.out (by omega) HI.out HM1 KM ?_; intro c7a c7l c7c p7a p7l p7c v7a v7l v7c b7a b7l b7c w7 H7 I7)
                exact HH.out _ (H7.right.right.alloc _) ((Ik.trans I7).alloc _)
              | some x =>
                have PT := Md.parents_tail HI.out (by omega) hxx
                have HM1 := Lib.hid (Md.head_some hxx)
                have HM2 := Lib.hid (Md.abort_some hxx)
                have HM3 := Lib.hid PT.2.1
                have HM4 := Lib.hid PT.2.2.1
                have HM5 := Lib.hid PT.2.2.2
                have hxn := PT.1
                have HI2 := Lib.hid (Md.inv_abort HI.out n)
                have HI3 : Hid (Md.Inv 121 (Md.commit (Md.abort T n) n).1) := Lib.hid (Md.inv_commit HI2.out n (by show (aget T.heads n).isSome = true; rw [hxx]; rfl))
                clear PT hxx
                generalize T.next = tn at *
                generalize (Md.commit (Md.abort T n) n).1 = T2 at *
                go_wp2_with (go_at_call 17; first
                  | (with_reducible refine do_ms HSZ.out (by omega) HI.out HM1 KM ?_; intro c7a c7l c7c p7a p7l p7c v7a v7l v7c b7a b7l b7c w7 H7 I7; obtain ⟨e7a, e7b, e7d, e7e⟩ := ansAt_len H7; simp only [List.length_nil] at e7a e7b e7d e7e; subst e7a; subst e7b; subst e7d; subst e7e; have K7 : Sat (Ms [(h, T)] * (ansA w7.heap.size { version := x } ⟨.slice c7a 0 c7c, .slice p7a 0 p7c, .slice v7a 0 v7c, .slice b7a 0 b7c⟩ * F)) (w7.alloc (.cells #[.int .i64 0, .int .i64 x, .bool false, .int .i64 0, .slice c7a 0 c7c, .slice p7a 0 p7c, .slice v7a 0 v7c, .slice b7a 0 b7c] 37)) := ans_new H7)
                  | (with_reducible refine do_ms HSZ.out (by omega) HI.out HM2 K7 ?_; intro c8a c8l c8c p8a p8l p8c v8a v8l v8c b8a b8l b8c w8 H8 I8; obtain ⟨e8a, e8b, e8d, e8e⟩ := ansAt_len H8; simp only [List.length_nil] at e8a e8b e8d e8e; subst e8a; subst e8b; subst e8d; subst e8e)
                  | (with_reducible refine do_ms HSZ.out (by omega) HI2.out HM3 H8.right ?_; intro c9a c9l c9c p9a p9l p9c v9a v9l v9c b9a b9l b9c w9 H9 I9; obtain ⟨e9a, e9b, e9d, e9e⟩ := ansAt_len H9; simp only [List.length_nil] at e9a e9b e9d e9e; subst e9a; subst e9b; subst e9d; subst e9e; have K9 : Sat (Ms [(h, T2)] * (ansA w9.heap.size { version := tn } ⟨.slice c9a 0 c9c, .slice p9a 0 p9c, .slice v9a 0 v9c, .slice b9a 0 b9c⟩ * (ansA w7.heap.size { version := x } ⟨.slice c7a 0 c7c, .slice p7a 0 p7c, .slice v7a 0 v7c, .slice b7a 0 b7c⟩ * F))) (w9.alloc (.cells #[.int .i64 0, .int .i64 tn, .bool false, .int .i64 0, .slice c9a 0 c9c, .slice p9a 0 p9c, .slice v9a 0 v9c, .slice b9a 0 b9c] 37)) := ans_new H9; have r7 := (ansA_reads K9.right.right).2.1; have r9 := (ansA_reads K9.right).2.1)
                  | (with_reducible refine do_ms (by decide) (by omega) HI3.out HM4 K9 ?_; intro c10a c10l c10c p10a p10l p10c v10a v10l v10c b10a b10l b10c w10 H10 I10; obtain ⟨e10a, e10b, e10d, e10e⟩ := ansAt_len H10; simp only [List.length_nil] at e10a e10b e10d e10e; subst e10a; subst e10b; subst e10d; subst e10e; have K10 : Sat (Ms [(h, T2)] * (ansA w10.heap.size {} ⟨.slice c10a 0 c10c, .slice p10a 0 p10c, .slice v10a 0 v10c, .slice b10a 0 b10c⟩ * (ansA w9.heap.size { version := tn } ⟨.slice c9a 0 c9c, .slice p9a 0 p9c, .slice v9a 0 v9c, .slice b9a 0 b9c⟩ * (ansA w7.heap.size { version := x } ⟨.slice c7a 0 c7c, .slice p7a 0 p7c, .slice v7a 0 v7c, .slice b7a 0 b7c⟩ * F)))) (w10.alloc (.cells #[.int .i64 0, .int .i64 0, .bool false, .int .i64 0, .slice c10a 0 c10c, .slice p10a 0 p10c, .slice v10a 0 v10c, .slice b10a 0 b10c] 37)) := ans_new H10)
                  | (with_reducible refine do_ms HSZ.out (by omega) HI3.out HM5 K10 ?_; intro c11a c11l c11c p11a p11l p11c v11a v11l v11c b11a b11l b11c w11 H11 I11; obtain ⟨e11a, e11b, e11d, e11e⟩ := ansAt_len H11; simp only [List.length_nil] at e11a e11b e11d e11e; subst e11a; subst e11b; subst e11d; subst e11e; have K11 : Sat (Ms [(h, T2)] * (ansA w11.heap.size { version := tn } ⟨.slice c11a 0 c11c, .slice p11a 0 p11c, .slice v11a 0 v11c, .slice b11a 0 b11c⟩ * (ansA w10.heap.size {} ⟨.slice c10a 0 c10c, .slice p10a 0 p10c, .slice v10a 0 v10c, .slice b10a 0 b10c⟩ * (ansA w9.heap.size { version := tn } ⟨.slice c9a 0 c9c, .slice p9a 0 p9c, .slice v9a 0 v9c, .slice b9a 0 b9c⟩ * (ansA w7.heap.size { version := x } ⟨.slice c7a 0 c7c, .slice p7a 0 p7c, .slice v7a 0 v7c, .slice b7a 0 b7c⟩ * F))))) (w11.alloc (.cells #[.int .i64 0, .int .i64 tn, .bool false, .int .i64 0, .slice c11a 0 c11c, .slice p11a 0 p11c, .slice v11a 0 v11c, .slice b11a 0 b11c] 37)) := ans_new H11; obtain ⟨j0, j1, j2, j3, j4, _⟩ := ansA_reads K11.right; obtain ⟨l0, l1, l2, l3, l4, _⟩ := ansA_reads K11.right.right; obtain ⟨n0, n1, n2, n3, n4, _⟩ := ansA_reads K11.right.right.right; obtain ⟨o0, o1, o2, o3, o4, _⟩ := ansA_reads K11.right.right.right.right))
                exact HH.out _ K11.right.right.right.right.right ((((((((Ik.trans I7).alloc _).trans I8).trans I9).alloc _).trans I10).alloc _).trans I11 |>.alloc _)
    · have hni : (60 : Int) < (n.size : Int) := by omega
      go_enter Tryz.func8, Tryz.ntmps8
      go_wp2_with (first
        | (go_at_call 10; with_reducible refine works20_any H ?_; intro w1 H1 I1)
        | (go_at_call 15; with_reducible refine over_any hl HD H1 ?_; intro w2 H2 I2))
      exact HH.out _ H2 (I1.trans I2)
end
end Go.Proofs.YtabpgejjnphfcaaGreat
