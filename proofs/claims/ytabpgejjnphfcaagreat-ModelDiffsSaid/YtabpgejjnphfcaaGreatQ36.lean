/-
  The model of the index: list, by its walk. It proves no statement by itself.
-/
import Derived.Test.YtabpgejjnphfcaaGreatQ21
import Derived.Test.YtabpgejjnphfcaaGreatQ34
import Derived.Test.YtabpgejjnphfcaaGreatQ35
namespace Go.Proofs.YtabpgejjnphfcaaGreat
open Go.RowKit Go.Lib Go.MapKept
open Md (Nm St)
set_option linter.unusedSimpArgs false
set_option linter.unusedVariables false
set_option linter.unusedSectionVars false
section
variable {F : Asn} {w : World} {R : Ending → World → Prop} {p : Pl} {h : Mh} {S : MV} {j : Nat}
theorem sat_swap {A B C : Asn} {w : World} (H : Sat (A * (B * C)) w) : Sat (B * (A * C)) w := H.of_eq (by ac_rfl)
theorem ansA_set6 {q : Nat} {A : Md.An} {s : Sl4} (H : Sat (ansA q A s * F) w) (v : Value) (L : List Md.Ver) : Sat (ansA q { A with versions := L } { s with v := v } * F) (w.setCell ⟨q, 6, none⟩ v) := H.cell 6 v
theorem ansA_set7 {q : Nat} {A : Md.An} {s : Sl4} (H : Sat (ansA q A s * F) w) (v : Value) (L : List Md.Br) : Sat (ansA q { A with branches := L } { s with b := v } * F) (w.setCell ⟨q, 7, none⟩ v) := H.cell 7 v
theorem ansA_free {q : Nat} {A : Md.An} {s : Sl4} (H : Sat (ansA q A s * F) w) (i : Nat) : w.frozen? ⟨q, i, none⟩ = false := Sat.free H.left.at i
def verOf (S : MV) (id : Int) : Md.Ver := ⟨id, (S.vv id).1, 0, ((S.vv id).2.2.length : Int)⟩
theorem vlist_of (hn : (S.vers.map (·.1)).Nodup) {ss : List Int} (hp : ss.Perm (S.vers.map (·.1))) (hs : ss.Pairwise (· ≤ ·)) : ss.map (verOf S) = Md.vlist S.st := by
  unfold Md.vlist
  have h1 : (ss.map (verOf S)).Perm (S.st.vers.map Md.toVer) := by
    refine (hp.map (verOf S)).trans ?_
    rw [List.map_map]
    refine List.Perm.of_eq ?_
    show S.vers.map _ = (amap fV S.vers).map Md.toVer
    unfold amap
    rw [List.map_map]
    refine List.map_congr_left fun x hx => ?_
    have e : aget S.vers x.1 = some x.2 := aget_of_mem hn (by obtain ⟨a, b⟩ := x; exact hx)
    simp only [Function.comp, verOf, MV.vv, e, Option.getD_some, Md.toVer, fV]
  have h2 : ((S.st.vers.map Md.toVer).mergeSort fun a b => decide (a.id ≤ b.id)).Perm (S.st.vers.map Md.toVer) := List.mergeSort_perm _ _
  have s1 : (ss.map (verOf S)).Pairwise (fun a b => a.id ≤ b.id) := by
    rw [List.pairwise_map]
    exact hs
  have s2 : ((S.st.vers.map Md.toVer).mergeSort fun a b => decide (a.id ≤ b.id)).Pairwise (fun a b => a.id ≤ b.id) := by
    have := List.pairwise_mergeSort (le := fun a b : Md.Ver => decide (a.id ≤ b.id)) (by intro a b c h1 h2; simp at *; omega) (by intro a b; simp; omega) (S.st.vers.map Md.toVer)
    exact this.imp (by intro a b h; simpa using h)
  refine List.Perm.eq_of_pairwise (le := fun a b : Md.Ver => a.id ≤ b.id) ?_ s1 s2 (h1.trans h2.symm)
  intro a b ha hb hab hba
  have e : a.id = b.id := by omega
  have ha' := h1.mem_iff.1 ha
  have hb' := h2.mem_iff.1 hb
  obtain ⟨x, hx, rfl⟩ := List.mem_map.1 ha'
  obtain ⟨y, hy, rfl⟩ := List.mem_map.1 hb'
  have hn' : (S.st.vers.map (·.1)).Nodup := by
    show ((amap fV S.vers).map (·.1)).Nodup
    unfold amap
    rw [List.map_map]
    exact hn
  obtain ⟨x1, x2⟩ := x
  obtain ⟨y1, y2⟩ := y
  have e' : x1 = y1 := e
  subst e'
  have := (aget_of_mem hn' hx).symm.trans (aget_of_mem hn' hy)
  cases this
  rfl
theorem blist_of {T : St} (hn : (T.heads.map (·.1)).Nodup) {L : List Md.Br} (hp : L.Perm (T.heads.map Md.toBr)) (hs : L.Pairwise (fun a b => Md.nlt b.name a.name = false)) : L = Md.blist T := by
  unfold Md.blist
  have h2 : ((T.heads.map Md.toBr).mergeSort fun a b => !Md.nlt b.name a.name).Perm (T.heads.map Md.toBr) := List.mergeSort_perm _ _
  have s2 : ((T.heads.map Md.toBr).mergeSort fun a b => !Md.nlt b.name a.name).Pairwise (fun a b => Md.nlt b.name a.name = false) := by
    have := List.pairwise_mergeSort (le := fun a b : Md.Br => !Md.nlt b.name a.name) (by
      intro a b c h1 h2
      simp only [Bool.not_eq_true'] at *
      exact nlt_ntrans h2 h1) (by
      intro a b
      cases e : Md.nlt b.name a.name with
      | false => simp
      | true => simp [nlt_asym e]) (T.heads.map Md.toBr)
    exact this.imp (by intro a b h; simpa using h)
  refine List.Perm.eq_of_pairwise (le := fun a b : Md.Br => Md.nlt b.name a.name = false) ?_ hs s2 (hp.trans h2.symm)
  intro a b ha hb hab hba
  have e : a.name = b.name := nlt_total hba hab
  obtain ⟨x, hx, rfl⟩ := List.mem_map.1 (hp.mem_iff.1 ha)
  obtain ⟨y, hy, rfl⟩ := List.mem_map.1 (h2.mem_iff.1 hb)
  obtain ⟨x1, x2⟩ := x
  obtain ⟨y1, y2⟩ := y
  have e' : x1 = y1 := e
  subst e'
  have := (aget_of_mem hn hx).symm.trans (aget_of_mem hn hy)
  cases this
  rfl
set_option maxRecDepth 100000 in
set_option maxHeartbeats 16000000 in
theorem list_any (hj : j ≤ 2000) (hS : S.Ok p) (hI : Md.Inv j S.st) (H : Sat (ModelAt h S * (Pool p * F)) w)
    (hh : ∀ s w', s.Fit → Sat (AnsAt { versions := Md.vlist S.st, branches := Md.blist S.st } s * (ModelAt h S * (Pool p * F))) w' → Io w w' → R (.returned (ansV { versions := Md.vlist S.st, branches := Md.blist S.st } s)) w') :
    Calls Tryz.prog 33 #[h.ptr] w R := by
  have HH := Lib.hid hh
  clear hh
  have H0 := ansZ_new H
  have I0 := io_ansZ w
  have H00 : Sat (ansA (w.heap.size + 1) {} nil4 * (ansZ w.heap.size * (ModelAt h S * (Pool p * F)))) ((w.alloc (.cells #[.int .i64 0, .int .i64 0, .bool false, .int .i64 0, .slice none 0 0, .slice none 0 0, .slice none 0 0, .slice none 0 0] 37)).alloc (.cells #[.int .i64 0, .int .i64 0, .bool false, .int .i64 0, .slice none 0 0, .slice none 0 0, .slice none 0 0, .slice none 0 0] 37)) := by
    have := H0.new (.cells #[.int .i64 0, .int .i64 0, .bool false, .int .i64 0, .slice none 0 0, .slice none 0 0, .slice none 0 0, .slice none 0 0] 37)
    have e : (w.alloc (.cells #[.int .i64 0, .int .i64 0, .bool false, .int .i64 0, .slice none 0 0, .slice none 0 0, .slice none 0 0, .slice none 0 0] 37)).heap.size = w.heap.size + 1 := by simp
    rw [e] at this
    exact this
  have I00 := I0.trans (io_ansZ _)
  have hkeys : ∀ x ∈ S.vers, 0 ≤ x.1 ∧ x.1 ≤ 1000000000 := by
    intro x hx
    have e : aget S.vers x.1 = some x.2 := aget_of_mem (keys_nodup (ModelAt.asV H)) (by obtain ⟨a, b⟩ := x; exact hx)
    have := hI.ids x.1 (by rw [vers_some, e]; rfl)
    have := hI.next
    omega
  have hlen := inv_len hI
  have hndv := keys_nodup (ModelAt.asV H)
  have hndh := keys_nodup (ModelAt.asH H)
  have hvl := Lib.hid (fun id => inv_vv hI id)
  have hsl := Lib.hid (fun id => (hS.vv id).slice H.right)
  have HK := Lib.hid hkeys
  have HND := Lib.hid (And.intro hndv hndh)
  clear H0 I0 hkeys hndv hndh
  go_enter Tryz.func33, Tryz.ntmps33
  go_upto_region 2 with fail
  generalize (w.alloc (.cells #[.int .i64 0, .int .i64 0, .bool false, .int .i64 0, .slice none 0 0, .slice none 0 0, .slice none 0 0, .slice none 0 0] 37)).alloc (.cells #[.int .i64 0, .int .i64 0, .bool false, .int .i64 0, .slice none 0 0, .slice none 0 0, .slice none 0 0, .slice none 0 0] 37) = w0 at *
  generalize w.heap.size + 1 = q at *
  generalize w.heap.size = r at *
  have H1 : Sat (ModelAt h S * (ansA q {} nil4 * (ansZ r * (Pool p * F)))) w0 := H00.of_eq (by ac_rfl)
  obtain ⟨c0, c1, c2, c3⟩ := ModelAt.cells H1
  have HV := ModelAt.asV H1
  clear H00
  go_wp2_with (first
    | (go_at_call 62; with_reducible refine keys_any h.bv HV ?_; intro H2)
    | (go_at_call 61; with_reducible refine sortedkeys_any HK.out (by omega) HV ?_; intro v ss w3 hp hs H3 I3; obtain ⟨ka, kc, rfl⟩ := row_slice2 H3; replace hp := Lib.hid hp; replace hs := Lib.hid hs))
  have hssl : ss.length ≤ 2001 := by have := hp.out.length_eq; rw [List.length_map] at this; omega
  have HX := Lib.hid (fun (G : Asn) W (hW : Sat (RowI (.slice ka ss.length kc) ss * G) W) => Reads.of_row hW (by omega))
  have K3 : Sat (ansA q { versions := (ss.take 0).map (verOf S) } nil4 * (RowV (.slice none 0 0) ((ss.take 0).map (verOf S)) * (RowI (.slice ka ss.length kc) ss * (ModelAt h S * (ansZ r * (Pool p * F)))))) w3 := (rowV_nil H3).of_eq (by unfold ModelAt MapsAt; simp only [List.take_zero, List.map_nil]; ac_rfl)
  replace I3 := I00.trans I3
  clear HV H2 H1 c0 c1 c2 c3 I00 H3
  go_loopw [16] (fun x wr => ∃ (k : Nat) (sv : Value), k ≤ ss.length ∧ x = .int .i64 (k : Int) ∧ Sat (ansA q { versions := (ss.take k).map (verOf S) } { nil4 with v := sv } * (RowV sv ((ss.take k).map (verOf S)) * (RowI (.slice ka ss.length kc) ss * (ModelAt h S * (ansZ r * (Pool p * F)))))) wr ∧ Io w wr) (fun x _ => ss.length - (intOf x).toNat)
  case atStart => exact ⟨0, _, by omega, rfl, K3, I3⟩
  case round =>
    obtain ⟨k, sv, hk, rfl, Hk, Ik⟩ := hrel
    clear K3 I3
    by_cases hlt : k < ss.length
    · have hlti : (k : Int) < (ss.length : Int) := by omega
      have hk0 : (0 : Int) ≤ (k : Int) := by omega
      have M1 : Sat (RowI (.slice ka ss.length kc) ss * (ansA q { versions := (ss.take k).map (verOf S) } { nil4 with v := sv } * (RowV sv ((ss.take k).map (verOf S)) * (ModelAt h S * (ansZ r * (Pool p * F)))))) wr := Hk.of_eq (by ac_rfl)
      obtain ⟨kb, ko, id, rfl, hid, hc⟩ := readsI_get (HX.out _ _ M1) k hlt
      have z0 := hc wr M1
      obtain ⟨va, vc, hva⟩ := hsl.out id
      have E1 : Sat (ModelAt h S * (ansA q { versions := (ss.take k).map (verOf S) } { nil4 with v := sv } * (RowV sv ((ss.take k).map (verOf S)) * (RowI (.slice (some ⟨kb, ko, none⟩) ss.length kc) ss * (ansZ r * (Pool p * F)))))) wr := Hk.of_eq (by ac_rfl)
      have e1 := look_ver E1 id
      rw [hva] at e1
      obtain ⟨c0, c1, c2, c3⟩ := ModelAt.cells E1
      obtain ⟨pr, hpr⟩ : ∃ n, n = (S.vv id).1 := ⟨_, rfl⟩
      obtain ⟨le, hle⟩ : ∃ n, n = (S.vv id).2.2.length := ⟨_, rfl⟩
      have hb2 := hvl.out id
      rw [← hpr, ← hle] at e1
      rw [← hle] at hb2
      obtain ⟨L, hL⟩ : ∃ L, L = (ss.take k).map (verOf S) := ⟨_, rfl⟩
      have HL2 : Hid ((ss.take (k + 1)).map (verOf S) = L ++ [⟨id, pr, 0, (le : Int)⟩]) := Lib.hid (by
        rw [List.take_succ_eq_append_getElem hlt, List.map_append, ← hL]
        simp only [List.map_cons, List.map_nil, hid, verOf, hpr, hle])
      have hLl : L.length ≤ 2001 := by rw [hL, List.length_map, List.length_take]; omega
      rw [← hL] at Hk
      clear hva hpr hle hL E1 M1 hc
      have A1 : Sat (RowV sv L * (ansA q { versions := L } { nil4 with v := sv } * (RowI (.slice (some ⟨kb, ko, none⟩) ss.length kc) ss * (ModelAt h S * (ansZ r * (Pool p * F)))))) (wr.alloc (.cells #[.int .i64 pr, .slice va le vc] 69)) := (Hk.alloc _).of_eq (by ac_rfl)
      have I4 := Ik.alloc (.cells #[.int .i64 pr, .slice va le vc] 69)
      obtain ⟨d0, d1, d2, d3, d4, d5, d6, d7⟩ := ansA_reads A1.right
      go_upto_region 6 with fail
      have X0 := Sat.read ((Hk.new (.cells #[.int .i64 pr, .slice va le vc] 69)).left.at) 0
      have X1 := Sat.read ((Hk.new (.cells #[.int .i64 pr, .slice va le vc] 69)).left.at) 1
      simp only [List.getElem?_toArray, List.getElem?_cons_zero, List.getElem?_cons_succ] at X0 X1
      generalize wr.alloc (.cells #[.int .i64 pr, .slice va le vc] 69) = w1 at *
      generalize wr.heap.size = bx at *
      clear e1 c0 c1 c2 c3
      go_wp2_with (at_builtin; first
        | (refine wpList_append_rec Tryz.rowV encV4_ok rfl (.tmp 27) (.tmp 35) rfl rfl A1 (by omega) (⟨id, pr, 0, (le : Int)⟩ : Md.Ver) rfl rfl ?_; intro v3 w3 H3 I3; obtain ⟨ga, gl, gc, rfl⟩ := row_slice H3; have M3 : Sat (ansA q { versions := L } { nil4 with v := sv } * (RowV (.slice ga gl gc) (L ++ [⟨id, pr, 0, (le : Int)⟩]) * (RowI (.slice (some ⟨kb, ko, none⟩) ss.length kc) ss * (ModelAt h S * (ansZ r * (Pool p * F)))))) w3 := sat_swap H3; have z6 := (ansA_reads M3).2.2.2.2.2.2.1; have fz := ansA_free M3 6))
      have M4 := ansA_set6 M3 (.slice ga gl gc) (L ++ [(⟨id, pr, 0, (le : Int)⟩ : Md.Ver)])
      have I5 := (I4.trans I3).setCell ⟨q, 6, none⟩ (.slice ga gl gc)
      go_roundw
      case rel => exact ⟨k + 1, _, by omega, by go_num, by rw [HL2.out]; exact M4, I5⟩
      case measure => simp [intOf]; omega
    · obtain rfl : k = ss.length := by omega
      have hge : ¬ (ss.length : Int) < (ss.length : Int) := by omega
      have hV : (ss.take ss.length).map (verOf S) = Md.vlist S.st := by rw [List.take_length]; exact vlist_of HND.out.1 hp.out hs.out
      rw [hV] at Hk
      clear hV
      generalize Md.vlist S.st = V at *
      have E1 : Sat (ModelAt h S * (ansA q { versions := V } { nil4 with v := sv } * (RowV sv V * (RowI (.slice ka ss.length kc) ss * (ansZ r * (Pool p * F)))))) wr := Hk.of_eq (by ac_rfl)
      obtain ⟨c0, c1, c2, c3⟩ := ModelAt.cells E1
      have HA := ModelAt.asH E1
      clear E1
      go_wp2_with (at_range; refine wpList_range_sl Tryz.underlying71 rfl (.tmp 42) rfl rfl HA ?_; intro w4 H4 I4)
      try go_frame
      replace I4 := Ik.trans I4
      clear c0 c1 c2 c3 HA Hk Ik
      generalize wr.heap.size = rb at *
      obtain ⟨G, hG⟩ : ∃ G, G = MCell h S.next * (MapAt ekI evV h.bv S.vers * (MapAt ekS evP h.bp S.pend * (RowV sv V * (RowI (.slice ka ss.length kc) ss * (ansZ r * (Pool p * F)))))) := ⟨_, rfl⟩
      have K4 : Sat (ansA q { versions := V, branches := [] } { nil4 with v := sv, b := .slice none 0 0 } * (RowB (.slice none 0 0) [] * (Ranging ekS ekI h.bh rb S.heads S.heads none * G))) w4 := (rowB_nil H4).of_eq (by rw [hG]; show _ * (_ * (_ * (_ * (_ * (ansA q { versions := V } { nil4 with v := sv } * _))))) = ansA q { versions := V } { nil4 with v := sv } * _; ac_rfl)
      have HG := Lib.hid hG
      clear hG H4
      go_loopw [44] (fun _ wr => ∃ (left : List (Nm × Int)) (L : List Md.Br) (sb : Value), Hid ((L ++ left.map Md.toBr).Perm (S.heads.map Md.toBr)) ∧ Sat (ansA q { versions := V, branches := L } { nil4 with v := sv, b := sb } * (RowB sb L * (Ranging ekS ekI h.bh rb S.heads left none * G))) wr ∧ Io w wr) (fun _ wr => rngLeft h.bh rb wr)
      case atStart => exact ⟨S.heads, [], _, Lib.hid (List.Perm.refl _), K4, I4⟩
      case round =>
        obtain ⟨left, L, sb, hl, Hk, Ik⟩ := hrel
        clear K4 I4
        have RK : Sat (Ranging ekS ekI h.bh rb S.heads left none * (ansA q { versions := V, branches := L } { nil4 with v := sv, b := sb } * (RowB sb L * G))) wr := Hk.of_eq (by ac_rfl)
        have hm := rngLeft_eq RK
        have hLl : L.length ≤ 2001 := by
          have := hl.out.length_eq
          simp only [List.length_append, List.length_map] at this
          omega
        go_wp2_with (at_next; refine wpList_next_sl rfl (.tmp 43) rfl rfl RK ?_ ?_)
        · intro h0
          subst h0
          have KS : Sat (ansA q { versions := V, branches := L } { nil4 with v := sv, b := sb } * (RowB sb L * (ModelAt h S * (RowV sv V * (RowI (.slice ka ss.length kc) ss * (ansZ r * (Pool p * F))))))) wr := (Ranging.stop RK).of_eq (by rw [HG.out]; unfold ModelAt MapsAt; ac_rfl)
          have hpl : L.Perm (S.heads.map Md.toBr) := by have := hl.out; simpa using this
          have HPL := Lib.hid hpl
          clear hpl hl hm RK Hk
          obtain ⟨y0, y1, y2, y3, y4, y5, y6, y7⟩ := ansA_reads KS
          have KB : Sat (RowB sb L * (ansA q { versions := V, branches := L } { nil4 with v := sv, b := sb } * (ModelAt h S * (RowV sv V * (RowI (.slice ka ss.length kc) ss * (ansZ r * (Pool p * F))))))) wr := sat_swap KS
          obtain ⟨_, ⟨rfl, hz, _⟩ | ⟨g, cap, cur, rfl, _⟩⟩ := sat_row.1 KB
          · have hL0 : L = [] := List.eq_nil_of_length_eq_zero hz
            subst hL0
            clear hz
            go_upto_region 13 with (go_at_call 63; with_reducible refine sortbrs_none none 0 _ ?_)
            have hB : [] = Md.blist S.st := blist_of (T := S.st) HND.out.2 HPL.out List.Pairwise.nil
            rw [← hB] at HH
            clear hB
            have P5 : Sat (ansZ r * (ansA q { versions := V, branches := [] } { nil4 with v := sv, b := (.slice none 0 0) } * (RowB (.slice none 0 0) [] * (ModelAt h S * (RowV sv V * (RowI (.slice ka ss.length kc) ss * (Pool p * F))))))) wr := KS.of_eq (by ac_rfl)
            obtain ⟨y0, y1, y2, y3, y4, y5, y6, y7⟩ := ansA_reads P5.right
            have hfit : (⟨nil4.c, nil4.p, sv, (.slice none 0 0)⟩ : Sl4).Fit := ⟨rfl, rfl, row_fit P5.right.right.right.right, rfl⟩
            go_wp2_with (with_reducible refine store_ans (A := { versions := V, branches := [] }) (s := ⟨nil4.c, nil4.p, sv, (.slice none 0 0)⟩) rfl (.tmp 2) (.tmp 60) rfl rfl hfit P5 rfl ?_; intro w8 H8 I8; obtain ⟨e0, e1, e2, e3, e4, e5, e6, e7⟩ := ansA_reads H8)
            have H9 : Sat (RowV sv V * (RowB (.slice none 0 0) [] * (ModelAt h S * (Pool p * F)))) w8 := (H8.of_eq (show _ = (ansA r { versions := V, branches := [] } ⟨nil4.c, nil4.p, sv, (.slice none 0 0)⟩ * (ansA q { versions := V, branches := [] } { nil4 with v := sv, b := (.slice none 0 0) } * RowI (.slice ka ss.length kc) ss)) * (RowV sv V * (RowB (.slice none 0 0) [] * (ModelAt h S * (Pool p * F)))) from by ac_rfl)).right
            exact bodyPost_ret (v := ansV { versions := V, branches := [] } ⟨nil4.c, nil4.p, sv, (.slice none 0 0)⟩) (by simp [results, Tryz.results33, go_sem, e0, e1, e2, e3, e4, e5, e6, e7]) rfl (HH.out ⟨nil4.c, nil4.p, sv, (.slice none 0 0)⟩ _ hfit (ansAt_vb rfl rfl rfl rfl H9) (Ik.trans I8))
          · go_upto_region 13 with (go_at_call 63; with_reducible refine sortbrs_any KB (by omega) ?_; intro L' w5 hp5 hs5 H5 I5; replace hp5 := Lib.hid hp5; replace hs5 := Lib.hid hs5)
            have hll : L'.length = L.length := hp5.out.length_eq
            have KS5 : Sat (ansA q { versions := V, branches := L' } { nil4 with v := sv, b := .slice (some ⟨g, 0, none⟩) L.length cap } * (RowB (.slice (some ⟨g, 0, none⟩) L.length cap) L' * (ModelAt h S * (RowV sv V * (RowI (.slice ka ss.length kc) ss * (ansZ r * (Pool p * F))))))) w5 := sat_swap H5
            have hB : L' = Md.blist S.st := blist_of (T := S.st) HND.out.2 (hp5.out.trans HPL.out) hs5.out
            rw [← hB] at HH
            clear hB
            have P5 : Sat (ansZ r * (ansA q { versions := V, branches := L' } { nil4 with v := sv, b := (.slice (some ⟨g, 0, none⟩) L.length cap) } * (RowB (.slice (some ⟨g, 0, none⟩) L.length cap) L' * (ModelAt h S * (RowV sv V * (RowI (.slice ka ss.length kc) ss * (Pool p * F))))))) w5 := KS5.of_eq (by ac_rfl)
            obtain ⟨y0, y1, y2, y3, y4, y5, y6, y7⟩ := ansA_reads P5.right
            have hfit : (⟨nil4.c, nil4.p, sv, (.slice (some ⟨g, 0, none⟩) L.length cap)⟩ : Sl4).Fit := ⟨rfl, rfl, row_fit P5.right.right.right.right, rfl⟩
            go_wp2_with (with_reducible refine store_ans (A := { versions := V, branches := L' }) (s := ⟨nil4.c, nil4.p, sv, (.slice (some ⟨g, 0, none⟩) L.length cap)⟩) rfl (.tmp 2) (.tmp 60) rfl rfl hfit P5 rfl ?_; intro w8 H8 I8; obtain ⟨e0, e1, e2, e3, e4, e5, e6, e7⟩ := ansA_reads H8)
            have H9 : Sat (RowV sv V * (RowB (.slice (some ⟨g, 0, none⟩) L.length cap) L' * (ModelAt h S * (Pool p * F)))) w8 := (H8.of_eq (show _ = (ansA r { versions := V, branches := L' } ⟨nil4.c, nil4.p, sv, (.slice (some ⟨g, 0, none⟩) L.length cap)⟩ * (ansA q { versions := V, branches := L' } { nil4 with v := sv, b := (.slice (some ⟨g, 0, none⟩) L.length cap) } * RowI (.slice ka ss.length kc) ss)) * (RowV sv V * (RowB (.slice (some ⟨g, 0, none⟩) L.length cap) L' * (ModelAt h S * (Pool p * F)))) from by ac_rfl)).right
            exact bodyPost_ret (v := ansV { versions := V, branches := L' } ⟨nil4.c, nil4.p, sv, (.slice (some ⟨g, 0, none⟩) L.length cap)⟩) (by simp [results, Tryz.results33, go_sem, e0, e1, e2, e3, e4, e5, e6, e7]) rfl (HH.out ⟨nil4.c, nil4.p, sv, (.slice (some ⟨g, 0, none⟩) L.length cap)⟩ _ hfit (ansAt_vb rfl rfl rfl rfl H9) ((Ik.trans I5).trans I8))
        · intro l1 nm hd l2 w5 e5 H5 I5
          have e6 := run_entry (P := Tryz.prog) H5
          have hm5 := rngLeft_eq H5
          have HL2 : Hid (((L ++ [(⟨nm, hd⟩ : Md.Br)]) ++ (l1 ++ l2).map Md.toBr).Perm (S.heads.map Md.toBr)) := Lib.hid (by
            refine List.Perm.trans ?_ hl.out
            rw [e5, List.map_append, List.map_append, List.map_cons, List.append_assoc]
            refine List.Perm.append_left _ ?_
            show (Md.toBr (nm, hd) :: (l1.map Md.toBr ++ l2.map Md.toBr)).Perm _
            exact List.perm_middle.symm)
          have A1 : Sat (RowB sb L * (ansA q { versions := V, branches := L } { nil4 with v := sv, b := sb } * (Ranging ekS ekI h.bh rb S.heads (l1 ++ l2) (some (nm, hd)) * G))) w5 := H5.of_eq (by ac_rfl)
          obtain ⟨d0, d1, d2, d3, d4, d5, d6, d7⟩ := ansA_reads A1.right
          have hmm : rngLeft h.bh rb w5 < rngLeft h.bh rb wr := by rw [hm, hm5, e5]; simp
          clear hm hm5 hl Hk RK
          go_wp2_with (at_builtin; first
            | (refine wpList_append_rec Tryz.rowB encBr_ok rfl (.tmp 50) (.tmp 54) rfl rfl A1 (by omega) (⟨nm, hd⟩ : Md.Br) rfl rfl ?_; intro v3 w3 H3 I3; obtain ⟨ga, gl, gc, rfl⟩ := row_slice H3; have M3 : Sat (ansA q { versions := V, branches := L } { nil4 with v := sv, b := sb } * (RowB (.slice ga gl gc) (L ++ [(⟨nm, hd⟩ : Md.Br)]) * (Ranging ekS ekI h.bh rb S.heads (l1 ++ l2) (some (nm, hd)) * G))) w3 := sat_swap H3; have z7 := (ansA_reads M3).2.2.2.2.2.2.2; have fz := ansA_free M3 7))
          have M4 := ansA_set7 M3 (.slice ga gl gc) (L ++ [(⟨nm, hd⟩ : Md.Br)])
          have M5 : Sat (Ranging ekS ekI h.bh rb S.heads (l1 ++ l2) (some (nm, hd)) * (ansA q { versions := V, branches := L ++ [(⟨nm, hd⟩ : Md.Br)] } { nil4 with v := sv, b := .slice ga gl gc } * (RowB (.slice ga gl gc) (L ++ [(⟨nm, hd⟩ : Md.Br)]) * G))) _ := M4.of_eq (by ac_rfl)
          have I6 := ((Ik.trans I5).trans I3).setCell ⟨q, 7, none⟩ (.slice ga gl gc)
          have hm6 := rngLeft_eq M5
          have M6 := Ranging.forget M5
          have hm9 := rngLeft_eq H5
          go_roundw
          case rel => exact ⟨l1 ++ l2, L ++ [(⟨nm, hd⟩ : Md.Br)], _, HL2, M6.of_eq (by ac_rfl), I6⟩
          case measure => rw [hm6]; rw [hm9] at hmm; exact hmm
end
end Go.Proofs.YtabpgejjnphfcaaGreat
