/-
  adj.Edges, by walks. It proves no statement by itself.
-/
import Derived.Test.YthbbdicdcmjpiaaGreatDoorR40
import Derived.Test.YthbbdicdcmjpiaaGreatDoorR41
import Derived.Test.YthbbdicdcmjpiaaGreatDoorR10
namespace Go.Proofs.YthbbdicdcmjpiaaGreatDoor
open Go.RowKit Go.Lib
set_option linter.unusedSimpArgs false
set_option linter.unusedVariables false
set_option linter.unusedSectionVars false
def EdgBox (bo : Nat) (l : List Pr) : Asn := ex fun v : Value => pts bo (.cells #[v] 29 (0, 0)) * RowP v l
section
variable {a : Nat} {c : Cq} {F : Asn} {w : World} {R : Ending → World → Prop} {es : List Ky.En} {q g : Nat}
theorem sat_edg {bo : Nat} {l : List Pr} : Sat (EdgBox bo l * F) w ↔ ∃ v, Sat (pts bo (.cells #[v] 29 (0, 0)) * (RowP v l * F)) w := by
  have e0 : EdgBox bo l * F = (ex fun v : Value => pts bo (.cells #[v] 29 (0, 0)) * RowP v l) * F := rfl
  rw [e0, sat_ex]
  constructor
  · rintro ⟨v, h⟩; exact ⟨v, h.of_eq (by ac_rfl)⟩
  · rintro ⟨v, h⟩; exact ⟨v, h.of_eq (by ac_rfl)⟩
theorem rowP_form3 {v : Value} {l : List Pr} (H : Sat (RowP v l * F) w) : ∃ a n c, v = .slice a n c := by
  obtain ⟨_, ⟨rfl, _⟩ | ⟨g, cap, cur, rfl, _⟩⟩ := sat_row.1 H
  · exact ⟨_, _, _, rfl⟩
  · exact ⟨_, _, _, rfl⟩
set_option maxRecDepth 100000 in
set_option maxHeartbeats 8000000 in
theorem edges_each {bo : Nat} : EachOk (EdgBox bo) Aj.proom 46 #[.pointer (some ⟨bo, 0, none⟩)] Aj.est := by
  intro F w R acc u v t hb H hR
  by_cases hlt : u < v
  · obtain ⟨vv, H0⟩ := sat_edg.1 H
    have HH := Lib.hid hR
    have hes : Aj.est acc (u, v, t) = acc ++ [(u, v)] := by unfold Aj.est; rw [if_pos hlt]
    rw [hes] at HH
    have HBD : Hid (acc.length ≤ 99999) := Lib.hid (by unfold Aj.proom at hb; omega)
    have HP := H0.of_eq (show _ = RowP vv acc * (pts bo (.cells #[vv] 29 (0, 0)) * F) from by unfold RowP; ac_rfl)
    obtain ⟨z0, z1⟩ := nd1 HP.right
    clear hR hb H H0 hes
    go_enter Tryz.func46, Tryz.ntmps46
    go_wp2_with (at_builtin; refine wpList_append_pair rfl (.tmp 10) (.tmp 14) rfl rfl HP (by have := HBD.out; omega) (x1 := u) (x2 := v) rfl (by simp) ?_; intro v3 w3 H3 I3; have H4 := H3.of_eq (show _ = pts bo (.cells #[vv] 29 (0, 0)) * (RowP v3 (acc ++ [(u, v)]) * F) from by unfold RowP; ac_rfl); have Z := nd1 H4; obtain ⟨z0, z1⟩ := Z; obtain ⟨a3, n3, c3, hq⟩ := rowP_form3 H3; subst hq)
    have H5 := H4.cell 0 (.slice a3 n3 c3)
    go_end0
    exact HH.out _ (sat_edg.2 ⟨.slice a3 n3 c3, H5⟩) (I3.setCell _ _)
  · have HH := Lib.hid hR
    have hes : Aj.est acc (u, v, t) = acc := by unfold Aj.est; rw [if_neg hlt]
    rw [hes] at HH
    clear hR hb hes
    go_enter Tryz.func46, Tryz.ntmps46
    go_wp2_with fail
    go_end0
    exact HH.out _ H (Io.refl w)
theorem edg_box {X : Asn} (H : Sat (X * F) w) : Sat (X * (EdgBox w.heap.size [] * F)) (w.alloc (.cells #[.slice none 0 0] 29)) := by
  have H1 := H.new (.cells #[.slice none 0 0] 29)
  have H2 := (row_nilP H1).of_eq (show _ = pts w.heap.size (.cells #[.slice none 0 0] 29 (0, 0)) * (RowP (.slice none 0 0) [] * (X * F)) from by unfold RowP; ac_rfl)
  exact (sat_edg.2 ⟨_, H2⟩).of_eq (by ac_rfl)
theorem callEdges (args : Array Value) (w : World) : (callFunc 46 args).run Tryz.prog w = .ok (.enter 46 args) w := enters_of Tryz.func46 (by kernel_rfl) rfl args w
theorem scan_len (k1 k2 : Ky.Nm) : (Tb.scan k1 k2 es).length ≤ es.length := by
  rw [Tb.scan_eq]
  have h1 := (List.takeWhile_sublist (Tb.under k2) (l := Tb.frm k1 es)).length_le
  unfold Tb.frm at h1 ⊢
  rw [List.length_drop] at h1
  omega
/-- Edges' call of entries. -/
theorem edges_entries {bo : Nat} {k1 k2 : ByteArray} (hk1 : Hid (k1 = Aj.pA)) (hk2 : Hid (k2 = Aj.pB)) (hg : g ≤ 240) (hl : Hid (es.length ≤ 100000)) (hgood : Hid (∀ x ∈ Tb.scan Aj.pA Aj.pB es, Aj.Good x))
    (H : Sat (AjAt a c es q g * (EdgBox bo [] * F)) w)
    (hR : ∀ v w', Sat (pts bo (.cells #[v] 29 (0, 0)) * (RowP v (Aj.edges es) * (AjAt a c es q g * F))) w' → Io w w' → R (.returned (.int .i64 0)) w') :
    Calls Tryz.prog 45 #[.pointer (some ⟨a, 0, none⟩), .string k1, .string k2, .func (.func 46) #[] #[.pointer (some ⟨bo, 0, none⟩)]] w R := by
  obtain rfl := hk1.out
  obtain rfl := hk2.out
  have hln := scan_len (es := es) Aj.pA Aj.pB
  have hl0 := hl.out
  refine aentries_any callEdges Aj.proom_ok edges_each Aj.pA Aj.pB (s0 := []) hg hl.out (by decide) hgood.out (by
    unfold Aj.proom
    simp only [List.length_nil]
    omega) H fun w' H' I => ?_
  rw [Aj.edges_fold] at H'
  rw [List.nil_append] at H'
  obtain ⟨v, H2⟩ := sat_edg.1 (H'.of_eq (show _ = EdgBox bo (Aj.edges es) * (AjAt a c es q g * F) from by unfold Aj.edges; ac_rfl))
  exact hR v w' H2 I
set_option maxRecDepth 100000 in
set_option maxHeartbeats 8000000 in
/-- ALL EDGES. -/
theorem edges_any (hg : g ≤ 240) (hl : es.length ≤ 100000) (hgood : ∀ x ∈ Tb.scan Aj.pA Aj.pB es, Aj.Good x)
    (H : Sat (AjAt a c es q g * F) w)
    (hR : ∀ v w', Sat (RowP v (Aj.edges es) * (AjAt a c es q g * F)) w' → Io w w' → R (.returned (.tuple #[v, .int .i64 0])) w') :
    Calls Tryz.prog 17 #[.pointer (some ⟨a, 0, none⟩)] w R := by
  have HH := Lib.hid hR
  have HG := Lib.hid hgood
  have HL := Lib.hid hl
  have KL : Hid ((⟨#[65]⟩ : ByteArray) = Aj.pA) := Lib.hid rfl
  have KU : Hid ((⟨#[66]⟩ : ByteArray) = Aj.pB) := Lib.hid rfl
  clear hR hgood hl
  go_enter Tryz.func17, Tryz.ntmps17
  go_wp2_with (go_at_call 45; have H4 := edg_box H; have I4 := (Io.refl w).alloc (.cells #[.slice none 0 0] 29); (refine edges_entries KL KU hg HL HG H4 ?_); intro v w5 H5 I5; have Z := nd1 H5; obtain ⟨y0, y1⟩ := Z)
  exact HH.out v _ (H5.of_eq (show _ = (RowP v (Aj.edges es) * (AjAt a c es q g * F)) * pts w.heap.size (.cells #[v] 29 (0, 0)) from by unfold RowP; ac_rfl)).left (I4.trans I5)
end
end Go.Proofs.YthbbdicdcmjpiaaGreatDoor

/-
  adj.Pick, by a walk. It proves no statement by itself.
-/
namespace Go.Proofs.YthbbdicdcmjpiaaGreatDoor
open Go.RowKit Go.Lib
set_option linter.unusedSimpArgs false
set_option linter.unusedVariables false
set_option linter.unusedSectionVars false
def encZ (n : Int) : List Value := [.int .i64 n]
theorem encZ_ok : Enc encZ 1 := ⟨fun _ => rfl, fun x u hu => by simp [encZ] at hu; subst hu; rfl⟩
abbrev ReadsZ (F : Asn) (v : Value) (l : List Int) : Prop := Reads encZ F v l
theorem readsZ_get {F : Asn} {a : Option Addr} {n c : Nat} {l : List Int} (hl : ReadsZ F (.slice a n c) l) (k : Nat) (hk : k < l.length) : ∃ b off x, a = some ⟨b, off, none⟩ ∧ l[k] = x ∧ ∀ w, Sat F w → w.cell? ⟨b, off + k, none⟩ = some (.int .i64 x) := by
  obtain ⟨b, off, h1, h2⟩ := hl.get encZ_ok k hk
  refine ⟨b, off, _, h1, rfl, fun w hw => ?_⟩
  have := h2 w hw 0 _ (by omega) rfl
  simpa using this
theorem readsZ_len {F : Asn} {v : Value} {l : List Int} (h : ReadsZ F v l) : ∃ a c, v = .slice a l.length c ∧ (l.length : Int) ≤ 9223372036854775807 := by
  obtain ⟨a, c, h1, h2, _⟩ := h
  exact ⟨a, c, h1, by omega⟩
theorem readsW_get {F : Asn} {a : Option Addr} {n c : Nat} {l : List Nr} (hl : Reads encW F (.slice a n c) l) (k : Nat) (hk : k < l.length) : ∃ b off x y, a = some ⟨b, off, none⟩ ∧ l[k] = (x, y) ∧ ∀ w, Sat F w → w.cell? ⟨b, off + k * 2, none⟩ = some (.int .i64 x) ∧ w.cell? ⟨b, off + k * 2 + 1, none⟩ = some (.bool y) := by
  obtain ⟨b, off, h1, h2⟩ := hl.get encW_ok k hk
  refine ⟨b, off, _, _, h1, rfl, fun w hw => ⟨?_, ?_⟩⟩
  · have := h2 w hw 0 _ (by omega) rfl
    simpa using this
  · have := h2 w hw 1 _ (by omega) rfl
    simpa using this
namespace Aj
/-- The vertices that are left out, as the map holds them. -/
def outs (l : List Int) : List (Int × Bool) := l.foldl (fun M v => aput M v true) []
theorem outs_get_aux (l : List Int) : ∀ (M : List (Int × Bool)) (v : Int), aget (l.foldl (fun M v => aput M v true) M) v = if v ∈ l then some true else aget M v := by
  induction l with
  | nil => intro M v; simp
  | cons a l ih =>
    intro M v
    rw [List.foldl_cons, ih]
    by_cases h : v ∈ l
    · simp [h]
    · rw [if_neg h]
      by_cases e : a = v
      · subst e; rw [aget_put_same]; simp
      · rw [aget_put_other _ _ e, if_neg (by simp [h]; exact fun q => e q.symm)]
theorem outs_get (l : List Int) (v : Int) : aget (outs l) v = if v ∈ l then some true else none := outs_get_aux l [] v
theorem outs_take {l : List Int} {k : Nat} (h : k < l.length) : outs (l.take (k + 1)) = aput (outs (l.take k)) l[k] true := by
  unfold outs
  rw [List.take_succ_eq_append_getElem h, List.foldl_append]
  rfl
/-- Is it taken? -/
def fits (out : List Int) (x : Nr) : Bool := !x.2 && !decide (x.1 ∈ out)
def pick (out : List Int) (l : List Nr) : Int × Bool := match l.find? (fits out) with
  | some x => (x.1, true)
  | none => (0, false)
end Aj
abbrev OutAt (b : Nat) (l : List Int) : Asn := MapAt (fun n : Int => Value.int .i64 n) (fun b : Bool => Value.bool b) b (Aj.outs l)
theorem Tryz.zeroBo (w : World) : (zeroValue 4).run Tryz.prog w = .ok (.bool false) w := by kernel_rfl
theorem look_out {mb : Nat} {M : List Int} {F : Asn} {w : World} (H : Sat (OutAt mb M * F) w) (v : Int) {d : Bool} (hd : d = decide (v ∈ M)) :
    (Instr.lookup 108 (.map (some mb)) (.int .i64 v) false).run Tryz.prog w = .ok (.bool d) w := by
  have := run_lookup (P := Tryz.prog) (T := 108) intKey Tryz.underlying108 Tryz.underlying3 (Tryz.zeroBo w) H v false
  rw [Aj.outs_get] at this
  rw [this, hd]
  by_cases h : v ∈ M <;> simp [h]
section
variable {a : Nat} {c : Cq} {F : Asn} {w : World} {R : Ending → World → Prop} {es : List Ky.En} {q g : Nat}
set_option maxRecDepth 100000 in
set_option maxHeartbeats 8000000 in
/-- THE LEAST VERTEX beside one. -/
theorem pick_any {u : Int} {wv : Value} {l : List Int} (hv : ReadsZ F wv l) (hu : 0 ≤ u ∧ u < 1048576) (hg : g ≤ 240) (hl : es.length ≤ 100000) (hgood : ∀ x ∈ Tb.scan (Aj.lowK u) (Aj.upK u) es, Aj.Good x)
    (H : Sat (AjAt a c es q g * F) w)
    (hR : ∀ w', Sat (AjAt a c es q g * F) w' → Io w w' → R (.returned (.tuple #[.int .i64 (Aj.pick l (Aj.near es u)).1, .bool (Aj.pick l (Aj.near es u)).2, .int .i64 0])) w') :
    Calls Tryz.prog 32 #[.pointer (some ⟨a, 0, none⟩), .int .i64 u, wv] w R := by
  obtain ⟨wa, wc, rfl, hm⟩ := readsZ_len hv
  have HV := Lib.hid (fun k hk => readsZ_get hv k hk)
  have HH := Lib.hid hR
  have HG := Lib.hid hgood
  have HL := Lib.hid hl
  have HU := Lib.hid hu
  have H0 : Sat (OutAt w.heap.size [] * (AjAt a c es q g * F)) (w.alloc (.map #[] 0)) := map_new H
  have I0 := (Io.refl w).alloc (.map #[] 0)
  have hmm := @run_makeMap Tryz.prog
  clear hR hv hgood hl hu H
  go_enter Tryz.func32, Tryz.ntmps32
  go_wp2_with fail
  generalize w.heap.size = mb at *
  go_loopw [19] (fun x wr => ∃ k : Nat, k ≤ l.length ∧ x = .int .i64 (k : Int) ∧ Sat (OutAt mb (l.take k) * (AjAt a c es q g * F)) wr ∧ Io w wr) (fun x _ => l.length - (RowKit.intOf x).toNat)
  case atStart => exact ⟨0, by omega, rfl, H0, I0⟩
  case round =>
    obtain ⟨k, hk, rfl, Hk, Ik⟩ := hrel
    clear H0 I0
    by_cases hlt : k < l.length
    · have hlti : (k : Int) < (l.length : Int) := by omega
      have hk0 : (0 : Int) ≤ (k : Int) := by omega
      obtain ⟨b, off, y, rfl, hy, hc⟩ := HV.out k hlt
      have c0 := hc _ Hk.right.right
      have HS : Hid (Aj.outs (l.take (k + 1)) = aput (Aj.outs (l.take k)) y true) := Lib.hid (by rw [Aj.outs_take hlt, hy])
      clear hc hy
      go_wp2_with (at_mapUpdate; refine wpList_update_sl intKey Tryz.underlying108 Tryz.underlying3 rfl (.tmp 23) (.tmp 24) (.const (.bool true)) rfl rfl y rfl true rfl Hk ?_; intro w1 H1 I1; rw [← HS.out] at H1)
      go_roundw
      case rel => exact ⟨k + 1, by omega, by go_num, H1, Ik.trans I1⟩
      case measure => simp [RowKit.intOf]; omega
    · obtain rfl : k = l.length := by omega
      have hge : ¬ (l.length : Int) < (l.length : Int) := by omega
      rw [List.take_length] at Hk
      have HN := Hk.of_eq (show _ = AjAt a c es q g * (OutAt mb l * F) from by unfold AjAt; ac_rfl)
      obtain ⟨o, ho⟩ : ∃ o, o = Aj.pick l (Aj.near es u) := ⟨_, rfl⟩
      rw [← ho] at HH
      obtain ⟨nl, hnl⟩ : ∃ nl, nl = Aj.near es u := ⟨_, rfl⟩
      rw [← hnl] at ho
      have HO := Lib.hid ho
      have HNL := Lib.hid hnl
      have nlen : nl.length ≤ 100000 := by rw [hnl]; have := near_len (es := es) (u := u); have := HL.out; omega
      have nlen1 : (nl.length : Int) ≤ 100000 := by omega
      clear ho hnl Hk hm
      go_upto_region 8 with (go_at_call 29; (with_reducible refine near_any HU.out hg HL.out HG.out HN ?_); intro v w2 H2 I2)
      rw [← HNL.out] at H2
      have hrd := Reads.of_row (emp_r H2.left) (by omega)
      have HV0 := Lib.hid hrd
      obtain ⟨b0, n0, c0, hq⟩ := rowOf_form3 H2
      subst hq
      obtain rfl : n0 = nl.length := rowOf_ln H2
      have HVG := Lib.hid (fun k hk => readsW_get HV0.out k hk)
      have H3 := H2.of_eq (show _ = OutAt mb l * (RowW (.slice b0 nl.length c0) nl * (AjAt a c es q g * F)) from by unfold AjAt RowW; ac_rfl)
      have I3 := Ik.trans I2
      clear hrd H2 HN I2
      go_wp2_with fail
      go_loopw [37] (fun x wr => ∃ k : Nat, k ≤ nl.length ∧ x = .int .i64 (k : Int) ∧ Hid (o = Aj.pick l (nl.drop k)) ∧ Sat (OutAt mb l * (RowW (.slice b0 nl.length c0) nl * (AjAt a c es q g * F))) wr ∧ Io w wr) (fun x _ => nl.length - (RowKit.intOf x).toNat)
      case atStart => exact ⟨0, by omega, rfl, Lib.hid (by rw [List.drop_zero]; exact HO.out), H3, I3⟩
      case round =>
        obtain ⟨k, hk, rfl, hs, Hk, Ik⟩ := hrel
        clear H3 I3
        by_cases hlt : k < nl.length
        · have hlti : (k : Int) < (nl.length : Int) := by omega
          have hk0 : (0 : Int) ≤ (k : Int) := by omega
          obtain ⟨b, off, x, y, rfl, hx, hc⟩ := HVG.out k hlt
          obtain ⟨g0, g1⟩ := hc _ (emp_r Hk.right.left)
          have hdr := List.drop_eq_getElem_cons hlt
          rw [hx] at hdr
          have gs := hs.out
          rw [hdr] at gs
          unfold Aj.pick at gs
          rw [List.find?_cons] at gs
          have K2 := (Hk.new (.cells #[.int .i64 x, .bool y] 73))
          have J2 := Ik.alloc (.cells #[.int .i64 x, .bool y] 73)
          obtain ⟨q0, q1⟩ := nd2 K2
          have K3 := K2.right
          obtain ⟨d, hd⟩ : ∃ d, d = decide (x ∈ l) := ⟨_, rfl⟩
          have LK := look_out K3 x hd
          by_cases hf : Aj.fits l (x, y) = true
          · rw [hf] at gs
            obtain rfl : o = (x, true) := gs
            have hy : y = false := by unfold Aj.fits at hf; cases y <;> simp_all
            have hd2 : d = false := by unfold Aj.fits at hf; rw [hd]; simp_all
            subst hy
            subst hd2
            have FIN := Lib.hid (HH.out _ ((K3.of_eq (show _ = (AjAt a c es q g * F) * (OutAt mb l * RowW (.slice (some ⟨b, off, none⟩) nl.length c0) nl) from by unfold RowW AjAt; ac_rfl)).left) J2)
            clear hc hx hdr hs hf hd HO
            go_wp2_with fail
            exact bodyPost_ret (v := .tuple #[.int .i64 x, .bool true, .int .i64 0]) (by simp [results, Tryz.results32, go_sem]) rfl FIN.out
          · have hf : Aj.fits l (x, y) = false := by simpa using hf
            rw [hf] at gs
            have GS : Hid (o = Aj.pick l (nl.drop (k + 1))) := Lib.hid gs
            have hyd : y = true ∨ d = true := by unfold Aj.fits at hf; rw [hd]; cases y <;> simp_all
            clear hc hx hdr gs hs hf hd
            rcases hyd with rfl | rfl
            · go_wp2_with fail
              go_roundw
              case rel => exact ⟨k + 1, by omega, by go_num, GS, K3, J2⟩
              case measure => simp [RowKit.intOf]; omega
            · cases y with
              | true =>
                go_wp2_with fail
                go_roundw
                case rel => exact ⟨k + 1, by omega, by go_num, GS, K3, J2⟩
                case measure => simp [RowKit.intOf]; omega
              | false =>
                go_wp2_with fail
                go_roundw
                case rel => exact ⟨k + 1, by omega, by go_num, GS, K3, J2⟩
                case measure => simp [RowKit.intOf]; omega
        · obtain rfl : k = nl.length := by omega
          have hge : ¬ (nl.length : Int) < (nl.length : Int) := by omega
          have gs := hs.out
          rw [List.drop_length] at gs
          obtain rfl : o = (0, false) := gs
          have FIN := Lib.hid (HH.out _ ((Hk.of_eq (show _ = (AjAt a c es q g * F) * (OutAt mb l * RowW (.slice b0 nl.length c0) nl) from by unfold RowW AjAt; ac_rfl)).left) Ik)
          clear hs HVG HV0 HH HO
          go_wp2_with fail
          exact bodyPost_ret (v := .tuple #[.int .i64 0, .bool false, .int .i64 0]) (by simp [results, Tryz.results32, go_sem]) rfl FIN.out
end
end Go.Proofs.YthbbdicdcmjpiaaGreatDoor

/-
  law 17: edges, by walks. It proves no statement by itself.
-/
namespace Go.Proofs.YthbbdicdcmjpiaaGreatDoor
open Go.RowKit Go.Lib
set_option linter.unusedSimpArgs false
set_option linter.unusedVariables false
set_option linter.unusedSectionVars false
section
variable {a : Nat} {c : Cq} {F : Asn} {w : World} {R : Ending → World → Prop} {es : List Ky.En} {q g : Nat}
set_option maxRecDepth 100000 in
set_option maxHeartbeats 2000000 in
theorem ajnew_any (H : Sat (TrAt c es q g * F) w)
    (hR : ∀ a w', Sat (AjAt a c es q g * F) w' → Io w w' → R (.returned (.pointer (some ⟨a, 0, none⟩))) w') :
    Calls Tryz.prog 38 #[.pointer (some ⟨c.tr, 0, none⟩)] w R := by
  have H1 := H.new (.cells #[.pointer (some ⟨c.tr, 0, none⟩)] 86)
  have HH := Lib.hid (hR w.heap.size _ (H1.of_eq (show _ = AjAt w.heap.size c es q g * F from by unfold AjAt; ac_rfl)) ((Io.refl w).alloc _))
  clear hR
  go_enter Tryz.func38, Tryz.ntmps38
  go_wp2_with fail
  exact HH.out
theorem dnew_n {n : Nat} (hn : Hid (n ≤ 3000)) (H : Sat F w) (h : ∀ p w', Sat (IsDk p (Dk.new n) * F) w' → Io w w' → R (.returned (.pointer (some ⟨p, 0, none⟩))) w') :
    Calls Tryz.prog 37 #[.int .i64 (n : Int)] w R := by
  have hn0 := hn.out
  refine new_any (n : Int) (by omega) (by omega) H fun p w' H' I => h p w' ?_ I
  have en : (min (max (n : Int) 0) 16384).toNat = n := by omega
  rw [en] at H'
  exact H'
set_option maxRecDepth 100000 in
set_option maxHeartbeats 4000000 in
/-- NEW EDGES. -/
theorem ladj_any {n : Nat} (hn : n ≤ 3000) (H : Sat F w)
    (hR : ∀ a c w', c.k.n = n → Sat (AjAt a c [] 60 0 * F) w' → Io w w' → R (.returned (.tuple #[.pointer (some ⟨a, 0, none⟩), .pointer (some ⟨c.tr, 0, none⟩)])) w') :
    Calls Tryz.prog 8 #[.int .i64 (n : Int)] w R := by
  have HH := Lib.hid hR
  have HN := Lib.hid hn
  clear hR hn
  have n1 : (n : Int) ≤ 3000 := by have := HN.out; omega
  have n0 : (0 : Int) ≤ n := by omega
  go_enter Tryz.func8, Tryz.ntmps8
  go_wp2_with (first
    | (go_at_call 37; (with_reducible refine dnew_n HN H ?_); intro p w1 H1 I1)
    | (go_at_call 36; (with_reducible refine pf_new H1 ?_); intro q w2 H2 I2)
    | (go_at_call 35; (with_reducible refine alnew_any HN.out H2 ?_); intro t b w3 H3 I3)
    | (go_at_call 34; (with_reducible refine ctnew_any (k := ⟨t, b, q, p, n⟩) H3 ?_); intro tr w4 H4 I4; have H5 := tr_first (q := 60) (g := 0) H4)
    | (go_at_call 38; (with_reducible refine ajnew_any (c := ⟨tr, ⟨t, b, q, p, n⟩⟩) H5 ?_); intro a w6 H6 I6))
  exact HH.out a ⟨tr, ⟨t, b, q, p, n⟩⟩ w6 rfl H6 ((((I1.trans I2).trans I3).trans I4).trans I6)
end
namespace Aj
def ex1 : List Ky.En := Ky.put (Ky.put [] (ks 2 1) (vt true)) (ks 1 2) (vt true)
def ex2 : List Ky.En := Ky.put (Ky.put ex1 (ks 2 3) (vt false)) (ks 3 2) (vt false)
theorem ex2_near : near ex2 2 = [(1, true), (3, false)] := by decide +kernel
theorem ex2_edges : edges ex2 = [(1, 2), (2, 3)] := by decide +kernel
theorem ex2_get : Ky.get ex2 (ks 1 2) = some (vt true) := by decide +kernel
theorem ex2_pick : pick [] (near ex2 2) = (3, true) := by decide +kernel
theorem ex2_has : Ky.has (ks 1 9) ex2 = false := by decide +kernel
theorem ex2_key : ks 1 2 = ⟨#[65, 0, 0, 0, 1, 0, 0, 0, 2]⟩ := by decide +kernel
theorem ex2_len : ex2.length = 4 := by decide +kernel
theorem good_ks {u v : Int} (t : Bool) (h : Md.wrong u v = 0) : Good (ks u v, vt t) := ⟨u, v, t, h, rfl⟩
theorem ex2_eq : ex2 = [(ks 1 2, vt true), (ks 2 1, vt true), (ks 2 3, vt false), (ks 3 2, vt false)] := by decide +kernel
theorem ex2_good : ∀ x ∈ ex2, Good x := by
  rw [ex2_eq]
  intro x hx
  simp only [List.mem_cons, List.not_mem_nil, or_false] at hx
  rcases hx with rfl | rfl | rfl | rfl <;> exact good_ks _ (by decide +kernel)
end Aj
theorem scan_mem {es : List Ky.En} {a b : Ky.Nm} {x : Ky.En} (h : x ∈ Tb.scan a b es) : x ∈ es := by
  rw [Tb.scan_eq] at h
  have h1 := (List.takeWhile_sublist (Tb.under b)).subset h
  unfold Tb.frm at h1
  exact List.mem_of_mem_drop h1
section
variable {F : Asn} {w : World} {R : Ending → World → Prop}
variable {a : Nat} {c : Cq}
theorem most_60 {c : Cq} {q g : Nat} (hc : c.k.n = 60) (h : 30 + Tb.most q g < 60) : 30 + (Tb.most q g : Int) < c.k.room := by
  unfold Tq.room
  rw [hc]
  omega
theorem exset1 (hc : Hid (c.k.n = 60)) (H : Sat (AjAt a c [] 60 0 * F) w) (hR : ∀ w', Sat (AjAt a c Aj.ex1 84 2 * F) w' → Io w w' → R (.returned (.int .i64 0)) w') :
    Calls Tryz.prog 11 #[.pointer (some ⟨a, 0, none⟩), .int .i64 2, .int .i64 1, .bool true] w R :=
  aset_yes (by decide +kernel) (by have := hc.out; omega) (by omega) (by omega) (most_60 hc.out (by decide +kernel)) H hR
theorem exset2 (hc : Hid (c.k.n = 60)) (H : Sat (AjAt a c Aj.ex1 84 2 * F) w) (hR : ∀ w', Sat (AjAt a c Aj.ex2 108 4 * F) w' → Io w w' → R (.returned (.int .i64 0)) w') :
    Calls Tryz.prog 11 #[.pointer (some ⟨a, 0, none⟩), .int .i64 2, .int .i64 3, .bool false] w R :=
  aset_yes (by decide +kernel) (by have := hc.out; omega) (by omega) (by omega) (most_60 hc.out (by decide +kernel)) H hR
theorem exnear (H : Sat (AjAt a c Aj.ex2 108 4 * F) w) (hR : ∀ v w', Sat (RowW v [(1, true), (3, false)] * (AjAt a c Aj.ex2 108 4 * F)) w' → Io w w' → R (.returned (.tuple #[v, .int .i64 0])) w') :
    Calls Tryz.prog 29 #[.pointer (some ⟨a, 0, none⟩), .int .i64 2] w R := by
  refine near_any (by omega) (by omega) (by rw [Aj.ex2_len]; omega) (fun x hx => Aj.ex2_good x (scan_mem hx)) H ?_
  rw [Aj.ex2_near]
  exact hR
theorem exedges (H : Sat (AjAt a c Aj.ex2 108 4 * F) w) (hR : ∀ v w', Sat (RowP v [(1, 2), (2, 3)] * (AjAt a c Aj.ex2 108 4 * F)) w' → Io w w' → R (.returned (.tuple #[v, .int .i64 0])) w') :
    Calls Tryz.prog 17 #[.pointer (some ⟨a, 0, none⟩)] w R := by
  refine edges_any (by omega) (by rw [Aj.ex2_len]; omega) (fun x hx => Aj.ex2_good x (scan_mem hx)) H ?_
  rw [Aj.ex2_edges]
  exact hR
theorem readsZ_nil {G : Asn} : ReadsZ G (.slice none 0 0) [] := reads_none _ none 0
theorem expick (H : Sat (AjAt a c Aj.ex2 108 4 * F) w) (hR : ∀ w', Sat (AjAt a c Aj.ex2 108 4 * F) w' → Io w w' → R (.returned (.tuple #[.int .i64 3, .bool true, .int .i64 0])) w') :
    Calls Tryz.prog 32 #[.pointer (some ⟨a, 0, none⟩), .int .i64 2, .slice none 0 0] w R := by
  refine pick_any (l := []) readsZ_nil (by omega) (by omega) (by rw [Aj.ex2_len]; omega) (fun x hx => Aj.ex2_good x (scan_mem hx)) H ?_
  rw [Aj.ex2_pick]
  exact hR
theorem exget (H : Sat (AjAt a c Aj.ex2 108 4 * F) w) (hR : ∀ w', Sat (AjAt a c Aj.ex2 108 4 * F) w' → Io w w' → R (.returned (.tuple #[.bool true, .bool true, .int .i64 0])) w') :
    Calls Tryz.prog 33 #[.pointer (some ⟨a, 0, none⟩), .int .i64 1, .int .i64 2] w R :=
  aget_yes (val := Aj.vt true) (d := true) (m := true) (by decide +kernel) (by omega) (by decide +kernel) (Lib.hid (.inl ⟨rfl, Aj.ex2_get⟩)) (by decide +kernel) H hR
theorem exclear (hc : Hid (c.k.n = 60)) (H : Sat (AjAt a c Aj.ex2 108 4 * F) w) (hR : ∀ w', Sat (AjAt a c Aj.ex2 108 4 * F) w' → Io w w' → R (.returned (.int .i64 181)) w') :
    Calls Tryz.prog 14 #[.pointer (some ⟨a, 0, none⟩), .int .i64 1, .int .i64 9] w R :=
  aclear_yes (d := false) (by decide +kernel) (Lib.hid Aj.ex2_has.symm) (by have := hc.out; omega) (by omega) (by omega) (Lib.hid (most_60 hc.out (by decide +kernel))) H hR
theorem exset3 (H : Sat F w) (hR : ∀ w', Sat F w' → Io w w' → R (.returned (.int .i64 31)) w') :
    Calls Tryz.prog 11 #[.pointer (some ⟨a, 0, none⟩), .int .i64 1, .int .i64 1, .bool true] w R :=
  aset_no (e := 31) (Lib.hid (by decide +kernel)) (by decide) H hR
theorem exkey (H : Sat F w) (hR : ∀ w', Sat F w' → Io w w' → R (.returned (.string ⟨#[65, 0, 0, 0, 1, 0, 0, 0, 2]⟩)) w') :
    Calls Tryz.prog 19 #[.int .i64 1, .int .i64 2] w R := ajkey_any 1 2 (Lib.hid Aj.ex2_key.symm) H hR
/-- A row of two, its cells. -/
theorem two_row {α : Type} [Inhabited α] {enc : α → List Value} {e : TypeId} {v : Value} {x y : α} {p1 p2 q1 q2 : Value} (hx : enc x = [p1, p2]) (hy : enc y = [q1, q2]) (H : Sat (RowOf e 2 enc v [x, y] * F) w) :
    ∃ b cc, v = .slice (some ⟨b, 0, none⟩) 2 cc ∧ ∀ G w', Sat (RowOf e 2 enc (.slice (some ⟨b, 0, none⟩) 2 cc) [x, y] * G) w' → w'.cell? ⟨b, 0, none⟩ = some p1 ∧ w'.cell? ⟨b, 1, none⟩ = some p2 ∧ w'.cell? ⟨b, 2, none⟩ = some q1 ∧ w'.cell? ⟨b, 3, none⟩ = some q2 := by
  obtain ⟨_, ⟨rfl, h0, _⟩ | ⟨g, cap, cur, rfl, _⟩⟩ := sat_row.1 H
  · simp at h0
  · refine ⟨g, cap, rfl, fun G w' H' => ?_⟩
    obtain ⟨a1, n1, h1, h2⟩ := Reads.of_row H' (by simp)
    cases h1
    rcases h2.2 with h | ⟨b, off, hb, hc⟩
    · simp at h
    · cases hb
      have hcs : cellsOf enc [x, y] = [p1, p2, q1, q2] := by simp [cellsOf, hx, hy]
      rw [hcs] at hc
      have k0 := hc w' H' 0 _ rfl
      have k1 := hc w' H' 1 _ rfl
      have k2 := hc w' H' 2 _ rfl
      have k3 := hc w' H' 3 _ rfl
      simp only [Nat.add_zero, Nat.zero_add] at k0 k1 k2 k3
      exact ⟨k0, k1, k2, k3⟩
/-- The rows of the example. -/
theorem ex_rowW {v : Value} (H : Sat (RowW v [(1, true), (3, false)] * (AjAt a c Aj.ex2 108 4 * F)) w) :
    ∃ b cc, v = .slice (some ⟨b, 0, none⟩) 2 cc ∧ (∀ G w', Sat (RowW (.slice (some ⟨b, 0, none⟩) 2 cc) [(1, true), (3, false)] * G) w' → w'.cell? ⟨b, 0, none⟩ = some (.int .i64 1) ∧ w'.cell? ⟨b, 1, none⟩ = some (.bool true) ∧ w'.cell? ⟨b, 2, none⟩ = some (.int .i64 3) ∧ w'.cell? ⟨b, 3, none⟩ = some (.bool false)) ∧
      Sat (AjAt a c Aj.ex2 108 4 * (RowW (.slice (some ⟨b, 0, none⟩) 2 cc) [(1, true), (3, false)] * F)) w := by
  obtain ⟨b, cc, rfl, h⟩ := two_row (enc := encW) (p1 := .int .i64 1) (p2 := .bool true) (q1 := .int .i64 3) (q2 := .bool false) rfl rfl H
  exact ⟨b, cc, rfl, h, H.of_eq (by unfold AjAt RowW; ac_rfl)⟩
theorem ex_rowP {v : Value} (H : Sat (RowP v [(1, 2), (2, 3)] * (AjAt a c Aj.ex2 108 4 * F)) w) :
    ∃ b cc, v = .slice (some ⟨b, 0, none⟩) 2 cc ∧ (∀ G w', Sat (RowP (.slice (some ⟨b, 0, none⟩) 2 cc) [(1, 2), (2, 3)] * G) w' → w'.cell? ⟨b, 0, none⟩ = some (.int .i64 1) ∧ w'.cell? ⟨b, 1, none⟩ = some (.int .i64 2) ∧ w'.cell? ⟨b, 2, none⟩ = some (.int .i64 2) ∧ w'.cell? ⟨b, 3, none⟩ = some (.int .i64 3)) ∧
      Sat (AjAt a c Aj.ex2 108 4 * (RowP (.slice (some ⟨b, 0, none⟩) 2 cc) [(1, 2), (2, 3)] * F)) w := by
  obtain ⟨b, cc, rfl, h⟩ := two_row (enc := fun p : Pr => [.int .i64 p.1, .int .i64 p.2]) (p1 := .int .i64 1) (p2 := .int .i64 2) (q1 := .int .i64 2) (q2 := .int .i64 3) rfl rfl H
  exact ⟨b, cc, rfl, h, H.of_eq (by unfold AjAt RowP; ac_rfl)⟩
set_option maxRecDepth 100000 in
set_option maxHeartbeats 16000000 in
/-- THE DOCUMENT's EXAMPLE. -/
theorem works17_any (H : Sat F w) (h : ∀ w', Sat F w' → Io w w' → R (.returned (.bool true)) w') : Calls Tryz.prog 7 #[] w R := by
  have HH := Lib.hid h
  clear h
  go_enter Tryz.func7, Tryz.ntmps7
  go_upto_region 12 with (first
    | (go_at_call 8; (refine ladj_any (n := 60) (by decide) H ?_); intro a c w1 hn H1 I1; have HC := Lib.hid hn; clear hn)
    | (go_at_call 11; (with_reducible refine exset1 HC H1 ?_); intro w2 H2 I2)
    | (go_at_call 11; (with_reducible refine exset2 HC H2 ?_); intro w3 H3 I3)
    | (go_at_call 29; (with_reducible refine exnear H3 ?_); intro vn w4 H4 I4; have Z := ex_rowW H4; obtain ⟨bn, cn, hq, cln, H4b⟩ := Z; subst hq; have CN := Lib.hid cln; clear cln)
    | (go_at_call 17; (with_reducible refine exedges H4b ?_); intro ve w5 H5 I5; have Z := ex_rowP H5; obtain ⟨be, ce, hq, cle, H5b⟩ := Z; subst hq; have CE := Lib.hid cle; clear cle)
    | (go_at_call 32; (with_reducible refine expick H5b ?_); intro w6 H6 I6)
    | (go_at_call 33; (with_reducible refine exget H6 ?_); intro w7 H7 I7)
    | fail)
  obtain ⟨n0, n1, n2, n3⟩ := CN.out _ w7 (H7.of_eq (show _ = RowW (.slice (some ⟨bn, 0, none⟩) 2 cn) [(1, true), (3, false)] * (AjAt a c Aj.ex2 108 4 * (RowP (.slice (some ⟨be, 0, none⟩) 2 ce) [(1, 2), (2, 3)] * F)) from by unfold AjAt RowW RowP; ac_rfl))
  obtain ⟨l0, l1, l2, l3⟩ := CE.out _ w7 (H7.of_eq (show _ = RowP (.slice (some ⟨be, 0, none⟩) 2 ce) [(1, 2), (2, 3)] * (AjAt a c Aj.ex2 108 4 * (RowW (.slice (some ⟨bn, 0, none⟩) 2 cn) [(1, true), (3, false)] * F)) from by unfold AjAt RowW RowP; ac_rfl))
  have II : Io w w7 := (((((I1.trans I2).trans I3).trans I4).trans I5).trans I6).trans I7
  clear I1 I2 I3 I4 I5 I6 I7 H1 H2 H3 H4 H4b H5 H5b H6 CN CE
  go_wp2_with (first
    | (go_at_call 19; (with_reducible refine exkey H7 ?_); intro w8 H8 I8)
    | (go_at_call 14; (with_reducible refine exclear HC H8 ?_); intro w9 H9 I9)
    | (go_at_call 11; (with_reducible refine exset3 H9 ?_); intro w10 H10 I10)
    | fail)
  exact HH.out _ H10.right.right.right (((II.trans I8).trans I9).trans I10)
end
end Go.Proofs.YthbbdicdcmjpiaaGreatDoor

/-
  law 17's seen, by a walk. It proves no statement by itself.
-/
namespace Go.Proofs.YthbbdicdcmjpiaaGreatDoor
open Go.RowKit Go.Lib
set_option linter.unusedSimpArgs false
set_option linter.unusedVariables false
set_option linter.unusedSectionVars false
section
variable {F : Asn} {w : World} {R : Ending → World → Prop}
end
end Go.Proofs.YthbbdicdcmjpiaaGreatDoor

/-
  Rising lists of keys with values, as maps: who is in them, in what is put in and taken away, and between two keys. Plain. It proves no statement by itself.
-/
namespace Go.Proofs.YthbbdicdcmjpiaaGreatDoor
open Go.RowKit Go.Lib
set_option linter.unusedSimpArgs false
set_option linter.unusedVariables false
theorem pw_ext {α : Type} {r : α → α → Prop} (irr : ∀ a, ¬ r a a) (tr : ∀ a b c, r a b → r b c → r a c) : ∀ {l m : List α}, l.Pairwise r → m.Pairwise r → (∀ x, x ∈ l ↔ x ∈ m) → l = m
  | [], [], _, _, _ => rfl
  | [], b :: m, _, _, h => absurd ((h b).2 (by simp)) (by simp)
  | a :: l, [], _, _, h => absurd ((h a).1 (by simp)) (by simp)
  | a :: l, b :: m, hl, hm, h => by
    obtain ⟨la, hl2⟩ := List.pairwise_cons.1 hl
    obtain ⟨mb, hm2⟩ := List.pairwise_cons.1 hm
    have e : a = b := by
      rcases List.mem_cons.1 ((h a).1 (by simp)) with e | e
      · exact e
      · rcases List.mem_cons.1 ((h b).2 (by simp)) with k | k
        · exact k.symm
        · exact absurd (tr _ _ _ (la b k) (mb a e)) (irr a)
    subst e
    have hh : ∀ x, x ∈ l ↔ x ∈ m := by
      intro x
      constructor
      · intro hx
        rcases List.mem_cons.1 ((h x).1 (List.mem_cons_of_mem _ hx)) with e | e
        · subst e; exact absurd (la _ hx) (irr _)
        · exact e
      · intro hx
        rcases List.mem_cons.1 ((h x).2 (List.mem_cons_of_mem _ hx)) with e | e
        · subst e; exact absurd (mb _ hx) (irr _)
        · exact e
    rw [pw_ext irr tr hl2 hm2 hh]
theorem len_le_nodup {α : Type} [DecidableEq α] : ∀ {l m : List α}, l.Nodup → (∀ x ∈ l, x ∈ m) → l.length ≤ m.length
  | [], _, _, _ => by simp
  | a :: l, m, hl, h => by
    obtain ⟨h1, h2⟩ := List.nodup_cons.1 hl
    have ha := h a (by simp)
    have := len_le_nodup (l := l) (m := m.erase a) h2 fun x hx => by
      have hne : x ≠ a := fun e => h1 (e ▸ hx)
      exact (List.mem_erase_of_ne hne).2 (h x (by simp [hx]))
    rw [List.length_erase_of_mem ha] at this
    have hp := List.length_pos_of_mem ha
    simp only [List.length_cons]
    omega
theorem len_filters {α : Type} (p : α → Bool) : ∀ l : List α, l.length = (l.filter p).length + (l.filter fun x => !p x).length
  | [] => rfl
  | a :: l => by
    have := len_filters p l
    cases h : p a <;> simp [h] <;> omega
namespace Ky
theorem nlt_ne {x y : Nm} (h : Md.nlt x y = true) : x ≠ y := fun e => by rw [e, nlt_irrefl] at h; cases h
theorem put_nil (k v : Nm) : put [] k v = [(k, v)] := by simp [put, has, pos]
theorem put_one (k w v : Nm) : put [(k, w)] k v = [(k, v)] := by simp [put, has, pos, nlt_irrefl]
theorem del_nil (k : Nm) : del [] k = [] := by simp [del, has]
theorem del_one (k w : Nm) : del [(k, w)] k = [] := by simp [del, has, pos, nlt_irrefl]
theorem get_nil (k : Nm) : get [] k = none := by simp [get, has]
theorem get_one (k w : Nm) : get [(k, w)] k = some w := by simp [get, has, pos, nlt_irrefl]
theorem split_at {l : List En} (hr : Right l) (key : Nm) : ∃ E1 Ec E2, l = E1 ++ (Ec ++ E2) ∧ (∀ x ∈ E1, Md.nlt x.1 key = true) ∧ (∀ x ∈ E2, Md.nlt key x.1 = true) ∧ (Ec = [] ∨ ∃ v, Ec = [(key, v)]) := by
  have ha : ∀ x ∈ l.take (pos key l), Md.nlt x.1 key = true := by
    intro x hx
    obtain ⟨j, hj, rfl⟩ := List.getElem_of_mem hx
    rw [List.length_take] at hj
    rw [List.getElem_take]
    exact pos_ahead (by omega) (by omega)
  by_cases hh : has key l = true
  · obtain ⟨hl, hk⟩ := (has_iff hr).1 hh
    refine ⟨l.take (pos key l), [l[pos key l]], l.drop (pos key l + 1), ?_, ha, ?_, .inr ⟨(l[pos key l]).2, ?_⟩⟩
    · rw [List.singleton_append, ← List.drop_eq_getElem_cons hl, List.take_append_drop]
    · intro x hx
      obtain ⟨j, hj, rfl⟩ := List.getElem_of_mem hx
      rw [List.length_drop] at hj
      rw [List.getElem_drop]
      have := List.pairwise_iff_getElem.1 hr.2 (pos key l) (pos key l + 1 + j) hl (by omega) (by omega)
      rw [hk] at this
      exact this
    · have : l[pos key l] = ((l[pos key l]).1, (l[pos key l]).2) := rfl
      rw [hk] at this
      rw [this]
  · refine ⟨l.take (pos key l), [], l.drop (pos key l), ?_, ha, ?_, .inl rfl⟩
    · rw [List.nil_append, List.take_append_drop]
    · intro x hx
      have hx' := List.mem_of_mem_drop hx
      obtain ⟨j, hj, rfl⟩ := List.getElem_of_mem hx
      rw [List.length_drop] at hj
      rw [List.getElem_drop] at hx' ⊢
      have h1 := pos_behind (key := key) hr (j := pos key l + j) (by omega) (by omega)
      cases h2 : Md.nlt key (l[pos key l + j]).1 with
      | true => rfl
      | false =>
        have e := nlt_total h1 h2
        refine absurd ?_ hh
        unfold has
        rw [List.any_eq_true]
        exact ⟨_, hx', by simp [e]⟩
theorem mem_put {l : List En} {k v : Nm} {x : En} (hr : Right l) : x ∈ put l k v ↔ x = (k, v) ∨ (x ∈ l ∧ x.1 ≠ k) := by
  obtain ⟨E1, Ec, E2, rfl, h1, h2, h3⟩ := split_at hr k
  rw [Tb.put_loc h1 h2 hr]
  have hp : put Ec k v = [(k, v)] := by
    rcases h3 with rfl | ⟨w, rfl⟩
    · exact put_nil _ _
    · exact put_one _ _ _
  rw [hp]
  simp only [List.mem_append, List.mem_singleton]
  constructor
  · rintro (h | h | h)
    · exact .inr ⟨.inl h, nlt_ne (h1 x h)⟩
    · exact .inl h
    · exact .inr ⟨.inr (.inr h), (nlt_ne (h2 x h)).symm⟩
  · rintro (h | ⟨h | h | h, hne⟩)
    · exact .inr (.inl h)
    · exact .inl h
    · exfalso
      rcases h3 with rfl | ⟨w, rfl⟩
      · cases h
      · rw [List.mem_singleton] at h; exact hne (by rw [h])
    · exact .inr (.inr h)
theorem mem_del {l : List En} {k : Nm} {x : En} (hr : Right l) : x ∈ del l k ↔ x ∈ l ∧ x.1 ≠ k := by
  obtain ⟨E1, Ec, E2, rfl, h1, h2, h3⟩ := split_at hr k
  rw [Tb.del_loc h1 h2 hr]
  have hp : del Ec k = [] := by
    rcases h3 with rfl | ⟨w, rfl⟩
    · exact del_nil _
    · exact del_one _ _
  rw [hp]
  simp only [List.mem_append, List.nil_append]
  constructor
  · rintro (h | h)
    · exact ⟨.inl h, nlt_ne (h1 x h)⟩
    · exact ⟨.inr (.inr h), (nlt_ne (h2 x h)).symm⟩
  · rintro ⟨h | h | h, hne⟩
    · exact .inl h
    · exfalso
      rcases h3 with rfl | ⟨w, rfl⟩
      · cases h
      · rw [List.mem_singleton] at h; exact hne (by rw [h])
    · exact .inr h
theorem has_mem {l : List En} {k : Nm} : has k l = true ↔ ∃ v, (k, v) ∈ l := by
  unfold has
  rw [List.any_eq_true]
  constructor
  · rintro ⟨⟨a, b⟩, h, e⟩
    simp only [decide_eq_true_eq] at e
    exact ⟨b, e ▸ h⟩
  · rintro ⟨v, h⟩
    exact ⟨_, h, by simp⟩
theorem get_mem {l : List En} {k v : Nm} (hr : Right l) : get l k = some v ↔ (k, v) ∈ l := by
  obtain ⟨E1, Ec, E2, rfl, h1, h2, h3⟩ := split_at hr k
  rw [Tb.get_loc h1 h2 hr]
  simp only [List.mem_append]
  have n1 : (k, v) ∉ E1 := fun h => nlt_ne (h1 _ h) rfl
  have n2 : (k, v) ∉ E2 := fun h => nlt_ne (h2 _ h) rfl
  rcases h3 with rfl | ⟨w, rfl⟩
  · rw [get_nil]; simp [n1, n2]
  · rw [get_one]; simp [n1, n2, eq_comm]
theorem get_none {l : List En} {k : Nm} (hr : Right l) : get l k = none ↔ ∀ v, (k, v) ∉ l := by
  constructor
  · intro h v hv
    rw [(get_mem hr).2 hv] at h
    cases h
  · intro h
    cases e : get l k with
    | none => rfl
    | some v => exact absurd ((get_mem hr).1 e) (h v)
theorem right_ext {l m : List En} (hl : Right l) (hm : Right m) (h : ∀ x, x ∈ l ↔ x ∈ m) : l = m :=
  pw_ext (r := fun x y : En => Md.nlt x.1 y.1 = true) (fun a h => nlt_ne h rfl) (fun a b c h k => nlt_trans h k) hl.2 hm.2 h
theorem right_filter {l : List En} (hl : Right l) (p : En → Bool) : Right (l.filter p) := ⟨fun x hx => hl.1 x (List.mem_filter.1 hx).1, hl.2.filter p⟩
theorem right_nodup {l : List En} (hl : Right l) : l.Nodup := hl.2.imp fun {a b} h e => by rw [e, nlt_irrefl] at h; cases h
theorem right_tail {x : En} {l : List En} (h : Right (x :: l)) : Right l := ⟨fun y hy => h.1 y (by simp [hy]), (List.pairwise_cons.1 h.2).2⟩
theorem frm_filter {a : Nm} : ∀ {l : List En}, Right l → Tb.frm a l = l.filter fun x => !Md.nlt x.1 a
  | [], _ => by simp [Tb.frm]
  | x :: l, h => by
    have ih := frm_filter (a := a) (right_tail h)
    unfold Tb.frm pos at *
    rw [List.findIdx_cons]
    cases e : Md.nlt x.1 a with
    | true => simpa [e] using ih
    | false =>
      simp only [e, Bool.not_false, cond_true, List.drop_zero, List.filter_cons_of_pos]
      congr 1
      refine (List.filter_eq_self.2 fun y hy => ?_).symm
      have := (List.pairwise_cons.1 h.2).1 y hy
      cases k : Md.nlt y.1 a with
      | false => rfl
      | true => rw [nlt_trans this k] at e; cases e
theorem until_filter {b : Nm} : ∀ {l : List En}, Right l → l.takeWhile (Tb.under b) = l.filter (Tb.under b)
  | [], _ => rfl
  | x :: l, h => by
    have ih := until_filter (b := b) (right_tail h)
    cases e : Tb.under b x with
    | true => rw [List.takeWhile_cons_of_pos e, List.filter_cons_of_pos e, ih]
    | false =>
      rw [List.takeWhile_cons_of_neg (by rw [e]; simp), List.filter_cons_of_neg (by rw [e]; simp)]
      symm
      rw [List.filter_eq_nil_iff]
      intro y hy hu
      have := (List.pairwise_cons.1 h.2).1 y hy
      unfold Tb.under at e hu
      simp only [Bool.or_eq_false_iff, Bool.or_eq_true] at e hu
      rcases hu with hu | hu
      · rw [hu] at e; cases e.1
      · rw [nlt_trans this hu] at e; cases e.2
/-- BETWEEN TWO KEYS. -/
theorem scan_filter {a b : Nm} {l : List En} (hr : Right l) : Tb.scan a b l = l.filter fun x => !Md.nlt x.1 a && Tb.under b x := by
  rw [Tb.scan_eq, frm_filter hr, until_filter (right_filter hr _), List.filter_filter]
  congr 1
  funext x
  rw [Bool.and_comm]
theorem mem_scan {a b : Nm} {l : List En} {x : En} (hr : Right l) : x ∈ Tb.scan a b l ↔ x ∈ l ∧ Md.nlt x.1 a = false ∧ Tb.under b x = true := by
  rw [scan_filter hr, List.mem_filter]
  simp
theorem right_scan {a b : Nm} {l : List En} (hr : Right l) : Right (Tb.scan a b l) := by rw [scan_filter hr]; exact right_filter hr _
end Ky
end Go.Proofs.YthbbdicdcmjpiaaGreatDoor

/-
  A tree of keys that holds marked edges, both ways: what is set, cleared, told. Plain. It proves no statement by itself.
-/
namespace Go.Proofs.YthbbdicdcmjpiaaGreatDoor
open Go.RowKit Go.Lib
set_option linter.unusedSimpArgs false
set_option linter.unusedVariables false
namespace Aj
open Ky
theorem vt_eq {s t : Bool} : vt s = vt t ↔ s = t := by
  constructor
  · intro h
    have h1 := vt_inj (t := s)
    have h2 := vt_inj (t := t)
    cases s <;> cases t <;> simp_all
  · rintro rfl; rfl
theorem pair_comm (u v : Int) : Md.pair u v = Md.pair v u := by unfold Md.pair; rw [Int.min_comm, Int.max_comm]
theorem pair_eq {a b u v : Int} : Md.pair a b = Md.pair u v ↔ (a = u ∧ b = v) ∨ (a = v ∧ b = u) := by
  unfold Md.pair
  rw [Prod.mk.injEq]
  omega
theorem pair_lt {u v : Int} (h : u < v) : Md.pair u v = (u, v) := by
  unfold Md.pair
  rw [Prod.mk.injEq]
  omega
structure Sim (es : List En) (A T : List Pr) : Prop where
  right : Right es
  good : ∀ x ∈ es, Good x
  sa : Eg.Srt A
  st : Eg.Srt T
  ok : ∀ p ∈ A, 0 ≤ p.1 ∧ p.1 < p.2 ∧ p.2 < 1048576
  sub : ∀ p ∈ T, p ∈ A
  mem : ∀ u v t, Md.wrong u v = 0 → ((ks u v, vt t) ∈ es ↔ Md.pair u v ∈ A ∧ t = decide (Md.pair u v ∈ T))
theorem sim_nil : Sim [] [] [] where
  right := ⟨by simp, List.Pairwise.nil⟩
  good := by simp
  sa := Eg.Srt.nil
  st := Eg.Srt.nil
  ok := by simp
  sub := by simp
  mem := by simp
def setT (T : List Pr) (p : Pr) (t : Bool) : List Pr := if t then Eg.put (Eg.without T p) p else Eg.without T p
theorem mem_setT {T : List Pr} {p x : Pr} {t : Bool} : x ∈ setT T p t ↔ if x = p then t = true else x ∈ T := by
  unfold setT
  cases t with
  | true => rw [if_pos rfl, Eg.mem_put, Eg.mem_without]; by_cases h : x = p <;> simp [h]
  | false => rw [if_neg (by simp), Eg.mem_without]; by_cases h : x = p <;> simp [h]
theorem srt_setT {T : List Pr} (h : Eg.Srt T) (p : Pr) (t : Bool) : Eg.Srt (setT T p t) := by
  unfold setT
  split
  · exact Eg.srt_put (Eg.srt_without h p) p
  · exact Eg.srt_without h p
theorem ks_iff {u v a b : Int} (h : Md.wrong u v = 0) (k : Md.wrong a b = 0) : ks u v = ks a b ↔ u = a ∧ v = b := ⟨ks_inj h k, fun ⟨e1, e2⟩ => by rw [e1, e2]⟩
theorem Sim.set {es : List En} {A T : List Pr} (s : Sim es A T) {u v : Int} (t : Bool) (h : Md.wrong u v = 0) :
    Sim (put (put es (ks u v) (vt t)) (ks v u) (vt t)) (Eg.put A (Md.pair u v)) (setT T (Md.pair u v) t) := by
  have h' : Md.wrong v u = 0 := by rw [wrong_comm]; exact h
  have r1 := Tb.right_put s.right (ks_chk h t)
  have hm : ∀ x, x ∈ put (put es (ks u v) (vt t)) (ks v u) (vt t) ↔ x = (ks v u, vt t) ∨ ((x = (ks u v, vt t) ∨ (x ∈ es ∧ x.1 ≠ ks u v)) ∧ x.1 ≠ ks v u) := fun x => by rw [mem_put r1, mem_put s.right]
  refine ⟨Tb.right_put r1 (ks_chk h' t), fun x hx => ?_, Eg.srt_put s.sa _, srt_setT s.st _ _, fun p hp => ?_, fun p hp => ?_, fun a b m k => ?_⟩
  · rcases (hm x).1 hx with rfl | ⟨rfl | ⟨hx, _⟩, _⟩
    · exact good_ks t h'
    · exact good_ks t h
    · exact s.good x hx
  · rcases (Eg.mem_put _ _ _).1 hp with rfl | hp
    · exact Md.pair_ok h
    · exact s.ok p hp
  · rw [Eg.mem_put]
    rw [mem_setT] at hp
    split at hp
    · exact .inl ‹_›
    · exact .inr (s.sub p hp)
  · rw [hm, Prod.mk.injEq, Prod.mk.injEq, ks_iff k h', ks_iff k h, vt_eq, Eg.mem_put]
    simp only [ne_eq, ks_iff k h', ks_iff k h, mem_setT, pair_eq]
    rw [s.mem a b m k]
    by_cases e1 : a = u ∧ b = v
    · obtain ⟨rfl, rfl⟩ := e1
      have e2 : ¬ (a = b ∧ b = a) := fun ⟨e, _⟩ => by have := (wrong_zero.1 h).2.2; exact this e
      simp [e2]
    · by_cases e2 : a = v ∧ b = u
      · obtain ⟨rfl, rfl⟩ := e2
        simp [e1]
      · simp [e1, e2]
theorem Sim.has {es : List En} {A T : List Pr} (s : Sim es A T) {u v : Int} (h : Md.wrong u v = 0) : Ky.has (ks u v) es = decide (Md.pair u v ∈ A) := by
  rw [Bool.eq_iff_iff, has_mem, decide_eq_true_eq]
  constructor
  · rintro ⟨x, hx⟩
    obtain ⟨a, b, t, k, e⟩ := s.good _ hx
    rw [Prod.mk.injEq] at e
    obtain ⟨e1, e2⟩ := e
    obtain ⟨rfl, rfl⟩ := ks_inj h k e1
    rw [e2] at hx
    exact ((s.mem _ _ t h).1 hx).1
  · intro hp
    exact ⟨_, (s.mem u v _ h).2 ⟨hp, rfl⟩⟩
theorem Sim.get {es : List En} {A T : List Pr} (s : Sim es A T) {u v : Int} (h : Md.wrong u v = 0) :
    Ky.get es (ks u v) = if Md.pair u v ∈ A then some (vt (decide (Md.pair u v ∈ T))) else none := by
  split
  · rename_i hp
    exact (get_mem s.right).2 ((s.mem u v _ h).2 ⟨hp, rfl⟩)
  · rename_i hp
    refine (get_none s.right).2 fun w hw => hp ?_
    have := has_mem.2 ⟨w, hw⟩
    rw [s.has h, decide_eq_true_eq] at this
    exact this
theorem Sim.clear {es : List En} {A T : List Pr} (s : Sim es A T) {u v : Int} (h : Md.wrong u v = 0) :
    Sim (del (del es (ks u v)) (ks v u)) (Eg.without A (Md.pair u v)) (Eg.without T (Md.pair u v)) := by
  have h' : Md.wrong v u = 0 := by rw [wrong_comm]; exact h
  have r1 : Right (del es (ks u v)) := Tb.right_del s.right
  have hm : ∀ x, x ∈ del (del es (ks u v)) (ks v u) ↔ (x ∈ es ∧ x.1 ≠ ks u v) ∧ x.1 ≠ ks v u := fun x => by rw [mem_del r1, mem_del s.right]
  refine ⟨Tb.right_del r1, fun x hx => s.good x ((hm x).1 hx).1.1, Eg.srt_without s.sa _, Eg.srt_without s.st _, fun p hp => s.ok p ((Eg.mem_without _ _ _).1 hp).1, fun p hp => ?_, fun a b m k => ?_⟩
  · rw [Eg.mem_without] at hp ⊢
    exact ⟨s.sub p hp.1, hp.2⟩
  · rw [hm, s.mem a b m k]
    simp only [ne_eq, ks_iff k h', ks_iff k h, Eg.mem_without, pair_eq]
    by_cases e1 : a = u ∧ b = v
    · simp [e1]
    · by_cases e2 : a = v ∧ b = u
      · simp [e2]
      · simp [e1, e2]
theorem ks_isA {u v : Int} (h : Md.wrong u v = 0) : Md.nlt (ks u v) pA = false ∧ Md.nlt (ks u v) pB = true := by
  have hA : pA.toList = [65] := by rw [ByteArray.toList_eq]; rfl
  have hB : pB.toList = [66] := by rw [ByteArray.toList_eq]; rfl
  unfold Md.nlt
  rw [ks_list h, hA, hB]
  constructor
  · cases hk : keyL u v <;> simp [Op.bytesLess]
  · simp [Op.bytesLess]
theorem Sim.scanA {es : List En} {A T : List Pr} (s : Sim es A T) : Tb.scan pA pB es = es := by
  rw [scan_filter s.right, List.filter_eq_self]
  intro x hx
  obtain ⟨u, v, t, h, rfl⟩ := s.good x hx
  obtain ⟨h1, h2⟩ := ks_isA h
  unfold Tb.under
  simp [h1, h2]
theorem Sim.edges {es : List En} {A T : List Pr} (s : Sim es A T) : edges es = A := by
  have hm : ∀ p : Pr, p ∈ Aj.edges es ↔ ∃ u v t, Md.wrong u v = 0 ∧ u < v ∧ (ks u v, vt t) ∈ es ∧ p = (u, v) := by
    intro p
    unfold Aj.edges
    rw [s.scanA]
    simp only [List.mem_map, List.mem_filter, decide_eq_true_eq]
    constructor
    · rintro ⟨x, ⟨hx, hl⟩, rfl⟩
      obtain ⟨u, v, t, h, rfl⟩ := s.good x hx
      rw [dec_good h] at hl ⊢
      exact ⟨u, v, t, h, hl, hx, rfl⟩
    · rintro ⟨u, v, t, h, hl, hx, rfl⟩
      exact ⟨_, ⟨hx, by rw [dec_good h]; exact hl⟩, by rw [dec_good h]⟩
  refine Eg.srt_ext ?_ s.sa fun p => ?_
  · unfold Aj.edges
    rw [s.scanA]
    unfold Eg.Srt
    rw [List.pairwise_map]
    refine (s.right.2.filter _).imp_of_mem fun {a b} ha hb hab => ?_
    obtain ⟨u, v, t, h, rfl⟩ := s.good a (List.mem_filter.1 ha).1
    obtain ⟨x, y, t', k, rfl⟩ := s.good b (List.mem_filter.1 hb).1
    rw [dec_good h, dec_good k]
    rw [ks_less h k] at hab
    exact hab
  · rw [hm]
    constructor
    · rintro ⟨u, v, t, h, hl, hx, rfl⟩
      have := ((s.mem u v t h).1 hx).1
      rw [pair_lt hl] at this
      exact this
    · intro hp
      obtain ⟨h1, h2, h3⟩ := s.ok p hp
      have hw : Md.wrong p.1 p.2 = 0 := wrong_zero.2 ⟨by omega, by omega, by omega⟩
      exact ⟨p.1, p.2, _, hw, h2, (s.mem p.1 p.2 _ hw).2 ⟨by rw [pair_lt h2]; exact hp, rfl⟩, rfl⟩
/-- Who is beside a vertex. -/
def nb (A : List Pr) (u : Int) : List Int := (A.filter fun p => decide (p.2 = u)).map (·.1) ++ (A.filter fun p => decide (p.1 = u)).map (·.2)
theorem mem_nb {A : List Pr} {u v : Int} (ok : ∀ p ∈ A, 0 ≤ p.1 ∧ p.1 < p.2 ∧ p.2 < 1048576) : v ∈ nb A u ↔ Md.wrong u v = 0 ∧ Md.pair u v ∈ A := by
  unfold nb
  simp only [List.mem_append, List.mem_map, List.mem_filter, decide_eq_true_eq]
  constructor
  · rintro (⟨p, ⟨hp, rfl⟩, rfl⟩ | ⟨p, ⟨hp, rfl⟩, rfl⟩)
    · have := ok p hp
      exact ⟨wrong_zero.2 (by omega), by rw [pair_comm, pair_lt this.2.1]; exact hp⟩
    · have := ok p hp
      exact ⟨wrong_zero.2 (by omega), by rw [pair_lt this.2.1]; exact hp⟩
  · rintro ⟨hw, hp⟩
    have := wrong_zero.1 hw
    by_cases hl : u < v
    · rw [pair_lt hl] at hp; exact .inr ⟨_, ⟨hp, rfl⟩, rfl⟩
    · rw [pair_comm, pair_lt (by omega)] at hp; exact .inl ⟨_, ⟨hp, rfl⟩, rfl⟩
theorem nb_rise {A : List Pr} {u : Int} (sa : Eg.Srt A) (ok : ∀ p ∈ A, 0 ≤ p.1 ∧ p.1 < p.2 ∧ p.2 < 1048576) : (nb A u).Pairwise (· < ·) := by
  unfold nb
  rw [List.pairwise_append]
  refine ⟨?_, ?_, ?_⟩
  · rw [List.pairwise_map]
    refine (List.Pairwise.filter _ sa).imp_of_mem fun {a b} ha hb hab => ?_
    have ha := (List.mem_filter.1 ha).2
    have hb := (List.mem_filter.1 hb).2
    simp only [decide_eq_true_eq] at ha hb
    have := Eg.less_iff.1 hab
    omega
  · rw [List.pairwise_map]
    refine (List.Pairwise.filter _ sa).imp_of_mem fun {a b} ha hb hab => ?_
    have ha := (List.mem_filter.1 ha).2
    have hb := (List.mem_filter.1 hb).2
    simp only [decide_eq_true_eq] at ha hb
    have := Eg.less_iff.1 hab
    omega
  · intro a ha b hb
    simp only [List.mem_map, List.mem_filter, decide_eq_true_eq] at ha hb
    obtain ⟨p, ⟨hp, rfl⟩, rfl⟩ := ha
    obtain ⟨r, ⟨hr, e⟩, rfl⟩ := hb
    have h1 := ok p hp
    have h2 := ok r hr
    omega
theorem cut_less {a b u v : Int} (h : keyE a b = 0) (k : keyE u v = 0) : Md.nlt (pA ++ keyS a b) (pA ++ keyS u v) = Eg.less (a, b) (u, v) := by
  have hl : ∀ s : Nm, (pA ++ s).toList = 65 :: s.toList := fun s => by
    rw [ByteArray.toList_eq, ByteArray.toList_eq]
    simp [pA]
  unfold Md.nlt
  rw [hl, hl, cons_less]
  exact key_less (a := (a, b)) (b := (u, v)) h k
theorem size_pA (s : Nm) : (pA ++ s).size ≠ 0 := by rw [ByteArray.size_append]; have : pA.size = 1 := rfl; omega
theorem near_key {a v u : Int} (h : Md.wrong a v = 0) (hu : 0 ≤ u ∧ u < 1048576) (t : Bool) : (Md.nlt (ks a v) (lowK u) = false ∧ Tb.under (upK u) (ks a v, vt t) = true) ↔ a = u := by
  obtain ⟨h1, h2, h3⟩ := wrong_zero.1 h
  have k0 : keyE u 0 = 0 := keyE_vtx hu
  have e1 : Md.nlt (ks a v) (lowK u) = Eg.less (a, v) (u, 0) := by rw [ks_eq h]; exact cut_less (wrong_keyE h) k0
  have e2 : Tb.under (upK u) (ks a v, vt t) = decide (a < u + 1) := by
    unfold Tb.under upK
    by_cases hm : u + 1 < 1048576
    · rw [if_pos hm, decide_eq_false (size_pA _), Bool.false_or, ks_eq h, cut_less (wrong_keyE h) (keyE_vtx ⟨by omega, hm⟩), Bool.eq_iff_iff, Eg.less_iff, decide_eq_true_eq]
      simp only
      omega
    · rw [if_neg hm]
      have : decide (pB.size = 0) = false := rfl
      rw [this, Bool.false_or, (ks_isA h).2, decide_eq_true (by omega)]
  rw [e1, e2, decide_eq_true_eq]
  cases hl : Eg.less (a, v) (u, 0) with
  | true =>
    have := Eg.less_iff.1 hl
    simp only at this
    constructor
    · rintro ⟨h, _⟩; cases h
    · intro e; omega
  | false =>
    have : ¬ Eg.less (a, v) (u, 0) = true := by rw [hl]; simp
    rw [Eg.less_iff] at this
    simp only at this
    constructor
    · rintro ⟨_, h⟩; omega
    · intro e; exact ⟨rfl, by omega⟩
theorem Sim.near {es : List En} {A T : List Pr} (s : Sim es A T) {u : Int} (hu : 0 ≤ u ∧ u < 1048576) : near es u = (nb A u).map fun v => (v, decide (Md.pair u v ∈ T)) := by
  have hs : ∀ x, x ∈ Tb.scan (lowK u) (upK u) es ↔ ∃ v t, Md.wrong u v = 0 ∧ x = (ks u v, vt t) ∧ x ∈ es := by
    intro x
    rw [mem_scan s.right]
    constructor
    · rintro ⟨hx, h1, h2⟩
      obtain ⟨a, v, t, h, rfl⟩ := s.good x hx
      obtain rfl := (near_key h hu t).1 ⟨h1, h2⟩
      exact ⟨v, t, h, rfl, hx⟩
    · rintro ⟨v, t, h, rfl, hx⟩
      exact ⟨hx, (near_key h hu t).2 rfl⟩
  refine pw_ext (r := fun x y : Nr => x.1 < y.1) (fun a h => by omega) (fun a b c h k => by omega) ?_ ?_ fun x => ?_
  · unfold Aj.near
    rw [List.pairwise_map]
    refine (right_scan s.right).2.imp_of_mem fun {a b} ha hb hab => ?_
    obtain ⟨v, t, h, rfl, _⟩ := (hs a).1 ha
    obtain ⟨y, t', k, rfl, _⟩ := (hs b).1 hb
    rw [dec_good h, dec_good k]
    rw [ks_less h k] at hab
    have := Eg.less_iff.1 hab
    simp only at this ⊢
    omega
  · rw [List.pairwise_map]
    exact nb_rise s.sa s.ok
  · unfold Aj.near
    simp only [List.mem_map]
    constructor
    · rintro ⟨y, hy, rfl⟩
      obtain ⟨v, t, h, rfl, hx⟩ := (hs y).1 hy
      obtain ⟨h1, h2⟩ := (s.mem u v t h).1 hx
      rw [dec_good h]
      exact ⟨v, (mem_nb s.ok).2 ⟨h, h1⟩, by rw [h2]⟩
    · rintro ⟨v, hv, rfl⟩
      obtain ⟨h, hp⟩ := (mem_nb s.ok).1 hv
      refine ⟨(ks u v, vt (decide (Md.pair u v ∈ T))), (hs _).2 ⟨v, _, h, rfl, (s.mem u v _ h).2 ⟨hp, rfl⟩⟩, ?_⟩
      rw [dec_good h]
/-- Each edge stands there twice. -/
theorem Sim.len {es : List En} {A T : List Pr} (s : Sim es A T) : es.length = 2 * A.length := by
  have e1 : (es.filter fun x => decide ((dec x).1 < (dec x).2.1)).length = A.length := by
    have := s.edges
    unfold Aj.edges at this
    rw [s.scanA] at this
    rw [← this, List.length_map]
  have key : ∀ (p q : En → Bool), (∀ u v t, Md.wrong u v = 0 → p (ks u v, vt t) = true → q (ks v u, vt t) = true) → (es.filter p).length ≤ (es.filter q).length := by
    intro p q hpq
    have n1 : ((es.filter p).map fun x => (ks (dec x).2.1 (dec x).1, x.2)).Nodup := by
      unfold List.Nodup
      rw [List.pairwise_map]
      refine ((right_nodup s.right).filter p).imp_of_mem fun {a b} ha hb hab => ?_
      obtain ⟨u, v, t, h, rfl⟩ := s.good a (List.mem_filter.1 ha).1
      obtain ⟨x, y, t', k, rfl⟩ := s.good b (List.mem_filter.1 hb).1
      rw [dec_good h, dec_good k]
      intro e
      simp only [Prod.mk.injEq] at e
      obtain ⟨e1, e2⟩ := e
      obtain ⟨rfl, rfl⟩ := ks_inj (by rw [wrong_comm]; exact h) (by rw [wrong_comm]; exact k) e1
      exact hab (by rw [e2])
    have := len_le_nodup n1 (m := es.filter q) fun x hx => by
      obtain ⟨y, hy, rfl⟩ := List.mem_map.1 hx
      obtain ⟨hy, hp⟩ := List.mem_filter.1 hy
      obtain ⟨u, v, t, h, rfl⟩ := s.good y hy
      rw [dec_good h]
      have h' : Md.wrong v u = 0 := by rw [wrong_comm]; exact h
      rw [List.mem_filter]
      refine ⟨?_, hpq u v t h hp⟩
      rw [s.mem v u t h', pair_comm]
      exact (s.mem u v t h).1 hy
    rw [List.length_map] at this
    exact this
  have h1 := key (fun x => decide ((dec x).1 < (dec x).2.1)) (fun x => !decide ((dec x).1 < (dec x).2.1)) fun u v t h hp => by
    have h' : Md.wrong v u = 0 := by rw [wrong_comm]; exact h
    rw [dec_good h] at hp
    rw [dec_good h']
    simp only [decide_eq_true_eq, Bool.not_eq_true', decide_eq_false_iff_not] at hp ⊢
    omega
  have h2 := key (fun x => !decide ((dec x).1 < (dec x).2.1)) (fun x => decide ((dec x).1 < (dec x).2.1)) fun u v t h hp => by
    have h' : Md.wrong v u = 0 := by rw [wrong_comm]; exact h
    have := (wrong_zero.1 h).2.2
    rw [dec_good h] at hp
    rw [dec_good h']
    simp only [decide_eq_true_eq, Bool.not_eq_true', decide_eq_false_iff_not] at hp ⊢
    omega
  have h3 := len_filters (fun x : En => decide ((dec x).1 < (dec x).2.1)) es
  omega
theorem Sim.seen {es : List En} {A T : List Pr} (s : Sim es A T) {u v : Int} (hu : 0 ≤ u ∧ u < 1048576) (hw : Md.wrong u v = 0) (hp : Md.pair u v ∈ A) : (Aj.near es u).any (fun x => decide (x.1 = v)) = true := by
  rw [s.near hu, List.any_eq_true]
  exact ⟨_, List.mem_map.2 ⟨v, (mem_nb s.ok).2 ⟨hw, hp⟩, rfl⟩, by simp⟩
end Aj
end Go.Proofs.YthbbdicdcmjpiaaGreatDoor

/-
  Keys of edges among other keys. Plain. It proves no statement by itself.
-/
namespace Go.Proofs.YthbbdicdcmjpiaaGreatDoor
open Go.RowKit Go.Lib
set_option linter.unusedSimpArgs false
set_option linter.unusedVariables false
namespace Aj
open Ky
def own (es : List En) : List En := es.filter fun x => isA x.1
def oth (es : List En) : List En := es.filter fun x => !isA x.1
theorem mem_own {es : List En} {x : En} : x ∈ own es ↔ x ∈ es ∧ isA x.1 = true := by unfold own; rw [List.mem_filter]
theorem mem_oth {es : List En} {x : En} : x ∈ oth es ↔ x ∈ es ∧ isA x.1 = false := by unfold oth; rw [List.mem_filter]; simp
theorem right_own {es : List En} (h : Right es) : Right (own es) := right_filter h _
theorem right_oth {es : List En} (h : Right es) : Right (oth es) := right_filter h _
theorem ks_is {u v : Int} (h : Md.wrong u v = 0) : isA (ks u v) = true := by rw [ks_eq h]; exact (cut_ks _).1
theorem own_put {es : List En} (hr : Right es) {k v : Nm} (hc : chk k v = 0) (h : isA k = true) : own (put es k v) = put (own es) k v := by
  refine right_ext (right_own (Tb.right_put hr hc)) (Tb.right_put (right_own hr) hc) fun x => ?_
  rw [mem_own, mem_put hr, mem_put (right_own hr), mem_own]
  constructor
  · rintro ⟨rfl | ⟨h1, h2⟩, h3⟩
    · exact .inl rfl
    · exact .inr ⟨⟨h1, h3⟩, h2⟩
  · rintro (rfl | ⟨⟨h1, h3⟩, h2⟩)
    · exact ⟨.inl rfl, h⟩
    · exact ⟨.inr ⟨h1, h2⟩, h3⟩
theorem oth_put {es : List En} (hr : Right es) {k v : Nm} (hc : chk k v = 0) (h : isA k = true) : oth (put es k v) = oth es := by
  refine right_ext (right_oth (Tb.right_put hr hc)) (right_oth hr) fun x => ?_
  rw [mem_oth, mem_put hr, mem_oth]
  constructor
  · rintro ⟨rfl | ⟨h1, h2⟩, h3⟩
    · simp [h] at h3
    · exact ⟨h1, h3⟩
  · rintro ⟨h1, h2⟩
    exact ⟨.inr ⟨h1, fun e => by rw [e, h] at h2; cases h2⟩, h2⟩
theorem own_put2 {es : List En} (hr : Right es) {k v : Nm} (hc : chk k v = 0) (h : isA k = false) : own (put es k v) = own es := by
  refine right_ext (right_own (Tb.right_put hr hc)) (right_own hr) fun x => ?_
  rw [mem_own, mem_put hr, mem_own]
  constructor
  · rintro ⟨rfl | ⟨h1, h2⟩, h3⟩
    · simp [h] at h3
    · exact ⟨h1, h3⟩
  · rintro ⟨h1, h2⟩
    exact ⟨.inr ⟨h1, fun e => by rw [e, h] at h2; cases h2⟩, h2⟩
theorem oth_put2 {es : List En} (hr : Right es) {k v : Nm} (hc : chk k v = 0) (h : isA k = false) : oth (put es k v) = put (oth es) k v := by
  refine right_ext (right_oth (Tb.right_put hr hc)) (Tb.right_put (right_oth hr) hc) fun x => ?_
  rw [mem_oth, mem_put hr, mem_put (right_oth hr), mem_oth]
  constructor
  · rintro ⟨rfl | ⟨h1, h2⟩, h3⟩
    · exact .inl rfl
    · exact .inr ⟨⟨h1, h3⟩, h2⟩
  · rintro (rfl | ⟨⟨h1, h3⟩, h2⟩)
    · exact ⟨.inl rfl, h⟩
    · exact ⟨.inr ⟨h1, h2⟩, h3⟩
theorem own_del {es : List En} (hr : Right es) {k : Nm} : own (del es k) = del (own es) k := by
  refine right_ext (right_own (Tb.right_del hr)) (Tb.right_del (right_own hr)) fun x => ?_
  rw [mem_own, mem_del hr, mem_del (right_own hr), mem_own]
  constructor
  · rintro ⟨⟨h1, h2⟩, h3⟩; exact ⟨⟨h1, h3⟩, h2⟩
  · rintro ⟨⟨h1, h3⟩, h2⟩; exact ⟨⟨h1, h2⟩, h3⟩
theorem oth_del {es : List En} (hr : Right es) {k : Nm} (h : isA k = true) : oth (del es k) = oth es := by
  refine right_ext (right_oth (Tb.right_del hr)) (right_oth hr) fun x => ?_
  rw [mem_oth, mem_del hr, mem_oth]
  constructor
  · rintro ⟨⟨h1, h2⟩, h3⟩; exact ⟨h1, h3⟩
  · rintro ⟨h1, h2⟩
    exact ⟨⟨h1, fun e => by rw [e, h] at h2; cases h2⟩, h2⟩
theorem own_get {es : List En} (hr : Right es) {k : Nm} (h : isA k = true) : Ky.get es k = Ky.get (own es) k := by
  have hm : ∀ v, (k, v) ∈ es ↔ (k, v) ∈ own es := fun v => by rw [mem_own]; simp [h]
  cases e : Ky.get (own es) k with
  | none =>
    rw [get_none (right_own hr)] at e
    rw [get_none hr]
    exact fun v hv => e v ((hm v).1 hv)
  | some v =>
    rw [get_mem (right_own hr)] at e
    rw [get_mem hr]
    exact (hm v).2 e
theorem own_has {es : List En} {k : Nm} (h : isA k = true) : Ky.has k es = Ky.has k (own es) := by
  rw [Bool.eq_iff_iff, has_mem, has_mem]
  constructor
  · rintro ⟨v, hv⟩; exact ⟨v, mem_own.2 ⟨hv, h⟩⟩
  · rintro ⟨v, hv⟩; exact ⟨v, (mem_own.1 hv).1⟩
theorem isA_of {k : Nm} {r : List UInt8} (h : k.toList = 65 :: r) : isA k = true := by
  have : k = pA ++ (⟨r.toArray⟩ : Nm) := nm_ext (by
    rw [h, ByteArray.toList_eq]
    simp [pA])
  rw [this]
  exact (cut_ks _).1
/-- What stands from a key that begins with 'A' on, and below "B", begins with 'A'. -/
theorem isA_between {k x : Nm} {r : List UInt8} (hx : x.toList = 65 :: r) (h1 : Md.nlt k x = false) (h2 : Md.nlt k pB = true) : isA k = true := by
  have hB : pB.toList = [66] := by rw [ByteArray.toList_eq]; rfl
  unfold Md.nlt at h1 h2
  rw [hx] at h1
  rw [hB] at h2
  cases hk : k.toList with
  | nil => rw [hk] at h1; simp [Op.bytesLess] at h1
  | cons b t =>
    rw [hk] at h1 h2
    have e : b = 65 := by
      simp only [Op.bytesLess] at h1 h2
      by_cases c1 : b < 65
      · simp [c1] at h1
      · by_cases c2 : b < 66
        · have n1 : ¬ b.toNat < 65 := fun h => c1 (UInt8.lt_iff_toNat_lt.2 h)
          have n2 : b.toNat < 66 := UInt8.lt_iff_toNat_lt.1 c2
          exact UInt8.toNat_inj.1 (show b.toNat = 65 by omega)
        · by_cases c3 : (66 : UInt8) < b
          · simp [c2, c3] at h2
          · simp [c2, c3] at h2
    subst e
    exact isA_of hk
theorem scan_own {es : List En} (hr : Right es) {a b : Nm} (h : ∀ k v, Md.nlt k a = false → Tb.under b (k, v) = true → isA k = true) : Tb.scan a b es = Tb.scan a b (own es) := by
  refine right_ext (right_scan hr) (right_scan (right_own hr)) fun x => ?_
  rw [mem_scan hr, mem_scan (right_own hr), mem_own]
  constructor
  · rintro ⟨h1, h2, h3⟩; exact ⟨⟨h1, h x.1 x.2 h2 h3⟩, h2, h3⟩
  · rintro ⟨⟨h1, _⟩, h2, h3⟩; exact ⟨h1, h2, h3⟩
theorem toList_pA (s : Nm) : (pA ++ s).toList = 65 :: s.toList := by
  rw [ByteArray.toList_eq, ByteArray.toList_eq]
  simp [pA]
theorem under_B {k v b : Nm} (hb : b = pB ∨ ∃ s, b = pA ++ s) (h : Tb.under b (k, v) = true) : Md.nlt k pB = true := by
  have hB : pB.toList = [66] := by rw [ByteArray.toList_eq]; rfl
  unfold Tb.under at h
  rcases hb with rfl | ⟨s, rfl⟩
  · have : decide (pB.size = 0) = false := rfl
    rw [this, Bool.false_or] at h
    exact h
  · rw [decide_eq_false (size_pA _), Bool.false_or] at h
    refine nlt_trans h ?_
    unfold Md.nlt
    rw [toList_pA, hB]
    simp [Op.bytesLess]
theorem near_own {es : List En} (hr : Right es) (u : Int) : near es u = near (own es) u := by
  unfold near
  rw [scan_own hr]
  intro k v h1 h2
  refine isA_between (toList_pA _) h1 (under_B ?_ h2)
  unfold upK
  split
  · exact .inr ⟨_, rfl⟩
  · exact .inl rfl
theorem edges_own {es : List En} (hr : Right es) : edges es = edges (own es) := by
  unfold edges
  rw [scan_own hr]
  intro k v h1 h2
  exact isA_between (r := []) (by rw [ByteArray.toList_eq]; rfl) h1 (under_B (.inl rfl) h2)
theorem edges_good {es : List En} {A T : List Pr} (hr : Right es) (s : Sim (own es) A T) : ∀ x ∈ Tb.scan pA pB es, Good x := by
  intro x hx
  obtain ⟨h0, h1, h2⟩ := (mem_scan hr).1 hx
  exact s.good x (mem_own.2 ⟨h0, isA_between (r := []) (by rw [ByteArray.toList_eq]; rfl) h1 (under_B (v := x.2) (.inl rfl) h2)⟩)
theorem own_len (es : List En) : es.length = (own es).length + (oth es).length := len_filters _ es
/-- Marked edges A, T, beside other entries M. -/
structure Is (es : List En) (A T : List Pr) (M : List En) : Prop where
  right : Right es
  sim : Sim (own es) A T
  oth : oth es = M
theorem is_nil : Is [] [] [] [] := ⟨⟨by simp, List.Pairwise.nil⟩, sim_nil, rfl⟩
theorem Is.set {es : List En} {A T : List Pr} {M : List En} (s : Is es A T M) {u v : Int} (t : Bool) (h : Md.wrong u v = 0) :
    Is (put (put es (ks u v) (vt t)) (ks v u) (vt t)) (Eg.put A (Md.pair u v)) (setT T (Md.pair u v) t) M := by
  have h' : Md.wrong v u = 0 := by rw [wrong_comm]; exact h
  have r1 := Tb.right_put s.right (ks_chk h t)
  refine ⟨Tb.right_put r1 (ks_chk h' t), ?_, ?_⟩
  · rw [own_put r1 (ks_chk h' t) (ks_is h'), own_put s.right (ks_chk h t) (ks_is h)]
    exact s.sim.set t h
  · rw [oth_put r1 (ks_chk h' t) (ks_is h'), oth_put s.right (ks_chk h t) (ks_is h)]
    exact s.oth
theorem Is.clear {es : List En} {A T : List Pr} {M : List En} (s : Is es A T M) {u v : Int} (h : Md.wrong u v = 0) :
    Is (del (del es (ks u v)) (ks v u)) (Eg.without A (Md.pair u v)) (Eg.without T (Md.pair u v)) M := by
  have h' : Md.wrong v u = 0 := by rw [wrong_comm]; exact h
  have r1 : Right (del es (ks u v)) := Tb.right_del s.right
  refine ⟨Tb.right_del r1, ?_, ?_⟩
  · rw [own_del r1, own_del s.right]
    exact s.sim.clear h
  · rw [oth_del r1 (ks_is h'), oth_del s.right (ks_is h)]
    exact s.oth
theorem Is.more {es : List En} {A T : List Pr} {M : List En} (s : Is es A T M) {k v : Nm} (hc : chk k v = 0) (h : isA k = false) : Is (put es k v) A T (put M k v) := by
  refine ⟨Tb.right_put s.right hc, ?_, ?_⟩
  · rw [own_put2 s.right hc h]; exact s.sim
  · rw [oth_put2 s.right hc h, s.oth]
theorem Is.has {es : List En} {A T : List Pr} {M : List En} (s : Is es A T M) {u v : Int} (h : Md.wrong u v = 0) : Ky.has (ks u v) es = decide (Md.pair u v ∈ A) := by
  rw [own_has (ks_is h)]; exact s.sim.has h
theorem Is.get {es : List En} {A T : List Pr} {M : List En} (s : Is es A T M) {u v : Int} (h : Md.wrong u v = 0) :
    Ky.get es (ks u v) = if Md.pair u v ∈ A then some (vt (decide (Md.pair u v ∈ T))) else none := by
  rw [own_get s.right (ks_is h)]; exact s.sim.get h
theorem Is.edges {es : List En} {A T : List Pr} {M : List En} (s : Is es A T M) : Aj.edges es = A := by
  rw [edges_own s.right]; exact s.sim.edges
theorem Is.near {es : List En} {A T : List Pr} {M : List En} (s : Is es A T M) {u : Int} (hu : 0 ≤ u ∧ u < 1048576) : Aj.near es u = (nb A u).map fun v => (v, decide (Md.pair u v ∈ T)) := by
  rw [near_own s.right]; exact s.sim.near hu
theorem Is.len {es : List En} {A T : List Pr} {M : List En} (s : Is es A T M) : es.length = 2 * A.length + M.length := by
  rw [own_len, s.sim.len, s.oth]
end Aj
end Go.Proofs.YthbbdicdcmjpiaaGreatDoor

/-
  adj over marked edges: set, cleared, asked; contracts. It proves no statement by itself.
-/
namespace Go.Proofs.YthbbdicdcmjpiaaGreatDoor
open Go.RowKit Go.Lib
set_option linter.unusedSimpArgs false
set_option linter.unusedVariables false
set_option linter.unusedSectionVars false
/-- Edges on a tree: A, of which T are marked; other entries M. -/
def AjM (a : Nat) (c : Cq) (A T : List Pr) (M : List Ky.En) (q g : Nat) : Asn := ex fun es : {es : List Ky.En // Aj.Is es A T M} => AjAt a c es.1 q g
section
variable {a : Nat} {c : Cq} {F : Asn} {w : World} {R : Ending → World → Prop} {A T : List Pr} {M : List Ky.En} {q g : Nat}
theorem sat_ajm : Sat (AjM a c A T M q g * F) w ↔ ∃ es, Aj.Is es A T M ∧ Sat (AjAt a c es q g * F) w := by
  have e0 : AjM a c A T M q g * F = (ex fun es : {es : List Ky.En // Aj.Is es A T M} => AjAt a c es.1 q g) * F := rfl
  rw [e0, sat_ex]
  constructor
  · rintro ⟨⟨es, h⟩, k⟩; exact ⟨es, h, k⟩
  · rintro ⟨es, h, k⟩; exact ⟨⟨es, h⟩, k⟩
theorem AjAt.mono {es : List Ky.En} {q' g' : Nat} (hq : q ≤ q') (hg : g ≤ g') (H : Sat (AjAt a c es q g * F) w) : Sat (AjAt a c es q' g' * F) w := AjAt.of (TrAt.mono hq hg (AjAt.tr H))
theorem AjM.mono {q' g' : Nat} (hq : q ≤ q') (hg : g ≤ g') (H : Sat (AjM a c A T M q g * F) w) : Sat (AjM a c A T M q' g' * F) w := by
  obtain ⟨es, s, H⟩ := sat_ajm.1 H
  exact sat_ajm.2 ⟨es, s, AjAt.mono hq hg H⟩
theorem AjM.first (H : Sat (AjAt a c [] q g * F) w) : Sat (AjM a c [] [] [] q g * F) w := sat_ajm.2 ⟨[], Aj.is_nil, H⟩
theorem ajm_set (u v : Int) (t : Bool) (hk : c.k.n ≤ 3000) (hg : g ≤ 238) (hq : 60 ≤ q) (hroom : Hid (30 + (Tb.most (q + 12) (g + 1) : Int) < c.k.room)) {e : Int} (he : Hid (e = Md.wrong u v)) (H : Sat (AjM a c A T M q g * F) w)
    (hR : ∀ w', Sat (AjM a c (if e = 0 then Eg.put A (Md.pair u v) else A) (if e = 0 then Aj.setT T (Md.pair u v) t else T) M (q + 24) (g + 2) * F) w' → Io w w' → R (.returned (.int .i64 e)) w') :
    Calls Tryz.prog 11 #[.pointer (some ⟨a, 0, none⟩), .int .i64 u, .int .i64 v, .bool t] w R := by
  obtain ⟨es, s, H⟩ := sat_ajm.1 H
  by_cases h0 : e = 0
  · subst h0
    rw [if_pos rfl, if_pos rfl] at hR
    refine aset_yes he.out.symm hk hg hq hroom.out H fun w' H' I => hR w' (sat_ajm.2 ⟨_, s.set t he.out.symm, H'⟩) I
  · rw [if_neg h0, if_neg h0] at hR
    refine aset_no he h0 H fun w' H' I => hR w' (AjM.mono (by omega) (by omega) (sat_ajm.2 ⟨_, s, H'⟩)) I
theorem ajm_clear (u v : Int) (hk : c.k.n ≤ 3000) (hg : g ≤ 240) (hq : 60 ≤ q) (hroom : Hid (30 + (Tb.most q g : Int) < c.k.room)) {e : Int} (he : Hid (e = if Md.wrong u v = 0 then (if Md.pair u v ∈ A then 0 else 181) else Md.wrong u v)) (H : Sat (AjM a c A T M q g * F) w)
    (hR : ∀ w', Sat (AjM a c (if e = 0 then Eg.without A (Md.pair u v) else A) (if e = 0 then Eg.without T (Md.pair u v) else T) M q g * F) w' → Io w w' → R (.returned (.int .i64 e)) w') :
    Calls Tryz.prog 14 #[.pointer (some ⟨a, 0, none⟩), .int .i64 u, .int .i64 v] w R := by
  obtain ⟨es, s, H⟩ := sat_ajm.1 H
  have he' := he.out
  by_cases h0 : Md.wrong u v = 0
  · rw [if_pos h0] at he'
    refine aclear_yes h0 (Lib.hid (s.has h0).symm) hk hg hq hroom H fun w' H' I => ?_
    by_cases hp : Md.pair u v ∈ A
    · rw [if_pos hp] at he'
      subst he'
      rw [if_pos rfl, if_pos rfl] at hR
      simp only [decide_eq_true hp, if_true] at H' ⊢
      exact hR w' (sat_ajm.2 ⟨_, s.clear h0, H'⟩) I
    · rw [if_neg hp] at he'
      subst he'
      rw [if_neg (by omega), if_neg (by omega)] at hR
      simp only [decide_eq_false hp, Bool.false_eq_true, if_false] at H' ⊢
      exact hR w' (sat_ajm.2 ⟨_, s, H'⟩) I
  · rw [if_neg h0] at he'
    have hne : e ≠ 0 := by rw [he']; exact h0
    rw [if_neg hne, if_neg hne] at hR
    exact aclear_no (Lib.hid he') hne H fun w' H' I => hR w' (sat_ajm.2 ⟨_, s, H'⟩) I
theorem ajm_edges (hg : g ≤ 240) (hA : A.length ≤ 1000) (hM : M.length ≤ 1000) (H : Sat (AjM a c A T M q g * F) w)
    (hR : ∀ v w', Sat (RowP v A * (AjM a c A T M q g * F)) w' → Io w w' → R (.returned (.tuple #[v, .int .i64 0])) w') :
    Calls Tryz.prog 17 #[.pointer (some ⟨a, 0, none⟩)] w R := by
  obtain ⟨es, s, H⟩ := sat_ajm.1 H
  have hl := s.len
  refine edges_any hg (by omega) (Aj.edges_good s.right s.sim) H fun v w' H' I => hR v w' ?_ I
  rw [s.edges] at H'
  exact (sat_ajm.2 ⟨es, s, H'.of_eq (show _ = AjAt a c es q g * (RowP v _ * F) from by unfold RowP; ac_rfl)⟩).of_eq (by unfold RowP; ac_rfl)
end
end Go.Proofs.YthbbdicdcmjpiaaGreatDoor

/-
  The document's set of marked edges: Put, Drop, by walks. It proves no statement by itself.
-/
namespace Go.Proofs.YthbbdicdcmjpiaaGreatDoor
open Go.RowKit Go.Lib
set_option linter.unusedSimpArgs false
set_option linter.unusedVariables false
set_option linter.unusedSectionVars false
theorem swap3 {A B C : Asn} {w : World} (h : Sat (A * (B * C)) w) : Sat (B * (A * C)) w := h.of_eq (by ac_rfl)
theorem rowOf_shl {α : Type} {enc : α → List Value} {sz : Nat} {e : TypeId} {v : Value} {l : List α} {F : Asn} {w : World} (H : Sat (RowOf e sz enc v l * F) w) : ∃ a c, v = .slice a l.length c := by
  obtain ⟨hx, ⟨rfl, h0, _⟩ | ⟨g, cap, cur, rfl, h2, h3, h4, h5, _⟩⟩ := sat_row.1 H
  · exact ⟨none, 0, by rw [h0]⟩
  · exact ⟨_, _, rfl⟩
section
variable {F : Asn} {w : World} {R : Ending → World → Prop} {s : Nat} {A T : List Pr}
end
end Go.Proofs.YthbbdicdcmjpiaaGreatDoor

/-
  The document's set of marked edges: Near, by its walk. It proves no statement by itself.
-/
namespace Go.Proofs.YthbbdicdcmjpiaaGreatDoor
open Go.RowKit Go.Lib
set_option linter.unusedSimpArgs false
set_option linter.unusedVariables false
set_option linter.unusedSectionVars false
namespace Aj
end Aj
section
variable {F : Asn} {w : World} {R : Ending → World → Prop} {s : Nat} {A T : List Pr}
end
end Go.Proofs.YthbbdicdcmjpiaaGreatDoor
