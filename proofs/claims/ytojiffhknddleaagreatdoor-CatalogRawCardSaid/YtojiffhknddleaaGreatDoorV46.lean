/-
  catalog: New, Drop, by walks; law 19's fresh. It proves no statement by itself.
-/
import Derived.Test.YtojiffhknddleaaGreatDoorV44
import Derived.Test.YtojiffhknddleaaGreatDoorV45
namespace Go.Proofs.YtojiffhknddleaaGreatDoor
open Go.RowKit Go.Lib
set_option linter.unusedSimpArgs false
set_option linter.unusedVariables false
set_option linter.unusedSectionVars false
section
variable {a : Nat} {c : Cq} {F : Asn} {w : World} {R : Ending → World → Prop} {V : List Md.Ver} {B : List Md.Br} {q g : Nat}
/-- A key taken away from the catalogue's tree. -/
theorem kt_del {es : List Ky.En} {k : ByteArray} (hk : c.k.n ≤ 3000) (hg : g ≤ 240) (hq : 60 ≤ q) (hroom : Hid (30 + (Tb.most q g : Int) < c.k.room)) (H : Sat (TrAt c es q g * F) w)
    (hR : ∀ d w', Sat (TrAt c (Ky.del es k) q g * F) w' → Io w w' → R (.returned (.tuple #[.bool d, .int .i64 0])) w') :
    Calls Tryz.prog 43 #[.pointer (some ⟨c.tr, 0, none⟩), .string k] w R := by
  cases hh : Ky.has k es with
  | true =>
    refine ctdel_yes hk hg hq (TrAt.right H) hh H fun d x w' D I => ?_
    rcases D with ⟨rfl, rfl, H'⟩ | ⟨_, _, h1, _⟩
    · exact hR _ w' H' I
    · have := hroom.out; omega
  | false =>
    refine ctdel_no hg hh H fun w' H' I => hR _ w' ?_ I
    have e : Ky.del es k = es := by unfold Ky.del; rw [if_neg (by rw [hh]; simp)]
    rw [e]; exact H'
theorem kd_get {B : List Md.Br} {F : Asn} {W : World} {ad : Option Addr} {cc : Nat} (hB : B.length ≤ 1000) (H : Sat (RowB (.slice ad B.length cc) B * F) W) (k : Nat) (hk : k < B.length) : ∃ b off, ad = some ⟨b, off, none⟩ ∧ ∀ w, Sat (RowB (.slice ad B.length cc) B * F) w → w.cell? ⟨b, off + k * 2, none⟩ = some (.string B[k].name) ∧ w.cell? ⟨b, off + k * 2 + 1, none⟩ = some (.int .i64 B[k].head) := by
  obtain ⟨b, off, nm, hd, e, hx, hc⟩ := readsB_get (Reads.of_row H (by omega)) k hk
  refine ⟨b, off, e, fun w hw => ?_⟩
  have := hc w hw
  rw [hx]
  exact this
theorem kd_any {B : List Md.Br} {id : Int} {k : Nat} (hk : k < B.length) (h : B[k].head = id) : B.any (fun b => decide (b.head = id)) = true :=
  List.any_eq_true.2 ⟨B[k], List.getElem_mem hk, by simpa using h⟩
theorem kd_step {B : List Md.Br} {id : Int} {k : Nat} (hk : k < B.length) (h : ¬ B[k].head = id) (h0 : (B.take k).any (fun b => decide (b.head = id)) = false) : (B.take (k + 1)).any (fun b => decide (b.head = id)) = false := by
  rw [List.take_succ_eq_append_getElem hk, List.any_append, h0]
  simpa using h
set_option maxRecDepth 100000 in
set_option maxHeartbeats 8000000 in
/-- A VERSION IS TAKEN AWAY, or why not is told. -/
theorem kdrop_any (id : Int) {e : Int} {V' : List Md.Ver} (hm : Hid (Md.drp V B id = (e, V'))) (hl : V.length + B.length ≤ 1000) (hk : c.k.n ≤ 3000) (hg : g ≤ 240) (hq : 60 ≤ q) (hroom : Hid (30 + (Tb.most q g : Int) < c.k.room)) (H : Sat (KtAt a c V B q g * F) w)
    (hR : ∀ w', Sat (KtAt a c V' B q g * F) w' → Io w w' → R (.returned (.int .i64 e)) w') :
    Calls Tryz.prog 16 #[.pointer (some ⟨a, 0, none⟩), .int .i64 id] w R := by
  have HH := Lib.hid hR
  have HG := Lib.hid hg
  have HL := Lib.hid hl
  have HQ := Lib.hid hq
  have HKN := Lib.hid hk
  have hx := hm.out
  unfold Md.drp at hx
  clear hR hm hg hl hq hk
  go_enter Tryz.func16, Tryz.ntmps16
  by_cases h3 : ¬ Md.vplace V id < V.length
  · rw [if_pos h3, Prod.mk.injEq] at hx
    obtain ⟨rfl, rfl⟩ := hx
    have HW : Hid (Ca.vat V id = (Ca.v0, 190)) := Lib.hid (by unfold Ca.vat; rw [dif_neg h3])
    clear h3
    go_wp2_with (first
      | (go_at_call 26; (with_reducible refine cversion_any id HW HG.out H ?_); intro w3 H3 I3; have H4 := (H3.new (.cells #[.int .i64 0, .int .i64 0, .int .i64 0, .int .i64 0] 30)).right; have I4 := I3.alloc (.cells #[.int .i64 0, .int .i64 0, .int .i64 0, .int .i64 0] 30))
      | fail)
    exact HH.out _ H4 I4
  · rw [if_neg h3] at hx
    have h3' : Md.vplace V id < V.length := by omega
    have HP3 := Lib.hid h3'
    have HW : Hid (Ca.vat V id = (V[Md.vplace V id]'h3', 0)) := Lib.hid (by unfold Ca.vat; rw [dif_pos h3'])
    generalize V[Md.vplace V id]'h3' = vv at HW
    obtain ⟨x1, x2, x3, x4⟩ := vv
    clear h3 h3'
    have HX := Lib.hid hx
    clear hx
    go_wp2_with (first
      | (go_at_call 26; (with_reducible refine cversion_any id HW HG.out H ?_); intro w3 H3 I3; have H4 := (H3.new (.cells #[.int .i64 x1, .int .i64 x2, .int .i64 x3, .int .i64 x4] 30)).right; have I4 := I3.alloc (.cells #[.int .i64 x1, .int .i64 x2, .int .i64 x3, .int .i64 x4] 30))
      | (go_at_call 12; (with_reducible refine branches_any HG.out HL.out H4 ?_); intro vb w5 H5 I5; obtain ⟨ab, cb, hq⟩ := rowOf_shl H5; subst hq)
      | fail)
    have n1 : (B.length : Int) ≤ 1000 := by have := HL.out; omega
    have HE := Lib.hid (fun k hk => kd_get (by have := HL.out; omega) H5 k hk)
    have J5 := (I4.trans I5)
    clear H H3 H4 I3 I4 I5
    go_loopw [32] (fun x wr => ∃ k : Nat, k ≤ B.length ∧ x = .int .i64 (k : Int) ∧ Hid ((B.take k).any (fun b => decide (b.head = id)) = false) ∧ Sat (RowB (.slice ab B.length cb) B * (KtAt a c V B q g * F)) wr ∧ Io w wr) (fun x _ => B.length - (RowKit.intOf x).toNat)
    case atStart => exact ⟨0, by omega, rfl, Lib.hid (by simp), H5, J5⟩
    case round =>
      obtain ⟨k, hk, rfl, HA, Hk, Ik⟩ := hrel
      clear H5 J5
      by_cases hlt : k < B.length
      · have hlti : (k : Int) < (B.length : Int) := by omega
        have hk0 : (0 : Int) ≤ (k : Int) := by omega
        obtain ⟨b, off, rfl, hc⟩ := HE.out k hlt
        obtain ⟨g0, g1⟩ := hc _ Hk
        have HSt := Lib.hid (kd_step (id := id) hlt)
        have HAn := Lib.hid (kd_any (id := id) hlt)
        generalize B[k] = z at *
        obtain ⟨nm, hd⟩ := z
        simp only at g0 g1
        clear hc
        have H2 := Hk.new (.cells #[.string nm, .int .i64 hd] 65)
        have I2 := Ik.alloc (.cells #[.string nm, .int .i64 hd] 65)
        go_upto_region 10 with fail
        generalize wr.alloc (.cells #[.string nm, .int .i64 hd] 65) = w2 at *
        generalize wr.heap.size = bx at *
        have Z := nd2 H2
        obtain ⟨q0, q1⟩ := Z
        by_cases hh : hd = id
        · subst hh
          have hx := HX.out
          rw [if_pos (HAn.out rfl), Prod.mk.injEq] at hx
          obtain ⟨rfl, rfl⟩ := hx
          have FIN := Lib.hid (HH.out _ H2.right.right I2)
          clear HE HH HX
          go_wp2_with fail
          exact FIN.out
        · go_wp2_with fail
          go_roundw
          case rel => exact ⟨k + 1, by omega, by go_num, Lib.hid (HSt.out hh HA.out), H2.right, I2⟩
          case measure => simp [RowKit.intOf]; omega
      · obtain rfl : k = B.length := by omega
        have hge : ¬ (B.length : Int) < (B.length : Int) := by omega
        have hx := HX.out
        have ha := HA.out
        rw [List.take_length] at ha
        rw [if_neg (by rw [ha]; simp), Prod.mk.injEq] at hx
        obtain ⟨rfl, rfl⟩ := hx
        clear HE HX ha HA
        obtain ⟨es, cat', K⟩ := sat_kt.1 Hk.right
        have hid := Ca.vplace_ok cat' HP3.out
        have HD : Hid (true = decide (Ca.okId id)) := Lib.hid (decide_eq_true hid).symm
        obtain ⟨kk, hkk⟩ : ∃ kk, kk = Ca.kk id := ⟨_, rfl⟩
        have HK := Lib.hid hkk
        have HF : Hid (Ky.del es kk = Ky.del es (Ca.vk id)) := Lib.hid (by rw [hkk, Ca.kk_id hid])
        have HC2 := Lib.hid (cat'.delV hid)
        clear hkk hid cat' Hk
        go_wp2_with (first
          | (go_at_call 36; (with_reducible refine ckey_any id HK HD K ?_); intro w6 H6 I6; have S1 := (nd1 H6.right).1)
          | (go_at_call 43; (with_reducible refine kt_del HKN.out HG.out HQ.out hroom H6 ?_); intro d w7 H7 I7)
          | fail)
        exact HH.out _ (sat_kt.2 ⟨_, HC2.out, by rw [HF.out] at H7; exact H7⟩) ((Ik.trans I6).trans I7)
end
end Go.Proofs.YtojiffhknddleaaGreatDoor
