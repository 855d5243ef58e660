/-
  What the calls on a disk do, by their walks. It proves no statement by itself.
-/
import Derived.Test.YtpccdadobnhpkaaDoorDisk
import Derived.Test.YtpccdadobnhpkaaDoorRep
namespace Go.Proofs.YtpccdadobnhpkaaDoor
open Go.RowKit
set_option linter.unusedSimpArgs false
set_option linter.unusedVariables false

section
variable {p sb mb : Nat} {pv : Value} {ob : Obj} {d : Dk} {w : World} {R : Ending → World → Prop}

theorem ret_int {k : IntKind} {a b : Int} (h : a = b) : Ending.returned (.int k a) = .returned (.int k b) := by rw [h]

set_option maxRecDepth 100000 in
set_option maxHeartbeats 400000 in
theorem at_any (S : DkSeen p sb mb pv ob d w) (hm : d.sure.length ≤ 16384) (i : Int) (h : R (.returned (.int .i64 (d.atE i))) w) :
    Calls Tryd.prog 44 #[.pointer (some ⟨p, 0, none⟩), .int .i64 i] w R := by
  have h0 := S.c0
  have h4 := S.c4
  generalize hv : d.atE i = v at h
  have HV := Lib.hid hv
  clear hv
  cases hd : d.down with
  | true =>
    rw [hd] at h4
    have e : v = 4 := by rw [← HV.out]; simp [Dk.atE, hd]
    subst e
    clear HV hd
    go_enter Tryd.func44, Tryd.ntmps44
    go_wp2
    exact h
  | false =>
    rw [hd] at h4
    have HD := Lib.hid hd
    clear hd
    by_cases h1 : i < 0
    · have e : v = 40 := by rw [← HV.out]; simp [Dk.atE, HD.out]; omega
      subst e
      clear HV HD
      go_enter Tryd.func44, Tryd.ntmps44
      go_wp2
      exact h
    · by_cases h2 : i < (d.sure.length : Int)
      · have e : v = 0 := by rw [← HV.out]; simp [Dk.atE, HD.out]; omega
        subst e
        clear HV HD
        go_enter Tryd.func44, Tryd.ntmps44
        go_wp2
        exact h
      · have e : v = 40 := by rw [← HV.out]; simp [Dk.atE, HD.out]; omega
        subst e
        clear HV HD
        go_enter Tryd.func44, Tryd.ntmps44
        go_wp2
        exact h

theorem sectors_any (S : DkSeen p sb mb pv ob d w) (hm : d.sure.length ≤ 16384) (h : R (.returned (.int .i64 (d.sure.length : Int))) w) :
    Calls Tryd.prog 46 #[.pointer (some ⟨p, 0, none⟩)] w R := by
  have h0 := S.c0
  go_enter Tryd.func46, Tryd.ntmps46
  go_wp2
  exact h

theorem break_any {F : Asn} (H : Sat (IsDk p d * F) w) (n : Int) (hn : -9223372036854775808 ≤ n) (hn2 : n ≤ 9223372036854775807) (h : ∀ w', Sat (IsDk p (d.brk n) * F) w' → Io w w' → R (.returned (.tuple #[])) w') :
    Calls Tryd.prog 24 #[.pointer (some ⟨p, 0, none⟩), .int .i64 n] w R := by
  obtain ⟨sb, mb, pv, ob, m, h1, h2, H⟩ := isDk_open H
  have S := dk_seen H
  have h3 := S.c3
  have hf := S.fz 3
  have fin : ∀ v : Int, v = (d.brk n).left → Sat (IsDk p (d.brk n) * F) (w.setCell ⟨p, 3, none⟩ (.int .i64 v)) := by
    intro v hv
    subst hv
    exact isDk_shut (d := d.brk n) h1 h2 (dk_left H _)
  have hio : ∀ v, Io w (w.setCell ⟨p, 3, none⟩ v) := fun v => (Io.refl w).setCell _ _
  clear H S h1 h2
  have f := fin (max n (-1)) rfl
  clear fin
  go_enter Tryd.func24, Tryd.ntmps24
  go_wp2
  go_end0
  exact h _ f (hio _)

/-! ### the counts -/

theorem add_any {b j : Nat} {x : Int} (w : World) (hc : w.cell? ⟨b, j, none⟩ = some (.int .i64 x)) (hf : w.frozen? ⟨b, j, none⟩ = false) (h0 : 0 ≤ x) (h1 : x ≤ 4000000000000000000)
    (h : R (.returned (.int .i64 (x + 1))) (w.setCell ⟨b, j, none⟩ (.int .i64 (x + 1)))) :
    Calls Tryd.prog 45 #[.pointer (some ⟨b, j, none⟩), .int .i64 1] w R := by
  have hw : IntKind.i64.wrap (x + 1) = x + 1 := IntWalk.i64_in _ (by omega)
  have hadd := run_call_add (P := Tryd.prog) Tryd.func69 (by kernel_rfl) (by kernel_rfl) (by kernel_rfl) .i64 (by kernel_rfl) (y := 1) (s := x + 1) hc hf (by simp [Op.intArith, hw])
  clear hw
  go_enter Tryd.func45, Tryd.ntmps45
  go_wp2
  exact h

/-! ### Read -/

theorem look_any {m : List (Int × Value)} (hm : MapI .i64 m ob) (W : World) (hb : W.heap[mb]? = some ob) (i : Int) :
    (Instr.lookup 63 (.map (some mb)) (.int .i64 i) true).run Tryd.prog W = .ok (.tuple #[(mget i m).getD (.string ⟨#[]⟩), .bool (mget i m).isSome]) W :=
  run_lookup_sl (P := Tryd.prog) Tryd.underlying63 Tryd.underlying3 (Tryd.zeroValue9 W) hb hm i

set_option maxRecDepth 100000 in
set_option maxHeartbeats 400000 in
theorem read_any {F : Asn} (H : Sat (IsDk p d * F) w) (ok : d.Ok) (hr : d.reads ≤ 4000000000000000000) (i : Int)
    (h : ∀ w', Sat (IsDk p (d.read i) * F) w' → Io w w' → R (.returned (.tuple #[.string (d.readS i), .int .i64 (d.atE i)])) w') :
    Calls Tryd.prog 37 #[.pointer (some ⟨p, 0, none⟩), .int .i64 i] w R := by
  obtain ⟨sb, mb, pv, ob, m, h1, h2, HP⟩ := isDk_open H
  have S := dk_seen HP
  have hmany := ok.many
  by_cases he : d.atE i = 0
  · have e1 : d.read i = { d with reads := d.reads + 1 } := by simp [Dk.read, he]
    have hi : 0 ≤ i ∧ i < (d.sure.length : Int) := by
      unfold Dk.atE at he
      split at he
      · cases he
      · split at he
        · assumption
        · cases he
    have e2 : d.readS i = d.now i.toNat := by simp [Dk.readS, he]
    have hn := h (w.setCell ⟨p, 5, none⟩ (.int .i64 (d.reads + 1))) (by rw [e1]; exact isDk_shut (d := { d with reads := d.reads + 1 }) h1 h2 (dk_reads HP _)) ((Io.refl w).setCell _ _)
    rw [e2, he] at hn
    have hlk := look_any h1 (w.setCell ⟨p, 5, none⟩ (.int .i64 (d.reads + 1))) (by rw [Below.heap_setCell _ _ _ _ (Ne.symm S.pm)]; exact S.bm) i
    have hag := h2 i
    have hit : ((i.toNat : Nat) : Int) = i := Int.toNat_of_nonneg hi.1
    have hnow : d.now i.toNat = ((Dk.last i d.pend).getD (d.sure.getD i.toNat ByteArray.empty)) := by unfold Dk.now; rw [hit]
    have hcs : w.cell? ⟨sb, i.toNat, none⟩ = some (.string (d.sure.getD i.toNat ByteArray.empty)) := by
      rw [Sat.read S.bs, strs_get d.sure i.toNat (by omega)]
    have c0 := S.c0
    have c1 := S.c1
    have c5 := S.c5
    have f5 := S.fz 5
    have ps := S.ps
    have hr0 := ok.reads
    obtain ⟨hi0, hi1⟩ := hi
    rw [hag] at hlk
    rw [hnow] at hn
    generalize d.sure.getD i.toNat ByteArray.empty = t at *
    clear hag hnow hit e1 e2 h
    cases hl : Dk.last i d.pend with
    | none =>
      rw [hl] at hlk hn
      simp only [Option.map_none, Option.getD_none, Option.isSome_none] at hlk hn
      clear hl
      have HE := Lib.hid he
      clear he
      go_enter Tryd.func37, Tryd.ntmps37
      go_wp2_with (first | (go_at_call 44; refine at_any S hmany i ?_; rw [HE.out]) | (go_at_call 45; refine add_any _ c5 f5 hr0 hr ?_))
      exact hn
    | some s =>
      rw [hl] at hlk hn
      simp only [Option.map_some, Option.getD_some, Option.isSome_some] at hlk hn
      clear hl
      have HE := Lib.hid he
      clear he
      go_enter Tryd.func37, Tryd.ntmps37
      go_wp2_with (first | (go_at_call 44; refine at_any S hmany i ?_; rw [HE.out]) | (go_at_call 45; refine add_any _ c5 f5 hr0 hr ?_))
      exact hn
  · have e1 : d.read i = d := by simp [Dk.read, he]
    have e2 : d.readS i = ByteArray.empty := by simp [Dk.readS, he]
    have hn := h w (by rw [e1]; exact H) (Io.refl w)
    rw [e2] at hn
    clear e1 e2 h
    have ha := at_any (R := fun e w' => e = .returned (.int .i64 (d.atE i)) ∧ w = w') S hmany i ⟨rfl, rfl⟩
    generalize d.atE i = v at *
    have hv : (v == 0) = false := by simpa using he
    have hv2 : (v != 0) = true := by simpa using he
    go_enter Tryd.func37, Tryd.ntmps37
    go_wp2_with (go_at_call 44; refine ha.mono ?_; rintro e w' ⟨rfl, rfl⟩)
    exact hn

/-! ### Write -/

theorem Tryd.info75 : (Tryd.prog.info? 75).map (fun i => (i.zero, i.size, i.bytes)) = some (some (.agg #[.int .i64 0, .string ⟨#[]⟩]), 2, 24) := by kernel_rfl

set_option maxRecDepth 100000 in
set_option maxHeartbeats 1000000 in
theorem write_ok {F : Asn} (H : Sat (IsDk p d * F) w) (ok : d.Ok) (hr : d.writes ≤ 4000000000000000000) (hp : d.pend.length ≤ 1000000) (i : Int) (s : ByteArray) (he : d.atE i = 0) (hs : s.size = 256)
    (h : ∀ w', Sat (IsDk p (d.write i s) * F) w' → Io w w' → R (.returned (.int .i64 (d.writeE i s))) w') :
    Calls Tryd.prog 27 #[.pointer (some ⟨p, 0, none⟩), .int .i64 i, .string s] w R := by
  obtain ⟨sb, mb, pv, ob, m, h1, h2, HP⟩ := isDk_open H
  obtain ⟨i0, hi, hz0, hz1, hz2⟩ := info_parts Tryd.info75
  have S := dk_seen HP
  have hmany := ok.many
  have hlen := Lib.hid hs
  have hlen2 : ((s.size : Int) != 256) = false := by rw [hs]; rfl
  -- the count, and one more pending
  have HP1 := dk_writes HP (d.writes + 1)
  rw [dk_row] at HP1
  have c2 := S.c2
  have c6 := S.c6
  have f6 := S.fz 6
  have hw0 := ok.writes
  have hl0 := ok.left.1
  have hl1 := ok.left.2
  have HE := Lib.hid he
  have ew : d.write i s = { d with pend := d.pend ++ [(i, s)], writes := d.writes + 1, down := if d.left = 0 then true else d.down, left := if d.left = 0 then -1 else if 0 < d.left then d.left - 1 else d.left } := by simp [Dk.write, he, hs]
  have ee : d.writeE i s = if d.left = 0 then 4 else 0 := by simp [Dk.writeE, he, hs]
  rw [ew, ee] at h
  have HW := Lib.hid h
  clear he hs ew ee h
  have e1 : pcells d.pend ++ [.int .i64 i, .string s] = pcells (d.pend ++ [(i, s)]) := (pcells_snoc _ (i, s)).symm
  have e2 : ∀ (A : Nat → Asn), A (d.pend.length + 1) = A ((d.pend ++ [(i, s)]).length) := by intro A; simp
  have I0 := (Io.refl w).setCell ⟨p, 6, none⟩ (.int .i64 (d.writes + 1))
  have HE1 := Lib.hid e1
  have HE2 := Lib.hid e2
  clear e1 e2
  go_enter Tryd.func27, Tryd.ntmps27
  go_wp2_with (first | (go_at_call 44; refine at_any S hmany i ?_; rw [HE.out]) | (go_at_call 45; refine add_any _ c6 f6 hw0 hr ?_) | (at_builtin; refine wpList_append_new rfl (.tmp 25) (.tmp 29) 64 rfl 75 Tryd.underlying64 hi hz0 hz1 hz2 rfl rfl HP1 1 1 [.int .i64 i, .string s] rfl (setCell_size _ _ _).symm rfl rfl (by omega) (by omega) (by omega) ?_; intro g1 k1 w1 H1 I1; rw [HE1.out, HE2.out (fun n => Row 75 2 _ n _), ← dk_row] at H1; have S1 := dk_seen H1; have l1 := S1.lp; have d1 := S1.c1; have d2 := S1.c2; have f2 := S1.fz 2; have H2 := dk_pf H1 (.slice (some ⟨g1, 0, none⟩) (d.pend.length + 1) k1); rw [dk_now] at H2) | (at_mapUpdate; refine wpList_mapUpdate_sl rfl (.tmp 36) (.tmp 37) (.tmp 38) 63 rfl Tryd.underlying63 Tryd.underlying3 (b := mb) (k := i) (v := .string s) rfl rfl rfl H2 h1 ?_; intro o2 w2 M2 H3 I2; rw [← dk_now] at H3; have S2 := dk_seen H3; have l2 := S2.lp; have d3 := S2.c3; have d4 := S2.c4; have f3 := S2.fz 3; have f4 := S2.fz 4))
  · have hz : d.left = 0 := by first | assumption | omega | exact eq_of_beq ‹(d.left == 0) = true›
    have h := HW.out
    simp only [hz, if_true, ite_true] at h
    have H5 := dk_left (dk_down H3 true) (-1)
    refine h _ (isDk_shut M2 (h2.put i s) H5) ((((I0.trans I1).setCell _ _).trans I2).setCell _ _ |>.setCell _ _)
  · have hz : ¬ d.left = 0 := by first | assumption | omega | exact ne_of_beq_false ‹(d.left == 0) = false›
    have hp : 0 < d.left := by first | assumption | omega
    have h := HW.out
    simp only [hz, hp, if_true, if_false] at h
    have H5 := dk_left H3 (d.left - 1)
    refine h _ (isDk_shut M2 (h2.put i s) H5) ((((I0.trans I1).setCell _ _).trans I2).setCell _ _)
  · have hz : ¬ d.left = 0 := by first | assumption | omega | exact ne_of_beq_false ‹(d.left == 0) = false›
    have hp : ¬ 0 < d.left := by first | assumption | omega
    have h := HW.out
    simp only [hz, hp, if_false] at h
    refine h _ (isDk_shut M2 (h2.put i s) H3) (((I0.trans I1).setCell _ _).trans I2)
end
end Go.Proofs.YtpccdadobnhpkaaDoor
