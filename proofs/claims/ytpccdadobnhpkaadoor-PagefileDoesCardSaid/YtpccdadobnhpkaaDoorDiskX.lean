/-
  What the calls on a disk do, by their walks: the rest. It proves no statement by itself.
-/
import Derived.Test.YtpccdadobnhpkaaDoorDiskW
namespace Go.Proofs.YtpccdadobnhpkaaDoor
open Go.RowKit
set_option linter.unusedSimpArgs false
set_option linter.unusedVariables false

section
variable {p sb mb : Nat} {pf pv : Value} {ob : Obj} {d : Dk} {l : List (Int × ByteArray)} {w : World} {R : Ending → World → Prop} {F : Asn}

set_option maxRecDepth 100000 in
set_option maxHeartbeats 400000 in
theorem write_any (H : Sat (IsDk p d * F) w) (ok : d.Ok) (hr : d.writes ≤ 4000000000000000000) (hp : d.pend.length ≤ 1000000) (i : Int) (s : ByteArray) (hsz : s.size ≤ 1000000)
    (h : ∀ w', Sat (IsDk p (d.write i s) * F) w' → Io w w' → R (.returned (.int .i64 (d.writeE i s))) w') :
    Calls Tryd.prog 27 #[.pointer (some ⟨p, 0, none⟩), .int .i64 i, .string s] w R := by
  obtain ⟨sb, mb, pv, ob, m, h1, h2, HP⟩ := isDk_open H
  have S := dk_seen HP
  have hmany := ok.many
  by_cases he : d.atE i = 0
  · by_cases hs : s.size = 256
    · exact write_ok H ok hr hp i s he hs h
    · have e1 : d.write i s = d := by simp [Dk.write, he, hs]
      have e2 : d.writeE i s = 1 := by simp [Dk.writeE, he, hs]
      have hn := h w (by rw [e1]; exact H) (Io.refl w)
      rw [e2] at hn
      have hs2 : ((s.size : Int) != 256) = true := by simpa using (show ¬ (s.size : Int) = 256 from by omega)
      have HE := Lib.hid he
      clear e1 e2 h he hs
      go_enter Tryd.func27, Tryd.ntmps27
      go_wp2_with (go_at_call 44; refine at_any S hmany i ?_; rw [HE.out])
      exact hn
  · have e1 : d.write i s = d := by simp [Dk.write, he]
    have e2 : d.writeE i s = d.atE i := by simp [Dk.writeE, he]
    have hn := h w (by rw [e1]; exact H) (Io.refl w)
    rw [e2] at hn
    clear e1 e2 h
    have ha := at_any (R := fun e w' => e = .returned (.int .i64 (d.atE i)) ∧ w = w') S hmany i ⟨rfl, rfl⟩
    generalize d.atE i = v at *
    have hv : (v == 0) = false := by simpa using he
    have hv2 : (v != 0) = true := by simpa using he
    go_enter Tryd.func27, Tryd.ntmps27
    go_wp2_with (go_at_call 44; refine ha.mono ?_; rintro e w' ⟨rfl, rfl⟩)
    exact hn

/-! ### a pending write done -/

set_option maxRecDepth 100000 in
set_option maxHeartbeats 1000000 in
theorem done_any (H : Sat (DkMid p sb mb pf ob d pv l * F) w) (hm : d.sure.length ≤ 16384) (i : Int) (hi0 : 0 ≤ i) (hi : i < (d.sure.length : Int)) (t : ByteArray) (ht : t.size = 256)
    (hsz : (d.sure.getD i.toNat ByteArray.empty).size = 256) (k : Nat) (hk : k ≤ 256)
    (h : ∀ w', Sat (DkMid p sb mb pf ob { d with sure := Dk.done d.sure (i, t) k } pv l * F) w' → Io w w' → R (.returned (.tuple #[])) w') :
    Calls Tryd.prog 35 #[.pointer (some ⟨p, 0, none⟩), .agg #[.int .i64 i, .string t], .int .i64 (k : Int)] w R := by
  have S := dk_seen H
  have h0 := S.c0
  have lp := S.lp
  have ls := S.ls
  have hc : w.cell? ⟨sb, i.toNat, none⟩ = some (.string (d.sure.getD i.toNat ByteArray.empty)) := by
    rw [Sat.read S.bs, strs_get d.sure i.toNat (by omega)]
  have hf : w.frozen? ⟨sb, i.toNat, none⟩ = false := Sat.free S.bs _
  have e : Dk.done d.sure (i, t) k = d.sure.set i.toNat (t.extract 0 k ++ (d.sure.getD i.toNat ByteArray.empty).extract k 256) := rfl
  rw [e, ← hsz] at h
  have fin := h _ ((dk_sector H i.toNat (t.extract 0 k ++ (d.sure.getD i.toNat ByteArray.empty).extract k (d.sure.getD i.toNat ByteArray.empty).size)).alloc (.cells #[.int .i64 i, .string t] 75)).drew ((((Io.refl w).setCell _ _).alloc _).drew)
  clear h e S H
  have hku : k ≤ (d.sure.getD i.toNat ByteArray.empty).size := by omega
  have hkt : k ≤ t.size := by omega
  have hu : (d.sure.getD i.toNat ByteArray.empty).size ≤ 256 := by omega
  have htt : t.size ≤ 256 := by omega
  clear hsz ht
  generalize d.sure.getD i.toNat ByteArray.empty = u at *
  have hadd : ∀ W, (Op.stringOp .add (t.extract 0 k) (u.extract k u.size)).run Tryd.prog W = .ok (.string (t.extract 0 k ++ u.extract k u.size)) W := fun W => run_string_add_sum W _ _ (by simp; omega)
  go_enter Tryd.func35, Tryd.ntmps35
  go_wp2_with fail
  refine region_tail 22 (by kernel_rfl) (by kernel_rfl) ?_
  simp only [List.take_succ_cons, List.take_zero, List.drop_succ_cons, List.drop_zero]
  repeat still_step
  refine wpStill_nil ?_
  go_wp2_with fail
  go_end0
  exact fin

theorem done_int (H : Sat (DkMid p sb mb pf ob d pv l * F) w) (hm : d.sure.length ≤ 16384) (i : Int) (hi0 : 0 ≤ i) (hi : i < (d.sure.length : Int)) (t : ByteArray) (ht : t.size = 256)
    (hsz : (d.sure.getD i.toNat ByteArray.empty).size = 256) (k : Int) (hk0 : 0 ≤ k) (hk : k ≤ 256)
    (h : ∀ w', Sat (DkMid p sb mb pf ob { d with sure := Dk.done d.sure (i, t) k.toNat } pv l * F) w' → Io w w' → R (.returned (.tuple #[])) w') :
    Calls Tryd.prog 35 #[.pointer (some ⟨p, 0, none⟩), .agg #[.int .i64 i, .string t], .int .i64 k] w R := by
  have := done_any (R := R) H hm i hi0 hi t ht hsz k.toNat (by omega) h
  rwa [Int.toNat_of_nonneg hk0] at this

/-! ### the end of what was pending -/

theorem dk_drop (h : Sat (DkMid p sb mb (.slice none 0 0) ob d pv l * F) w) : Sat (DkMid p sb mb (.slice none 0 0) ob d (.slice none 0 0) [] * F) w := by
  rw [dk_row] at h ⊢
  exact row_nil _ _ _ _ h.right

set_option maxRecDepth 100000 in
set_option maxHeartbeats 400000 in
theorem settle_any {m : List (Int × Value)} (H : Sat (DkMid p sb mb pf ob d pv l * F) w) (h1 : MapI .i64 m ob)
    (h : ∀ w', Sat (IsDk p { d with pend := [] } * F) w' → Io w w' → R (.returned (.tuple #[])) w') :
    Calls Tryd.prog 36 #[.pointer (some ⟨p, 0, none⟩)] w R := by
  have S := dk_seen H
  have c1 := S.c1
  have c2 := S.c2
  have f2 := S.fz 2
  have H2 := dk_drop (dk_pf H (.slice none 0 0))
  rw [dk_now] at H2
  obtain ⟨o', w', hr, m', H3, I3⟩ := run_clear_sl (P := Tryd.prog) (ty := 0) Tryd.underlying63 H2 h1
  have HM := Lib.hid m'
  rw [← dk_now] at H3
  have fin := h w' (isDk_shut (d := { d with pend := [] }) m' agrees_nil H3) (((Io.refl w).setCell _ _).trans I3)
  clear h H2 H3 I3 S H m'
  go_enter Tryd.func36, Tryd.ntmps36
  go_wp2_with fail
  go_end0
  exact fin

/-! ### Sync -/

theorem syncs_snoc (sure : List ByteArray) (l : List (Int × ByteArray)) (q : Int × ByteArray) : Dk.syncs sure (l ++ [q]) = Dk.done (Dk.syncs sure l) q 256 := by
  simp [Dk.syncs]

theorem syncs_sect : ∀ (l : List (Int × ByteArray)) (sure : List ByteArray), (∀ i, i < sure.length → (sure.getD i ByteArray.empty).size = 256) → (∀ q ∈ l, q.2.size = 256) →
    ∀ i, i < (Dk.syncs sure l).length → ((Dk.syncs sure l).getD i ByteArray.empty).size = 256
  | [], sure, h, _ => h
  | q :: l, sure, h, ht => by
    show ∀ i, i < (Dk.syncs (Dk.done sure q 256) l).length → ((Dk.syncs (Dk.done sure q 256) l).getD i ByteArray.empty).size = 256
    exact syncs_sect l _ (Dk.done_sect h (ht q (List.mem_cons_self ..)) (by omega)) fun r hr => ht r (List.mem_cons_of_mem _ hr)

theorem syncs_length' (sure : List ByteArray) (l : List (Int × ByteArray)) : (Dk.syncs sure l).length = sure.length := Dk.syncs_length l sure

/-- What the walk wants to know of pending write k. -/
theorem pend_cells {g c : Nat} (H : Sat (DkMid p sb mb pf ob d (.slice (some ⟨g, 0, none⟩) l.length c) l * F) w) (k : Nat) (hk : k < l.length) :
    w.cell? ⟨g, k * 2, none⟩ = some (.int .i64 l[k].1) ∧ w.cell? ⟨g, k * 2 + 1, none⟩ = some (.string l[k].2) ∧ g < w.heap.size := by
  rw [dk_row] at H
  have ho := H.owns
  have a0 := ho.cells (g := g) rfl (2 * k) _ (pcells_get0 l k hk)
  have a1 := ho.cells (g := g) rfl (2 * k + 1) _ (pcells_get1 l k hk)
  have e0 : (⟨g, 0, none⟩ : Addr).add (2 * k) = ⟨g, k * 2, none⟩ := by unfold Addr.add; split <;> simp <;> omega
  have e1 : (⟨g, 0, none⟩ : Addr).add (2 * k + 1) = ⟨g, k * 2 + 1, none⟩ := by unfold Addr.add; split <;> simp <;> omega
  rw [e0] at a0
  rw [e1] at a1
  refine ⟨a0, a1, ?_⟩
  exact World.block_lt_of_cell? w _ a0

set_option maxRecDepth 100000 in
set_option maxHeartbeats 1000000 in
theorem sync_any (H : Sat (IsDk p d * F) w) (ok : d.Ok) (hp : d.pend.length ≤ 1000000)
    (h : ∀ w', Sat (IsDk p d.sync * F) w' → Io w w' → R (.returned (.int .i64 d.syncE)) w') :
    Calls Tryd.prog 13 #[.pointer (some ⟨p, 0, none⟩)] w R := by
  obtain ⟨sb, mb, pv, ob, m, h1, h2, HP⟩ := isDk_open H
  have S := dk_seen HP
  have c4 := S.c4
  have c2 := S.c2
  cases hd : d.down with
  | true =>
    have e1 : d.sync = d := by simp [Dk.sync, hd]
    have e2 : d.syncE = 4 := by simp [Dk.syncE, hd]
    have hn := h w (by rw [e1]; exact H) (Io.refl w)
    rw [e2] at hn
    rw [hd] at c4
    clear e1 e2 h hd
    go_enter Tryd.func13, Tryd.ntmps13
    go_wp2
    exact hn
  | false =>
    have e1 : d.sync = d.settle (Dk.syncs d.sure d.pend) := by simp [Dk.sync, hd]
    have e2 : d.syncE = 0 := by simp [Dk.syncE, hd]
    rw [e1, e2] at h
    rw [hd] at c4
    clear e1 e2 hd
    rcases Nat.eq_zero_or_pos d.pend.length with hz | hz
    · have hnil : d.pend = [] := List.eq_nil_of_length_eq_zero hz
      have hs : d.settle (Dk.syncs d.sure d.pend) = { d with pend := [] } := by rw [hnil]; rfl
      rw [hs] at h
      have HN := Lib.hid hz
      have hlen : Sat (Row 75 2 pv d.pend.length (pcells d.pend) * emp) w := by rw [emp_star]; exact (dk_row ▸ HP).left
      obtain ⟨_, ⟨rfl, _, _⟩ | ⟨g, cap, cur, rfl, _⟩⟩ := sat_row.1 hlen
      all_goals
        clear hlen hs hnil
        (try simp only [HN.out] at c2)
        clear hz
        go_enter Tryd.func13, Tryd.ntmps13
        go_wp2_with fail
        refine wp_loop_rounds 1 ?_
        rw [rounds_succ]
        go_wp2_with (go_at_call 36; refine settle_any HP h1 ?_; intro w1 H1 I1)
        exact h w1 H1 I1
    · obtain ⟨g, c, rfl⟩ := row_shape (dk_row ▸ HP) hz
      have hmany := ok.many
      have htxt := Lib.hid ok.txt
      have hrng := Lib.hid ok.rng
      have hsect := Lib.hid ok.sect
      have hpos := Lib.hid hz
      clear hz
      have HH := Lib.hid h
      clear h
      go_enter Tryd.func13, Tryd.ntmps13
      go_wp2_with fail
      go_loopw [14] (fun v wr => ∃ k : Nat, k ≤ d.pend.length ∧ v = .int .i64 (k : Int) ∧ Sat (DkMid p sb mb (.slice (some ⟨g, 0, none⟩) d.pend.length c) ob { d with sure := Dk.syncs d.sure (d.pend.take k) } (.slice (some ⟨g, 0, none⟩) d.pend.length c) d.pend * F) wr ∧ Io w wr) (fun v _ => d.pend.length - (intOf v).toNat)
      case atStart => exact ⟨0, Nat.zero_le _, rfl, HP, Io.refl w⟩
      case round =>
        obtain ⟨k, hk, rfl, Hk, Ik⟩ := hrel
        by_cases hlt : k < d.pend.length
        · obtain ⟨q0, q1, lg⟩ := pend_cells Hk k hlt
          have hmem : d.pend[k] ∈ d.pend := List.getElem_mem hlt
          have t1 := htxt.out _ hmem
          have t2 := hrng.out _ hmem
          have hl := syncs_length' d.sure (d.pend.take k)
          have hs := syncs_sect (d.pend.take k) d.sure hsect.out (fun q hq => htxt.out q (List.mem_of_mem_take hq))
          have hs2 := hs d.pend[k].1.toNat (by rw [hl]; omega)
          have hsn : Dk.syncs d.sure (d.pend.take (k + 1)) = Dk.done (Dk.syncs d.sure (d.pend.take k)) (d.pend[k].1, d.pend[k].2) 256 := by
            rw [List.take_succ_eq_append_getElem hlt, syncs_snoc]
          have T1 := Lib.hid t1
          have T2 := Lib.hid t2
          have HS := Lib.hid hs2
          have HL := Lib.hid hl
          have HSN := Lib.hid hsn
          clear t1 t2 hl hs hs2 hsn hmem
          generalize d.pend[k].1 = a0 at *
          generalize d.pend[k].2 = a1 at *
          go_wp2_with (go_at_call 35; refine done_int (Hk.alloc _) (by rw [HL.out]; exact hmany) a0 T2.out.1 (by rw [HL.out]; exact T2.out.2) a1 T1.out HS.out 256 (by omega) (by omega) ?_; intro w1 H1 I1)
          go_roundw
          case rel => exact ⟨k + 1, by omega, by go_num, by rw [HSN.out]; exact H1, (Ik.alloc _).trans I1⟩
          case measure => simp [intOf]; omega
        · obtain rfl : k = d.pend.length := by omega
          rw [List.take_length] at Hk
          go_wp2_with (go_at_call 36; refine settle_any Hk h1 ?_; intro w1 H1 I1)
          exact HH.out w1 H1 (Ik.trans I1)

end
end Go.Proofs.YtpccdadobnhpkaaDoor
