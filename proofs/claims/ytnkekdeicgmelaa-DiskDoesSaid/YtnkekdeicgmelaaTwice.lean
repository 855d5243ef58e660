/-
  The statement DiskTwice, walked: it answers true. It proves the walk alone; the row is closed elsewhere.
-/
import Derived.Test.YtnkekdeicgmelaaLight
namespace Go.Proofs.Ytnkekdeicgmelaa
open Go.RowKit
set_option linter.unusedSimpArgs false
set_option linter.unusedVariables false

/-- All acts written. -/
def Dk.puts (d : Dk) (l : List Act4) : Dk := l.foldl (fun d x => d.write x.I (pageS x.B)) d
theorem Dk.puts_snoc (d : Dk) (l : List Act4) (x : Act4) : d.puts (l ++ [x]) = (d.puts l).write x.I (pageS x.B) := by simp [Dk.puts]
theorem Dk.write_length (d : Dk) (i : Int) (s : ByteArray) : (d.write i s).sure.length = d.sure.length := by unfold Dk.write; split <;> (try split) <;> simp
theorem Dk.write_pend (d : Dk) (i : Int) (s : ByteArray) : (d.write i s).pend.length ≤ d.pend.length + 1 := by unfold Dk.write; split <;> (try split) <;> simp
theorem Dk.write_writes (d : Dk) (i : Int) (s : ByteArray) : (d.write i s).writes ≤ d.writes + 1 := by unfold Dk.write; split <;> (try split) <;> (try simp only) <;> omega
theorem Dk.write_reads (d : Dk) (i : Int) (s : ByteArray) : (d.write i s).reads = d.reads := by unfold Dk.write; split <;> (try split) <;> simp
theorem Dk.write_live (d : Dk) (i : Int) (s : ByteArray) (h : d.down = false ∧ d.left = -1) : (d.write i s).down = false ∧ (d.write i s).left = -1 := by
  obtain ⟨h1, h2⟩ := h
  unfold Dk.write; split <;> (try split) <;> simp [h1, h2]

/-- What holds of a disk that is only written, n writes behind New(m). -/
structure Dk.Fit (d : Dk) (m n : Nat) : Prop where
  ok : d.Ok
  len : d.sure.length = m
  pend : d.pend.length ≤ n
  writes : d.writes ≤ n
  reads : d.reads ≤ n

theorem Dk.Fit.write {d : Dk} {m n : Nat} (h : d.Fit m n) (i : Int) (s : ByteArray) : (d.write i s).Fit m (n + 1) :=
  ⟨Dk.write_ok' h.ok i s, by rw [Dk.write_length]; exact h.len, by have := Dk.write_pend d i s; have := h.pend; omega, by have := Dk.write_writes d i s; have := h.writes; omega, by rw [Dk.write_reads]; have := h.reads; omega⟩
theorem Dk.Fit.read {d : Dk} {m n : Nat} (h : d.Fit m n) (i : Int) : (d.read i).Fit m (n + 1) := by
  have h1 := h.pend; have h2 := h.writes; have h3 := h.reads
  refine ⟨Dk.read_ok' h.ok i, ?_, ?_, ?_, ?_⟩ <;> (unfold Dk.read; split) <;> (try simp only) <;> first | exact h.len | omega
theorem Dk.Fit.new (m : Nat) (h : m ≤ 16384) : (Dk.new m).Fit m 0 := ⟨Dk.new_ok m h, by simp [Dk.new], by simp [Dk.new], by simp [Dk.new], by simp [Dk.new]⟩
theorem Dk.Fit.mono {d : Dk} {m n n' : Nat} (h : d.Fit m n) (hn : n ≤ n') : d.Fit m n' := by
  have h1 := h.pend; have h2 := h.writes; have h3 := h.reads
  exact ⟨h.ok, h.len, by omega, by omega, by omega⟩
theorem Dk.Fit.crash {d : Dk} {m n : Nat} (h : d.Fit m n) (keep : List Int) (t c : Int) : (d.crash keep t c).Fit m n :=
  ⟨Dk.crash_ok' h.ok keep t c, by unfold Dk.crash; simp only; rw [Dk.crashes_length]; exact h.len, by simp [Dk.crash], h.writes, h.reads⟩
theorem Dk.Fit.sync {d : Dk} {m n : Nat} (h : d.Fit m n) : d.sync.Fit m n := by
  refine ⟨Dk.sync_ok' h.ok, ?_, ?_, ?_, ?_⟩ <;> (unfold Dk.sync Dk.settle; split) <;> first | exact h.len | exact h.pend | exact h.writes | exact h.reads | skip
  · simp only; rw [Dk.syncs_length]; exact h.len
  · simp
theorem Dk.Fit.puts {d : Dk} {m n : Nat} (h : d.Fit m n) (l : List Act4) : (d.puts l).Fit m (n + l.length) := by
  induction l generalizing d n with
  | nil => exact h
  | cons x l ih =>
    have := ih (h.write x.I (pageS x.B))
    rw [List.length_cons, show n + (l.length + 1) = n + 1 + l.length from by omega]
    exact this

/-- What is sure of the first k sectors, as values. -/
def sures (d : Dk) (k : Nat) : List Value := (List.range k).map fun (i : Nat) => Value.string (d.sureS (i : Int))
theorem sures_length (d : Dk) (k : Nat) : (sures d k).length = k := by simp [sures]
theorem sures_succ (d : Dk) (k : Nat) : sures d (k + 1) = sures d k ++ [.string (d.sureS (k : Int))] := by simp [sures, List.range_succ]
theorem sures_get (d : Dk) (k j : Nat) (h : j < k) : (sures d k)[j]? = some (.string (d.sureS (j : Int))) := by simp [sures, h]

theorem row_cell {e : TypeId} {g n c : Nat} {xs : List Value} {F : Asn} {w : World} (H : Sat (Row e 1 (.slice (some ⟨g, 0, none⟩) n c) n xs * F) w) (j : Nat) (v : Value) (h : xs[j]? = some v) : w.cell? ⟨g, j, none⟩ = some v := by
  have a0 := H.owns.cells (g := g) rfl j v h
  have e0 : (⟨g, 0, none⟩ : Addr).add j = ⟨g, j, none⟩ := by unfold Addr.add; split <;> simp_all
  rwa [e0] at a0

/-- The disk d, k sectors of it read. -/
def Dk.seen (d : Dk) (k : Nat) : Dk := { d with reads := d.reads + k }
theorem Dk.seen_step (d : Dk) (k : Nat) (i : Int) (h : d.down = false) (h0 : 0 ≤ i) (h1 : i < (d.sure.length : Int)) : (d.seen k).read i = d.seen (k + 1) ∧ (d.seen k).atE i = 0 ∧ (d.pend = [] → (d.seen k).readS i = d.sureS i) := by
  have e : (d.seen k).atE i = 0 := by simp [Dk.atE, Dk.seen, h, h0, h1]
  refine ⟨?_, e, ?_⟩
  · simp only [Dk.read, e, if_true]
    simp [Dk.seen]
    omega
  · intro hp
    simp only [Dk.readS, e, if_true]
    simp [Dk.now, Dk.seen, hp, Dk.last, Dk.sureS, h0, h1]
theorem Dk.Fit.seen {d : Dk} {m n : Nat} (h : d.Fit m n) (k : Nat) : (d.seen k).Fit m (n + k) :=
  ⟨⟨h.ok.sect, h.ok.many, h.ok.rng, h.ok.txt, h.ok.left, by have := h.ok.reads; simp [Dk.seen]; omega, h.ok.writes⟩, h.len, by have := h.pend; simp [Dk.seen]; omega, by have := h.writes; simp [Dk.seen]; omega, by have := h.reads; simp [Dk.seen]; omega⟩

section
variable {w : World} {R : Ending → World → Prop}

set_option maxRecDepth 100000 in
set_option maxHeartbeats 4000000 in
theorem twice_walk {F : Asn} {v kv : Value} {l : List Act4} {keep : List Int} (hl : ReadsActs F v l) (hk : ReadsInts F kv keep) (torn cut : Int) (H : Sat F w)
    (h : ∀ w', Sat F w' → Io w w' → R (.returned (.bool true)) w') :
    Calls Try.prog 3 #[v, kv, .int .i64 torn, .int .i64 cut] w R := by
  have HH : Hid (∀ w', Sat F w' → Io w w' → R (.returned (.bool true)) w') := h
  clear h
  obtain ⟨ka, kn, kc, rfl, e2, e3, _⟩ := id hk
  have E2 := Lib.hid e2
  clear e2
  cases hb : lightB 8 l with
  | false =>
    have HB := Lib.hid hb
    clear hb
    go_enter Try.func3, Try.ntmps3
    go_wp2_with fail
    refine works_any H ?_
    intro w1 H1 I1
    go_wp2_with fail
    refine light_any 8 hl H1 ?_
    rw [HB.out]
    go_wp2_with fail
    exact HH.out w1 H1 I1
  | true =>
    have HB := Lib.hid hb
    clear hb
    by_cases hkn : (kn : Int) ≤ 60
    · go_enter Try.func3, Try.ntmps3
      go_wp2_with fail
      refine works_any H ?_
      intro w1 H1 I1
      go_wp2_with fail
      refine light_any 8 hl H1 ?_
      rw [HB.out]
      go_wp2_with fail
      refine new_any 8 (by omega) (by omega) H1 ?_
      intro p w2 H2 I2
      rw [show (min (max 8 0) 16384 : Int).toNat = 8 from rfl] at H2
      have hlen : l.length ≤ 60 := by
        have := HB.out
        simp [lightB] at this
        exact this.1
      have hlen' : (l.length : Int) ≤ 60 := by omega
      have I12 := I1.trans I2
      clear I1 I2 H1
      have fit : ∀ k, k ≤ l.length → ((Dk.new 8).puts (l.take k)).Fit 8 60 := by
        intro k hk
        have := (Dk.Fit.new 8 (by omega)).puts (l.take k)
        exact this.mono (by rw [List.length_take]; omega)
      have FIT := Lib.hid fit
      clear fit
      obtain ⟨⟨a, c, rfl, hm, h3⟩, hkeeps, hints⟩ := hl
      have h3' := Lib.hid h3
      clear h3 hkeeps hints
      go_wp2_with fail
      go_loopw [12] (fun v wr => ∃ k : Nat, k ≤ l.length ∧ v = .int .i64 (k : Int) ∧ Sat (IsDk p ((Dk.new 8).puts (l.take k)) * F) wr ∧ Io w wr) (fun v _ => l.length - (intOf v).toNat)
      case atStart => exact ⟨0, Nat.zero_le _, rfl, H2, I12⟩
      case round =>
        obtain ⟨k, hkl, rfl, Hk, Ik⟩ := hrel
        by_cases hlt : k < l.length
        · obtain ⟨b, off, rfl, hc⟩ : ∃ b off, a = some ⟨b, off, none⟩ ∧ ∀ w, Sat F w → w.cell? ⟨b, off + k * 6 + 1, none⟩ = some (.int .i64 l[k].I) ∧ w.cell? ⟨b, off + k * 6 + 2, none⟩ = some (.int .u8 (l[k].B.toNat : Int)) := by
            rcases h3'.out with hz | ⟨b, off, e, hc⟩
            · omega
            · exact ⟨b, off, e, fun w hw => by obtain ⟨_, q1, q2, _⟩ := hc w hw k hlt; exact ⟨q1, q2⟩⟩
          have HC := Lib.hid hc
          have hsn : (Dk.new 8).puts (l.take (k + 1)) = ((Dk.new 8).puts (l.take k)).write l[k].I (pageS l[k].B) := by
            rw [List.take_succ_eq_append_getElem hlt, Dk.puts_snoc]
          have HSN := Lib.hid hsn
          clear hsn hc
          generalize l[k].I = xi at *
          generalize l[k].B = xb at *
          have fk := FIT.out k hkl
          have Hd := Hk.drew
          have q := HC.out _ Hd.right
          obtain ⟨q1, q2⟩ := q
          go_wp2_with fail
          go_region_held3 (fun W => W.cell? ⟨b, off + k * 6 + 1, none⟩ = some (.int .i64 xi) ∧ W.cell? ⟨b, off + k * 6 + 2, none⟩ = some (.int .u8 (xb.toNat : Int))) (first | exact ⟨q1, q2⟩ | exact HC.out _ H3.right | exact HC.out _ H4.right)
            (first | (go_at_call 14; refine page_any Hd xb ?_; intro w3 H3 I3) | (go_at_call 13; refine write_any H3 fk.ok (by have := fk.writes; omega) (by have := fk.pend; omega) xi (pageS xb) (by have := pageS_size xb; omega) ?_; intro w4 H4 I4))
          all_goals
            clear q1 q2
            go_wp2_with fail
            go_roundw
            case rel => exact ⟨k + 1, by omega, by go_num, by rw [HSN.out]; exact H4, ((Ik.drew).trans I3).trans I4⟩
            case measure => simp [intOf]; omega
        · obtain rfl : k = l.length := by omega
          rw [List.take_length] at Hk
          have fk := FIT.out l.length (Nat.le_refl _)
          rw [List.take_length] at fk
          clear h3' I12 H2
          go_wp2_with fail
          refine crash_any Hk hk fk.ok (by have := fk.pend; omega) torn cut ?_
          intro w5 H5 I5
          have fc := fk.crash keep torn cut
          have hcc : ∀ k' t' c', (((Dk.new 8).puts l).crash keep torn cut).crash k' t' c' = ((Dk.new 8).puts l).crash keep torn cut := fun _ _ _ => rfl
          have hp0 : (((Dk.new 8).puts l).crash keep torn cut).pend = [] := rfl
          have hd0 : (((Dk.new 8).puts l).crash keep torn cut).down = false := rfl
          have I6 := Ik.trans I5
          clear I5 Ik Hk fk FIT
          generalize ((Dk.new 8).puts l).crash keep torn cut = c0 at *
          have FC := Lib.hid fc
          have HCC := Lib.hid hcc
          have HP0 := Lib.hid hp0
          have HD0 := Lib.hid hd0
          clear fc hcc hp0 hd0
          obtain ⟨i0, hi, hz0, hz1, hz2⟩ := info_parts Try.info9
          go_wp2_with fail
          go_loopw [13, 14] (fun v x wr => ∃ k : Nat, k ≤ 8 ∧ x = .int .i64 (k : Int) ∧ Sat (Row 9 1 v k (sures c0 k) * (IsDk p c0 * F)) wr ∧ Io w wr) (fun _ x _ => 8 - (intOf x).toNat)
          case atStart => exact ⟨0, by omega, rfl, row_nil _ _ _ _ H5, I6⟩
          case round =>
            obtain ⟨k, hk8, rfl, Hr, Ir⟩ := hrel
            by_cases hlt8 : (k : Int) < 8
            · have hsn := Lib.hid (sures_succ c0 k)
              go_wp2_with (first | (go_at_call 16; refine dk_issure Hr.right (by have := FC.out.len; omega) _ ?_) | (at_builtin; refine wpList_append_new rfl (.tmp 60) (.tmp 64) 34 rfl 9 Try.underlying34 hi hz0 hz1 hz2 rfl rfl Hr 1 1 [.string (c0.sureS (k : Int))] rfl rfl rfl rfl (by omega) (by omega) (by omega) ?_; intro g1 k1 w6 H6 I7))
              go_roundw
              case rel => exact ⟨k + 1, by omega, by go_num, by rw [hsn.out]; exact H6, Ir.trans I7⟩
              case measure => simp [intOf]; omega
            · obtain rfl : k = 8 := by omega
              obtain ⟨g1, c1, rfl⟩ := row_shape Hr (by omega)
              go_wp2_with fail
              have H7 : Sat (IsDk p c0 * (pts wr.heap.size (.cells #[.int .i64 0, .int .i64 1, .int .i64 2, .int .i64 3] 3 (0, 0)) * (Row 9 1 (.slice (some ⟨g1, 0, none⟩) 8 c1) 8 (sures c0 8) * F))) (wr.alloc (.cells #[.int .i64 0, .int .i64 1, .int .i64 2, .int .i64 3] 3)) :=
                (Hr.new (.cells #[.int .i64 0, .int .i64 1, .int .i64 2, .int .i64 3] 3)).of_eq (by ac_rfl)
              have hk4 : ReadsInts (pts wr.heap.size (.cells #[.int .i64 0, .int .i64 1, .int .i64 2, .int .i64 3] 3 (0, 0)) * (Row 9 1 (.slice (some ⟨g1, 0, none⟩) 8 c1) 8 (sures c0 8) * F)) (.slice (some ⟨wr.heap.size, 0, none⟩) 4 4) [0, 1, 2, 3] := by
                refine reads_new _ 4 4 _ _ _ rfl (by omega) ?_
                intro j hj
                match j, hj with
                | 0, _ => rfl
                | 1, _ => rfl
                | 2, _ => rfl
                | 3, _ => rfl
              refine crash_any H7 hk4 FC.out.ok (by have := FC.out.pend; omega) 0 7 ?_
              rw [HCC.out]
              intro w8 H8 I8
              have H9 : Sat (Row 9 1 (.slice (some ⟨g1, 0, none⟩) 8 c1) 8 (sures c0 8) * (IsDk p (c0.seen 0) * F)) w8 := by
                have e : c0.seen 0 = c0 := by simp [Dk.seen]
                rw [e]
                exact (H8.of_eq (show _ = pts wr.heap.size (.cells #[.int .i64 0, .int .i64 1, .int .i64 2, .int .i64 3] 3 (0, 0)) * (Row 9 1 (.slice (some ⟨g1, 0, none⟩) 8 c1) 8 (sures c0 8) * (IsDk p c0 * F)) from by ac_rfl)).right
              have I9 := (Ir.alloc (.cells #[.int .i64 0, .int .i64 1, .int .i64 2, .int .i64 3] 3)).trans I8
              clear Ir I8 H7 H8 hk4 Hr H5 I6
              generalize wr.heap.size = nn at *
              go_wp2_with fail
              go_loopw [15] (fun x wr => ∃ k : Nat, k ≤ 8 ∧ x = .int .i64 (k : Int) ∧ Sat (Row 9 1 (.slice (some ⟨g1, 0, none⟩) 8 c1) 8 (sures c0 8) * (IsDk p (c0.seen k) * F)) wr ∧ Io w wr) (fun x _ => 8 - (intOf x).toNat)
              case atStart => exact ⟨0, by omega, rfl, H9, I9⟩
              case round =>
                obtain ⟨k, hk8, rfl, Hs, Is⟩ := hrel
                by_cases hlt9 : (k : Int) < 8
                · have hlen8 := FC.out.len
                  obtain ⟨s1, s2, s3⟩ := Dk.seen_step c0 k (k : Int) HD0.out (by omega) (by omega)
                  have s3' := s3 HP0.out
                  have S1 := Lib.hid s1
                  have S2 := Lib.hid s2
                  have S3 := Lib.hid s3'
                  have fk := FC.out.seen k
                  clear s1 s2 s3 s3' hlen8
                  have Hs' : Sat (IsDk p (c0.seen k) * (Row 9 1 (.slice (some ⟨g1, 0, none⟩) 8 c1) 8 (sures c0 8) * F)) wr := Hs.of_eq (by ac_rfl)
                  go_wp2_with fail
                  refine read_any Hs' fk.ok (by have := fk.reads; omega) (k : Int) ?_
                  rw [S1.out, S2.out, S3.out]
                  intro w10 H10 I10
                  have H11 : Sat (Row 9 1 (.slice (some ⟨g1, 0, none⟩) 8 c1) 8 (sures c0 8) * (IsDk p (c0.seen (k + 1)) * F)) w10 := H10.of_eq (by ac_rfl)
                  have q0 := row_cell H11 k _ (sures_get c0 8 k (by omega))
                  have hm11 : (c0.seen (k + 1)).sure.length ≤ 16384 := by have := FC.out.len; show c0.sure.length ≤ _; omega
                  have hq : ∀ n, Calls Try.prog 16 #[.pointer (some ⟨p, 0, none⟩), .int .i64 (k : Int)] (w10.drewN n) fun e w' => e = .returned (.string (c0.sureS (k : Int))) ∧ w' = w10.drewN n :=
                    fun n => dk_issure (R := fun e w' => e = .returned (.string (c0.sureS (k : Int))) ∧ w' = w10.drewN n) (H10.drewN n) hm11 (k : Int) ⟨rfl, rfl⟩
                  have HQ := Lib.hid hq
                  clear hq Hs Hs' H9 I9 S1 S2 S3 fk H10 hm11
                  generalize c0.sureS (k : Int) = t at *
                  go_wp2_with fail
                  go_quiet ((go_at_call 16; exact Calls.quiet_of_same (HQ.out _)))
                  go_wp2_with fail
                  go_roundw
                  case rel => exact ⟨k + 1, by omega, by go_num, H11.drewN _, (Is.trans I10).drewN _⟩
                  case measure => simp [intOf]; omega
                · obtain rfl : k = 8 := by omega
                  have hl0 : (c0.seen 8).pend.length = 0 := by show c0.pend.length = 0; rw [HP0.out]; rfl
                  have hd0 : (c0.seen 8).down = false := HD0.out
                  have HL0 := Lib.hid hl0
                  have HDN := Lib.hid hd0
                  clear hl0 hd0
                  go_wp2_with fail
                  refine dk_length Hs.right (by rw [HL0.out]; omega) ?_
                  rw [HL0.out]
                  go_wp2_with fail
                  refine dk_isdown Hs.right ?_
                  rw [HDN.out]
                  go_wp2_with fail
                  exact HH.out _ Hs.right.right Is
    · go_enter Try.func3, Try.ntmps3
      go_wp2_with fail
      refine works_any H ?_
      intro w1 H1 I1
      go_wp2_with fail
      refine light_any 8 hl H1 ?_
      rw [HB.out]
      go_wp2_with fail
      exact HH.out w1 H1 I1
end
end Go.Proofs.Ytnkekdeicgmelaa
