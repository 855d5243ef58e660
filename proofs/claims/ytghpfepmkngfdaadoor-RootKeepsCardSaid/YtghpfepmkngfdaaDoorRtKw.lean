/-
  The statement RootKeeps, walked: it answers true. It proves the walk alone; the row is closed elsewhere.
-/
import Derived.Test.YtghpfepmkngfdaaDoorRtK
import Derived.Test.YtghpfepmkngfdaaDoorLawRs
namespace Go.Proofs.YtghpfepmkngfdaaDoor
open Go.RowKit
set_option linter.unusedSimpArgs false
set_option linter.unusedVariables false

/-- What the loop of RootKeeps keeps to. -/
def Keep7 (d : Dk) (k : Nat) (X : List UInt8) (was : Rt) : Prop :=
  ∃ Y, Kp d k Y X ∧ Old X (k : Int) ∧ (k = 0 → Y = List.replicate 256 0) ∧ (0 < k → Y = was.bytes ∧ was.good = true ∧ was.e = (k : Int))

theorem Keep7.new (was : Rt) : Keep7 (Dk.new 3) 0 (List.replicate 256 0) was := ⟨_, Kp.new, .inl rfl, fun _ => rfl, fun h => absurd h (by omega)⟩

theorem Keep7.step {d : Dk} {k : Nat} {X : List UInt8} {was : Rt} (h : Keep7 d k X was) {r : Rt} {s : ByteArray} (hg : r.good = true) (he : r.e = (k : Int) + 1) (es : s = tx r.bytes) :
    d.writeE (r.e % 2) s = 0 ∧ (d.write (r.e % 2) s).syncE = 0 ∧ (d.write (r.e % 2) s).sync.Ok ∧ (d.write (r.e % 2) s).sync.reads ≤ 1000000 + 2 * (k : Int) ∧ (d.write (r.e % 2) s).sync.atE 0 = 0 ∧ (d.write (r.e % 2) s).sync.atE 1 = 0 ∧
    Rt.pick ((d.write (r.e % 2) s).sync.readS 0) ((d.write (r.e % 2) s).sync.readS 1) = some r ∧ ∃ X', Keep7 (((d.write (r.e % 2) s).sync.read 0).read 1) (k + 1) X' r := by
  obtain ⟨Y, kp, hx, hz, hy⟩ := h
  have em : r.e % 2 = (((k + 1) % 2 : Nat) : Int) := by rw [he]; omega
  obtain ⟨a, b, c, e⟩ := kp.store es
  rw [em]
  have hold : Old Y ((k + 1 : Nat) : Int) := by
    rcases Nat.eq_zero_or_pos k with h0 | h0
    · rw [hz h0]; exact .inl rfl
    · obtain ⟨y1, y2, y3⟩ := hy h0
      rw [y1]
      exact .inr ⟨was, y2, by omega, rfl⟩
  have he' : r.e = ((k + 1 : Nat) : Int) := by rw [he]; omega
  have hr := kp.r
  refine ⟨a, b, e.ok, by omega, e.atE 0 (by omega) (by omega), e.atE 1 (by omega) (by omega), e.pick hg he' hold, Y, r.bytes, e.load (by omega), hold, fun h => absurd h (by omega), fun _ => ⟨rfl, hg, he'⟩⟩

theorem Keep7.bounds {d : Dk} {k : Nat} {X : List UInt8} {was : Rt} (h : Keep7 d k X was) (hk : k ≤ 40) : d.Ok ∧ d.writes ≤ 1000000 ∧ d.pend.length ≤ 1000 ∧ d.reads ≤ 1000000 := by
  obtain ⟨Y, kp, _⟩ := h
  exact ⟨kp.ok, by have := kp.w; omega, by rw [kp.pend]; simp, by have := kp.r; omega⟩

theorem Keep7.gone {d : Dk} {k : Nat} {X : List UInt8} {was : Rt} (h : Keep7 d k X was) {r : Rt} {s : ByteArray} (he : r.e = (k : Int) + 1) (es : s = tx r.bytes) (hk : k ≤ 40) :
    ∃ g, (d.brk 0).writeE (r.e % 2) s = 4 ∧ (d.brk 0).write (r.e % 2) s = g ∧ g.Ok ∧ g.atE 0 = 4 ∧ g.read 0 = g ∧ g.reads ≤ 1000000 ∧ g.pend.length ≤ 1000 ∧ g = Proofs.YtghpfepmkngfdaaDoor.gone d ((k + 1) % 2) s := by
  obtain ⟨Y, kp, hx, hz, hy⟩ := h
  have em : r.e % 2 = (((k + 1) % 2 : Nat) : Int) := by rw [he]; omega
  have hs : s.size = 256 := by rw [es, tx_size, Rt.bytes_length]
  obtain ⟨a, b, c, e, f⟩ := kp.gone hs
  rw [em]
  exact ⟨_, a, b, c, e, f, by have := kp.r; show d.reads ≤ _; omega, by simp [Proofs.YtghpfepmkngfdaaDoor.gone], rfl⟩

theorem Keep7.none {d : Dk} {k : Nat} {X : List UInt8} {was : Rt} (h : Keep7 d k X was) (h0 : 0 < k) (hk : k ≤ 40) {r : Rt} {s : ByteArray} (es : s = tx r.bytes) (cut : Int) {g : Dk} (hg : g = Proofs.YtghpfepmkngfdaaDoor.gone d ((k + 1) % 2) s) :
    ∃ b, g.crash [] 0 cut = b ∧ b.Ok ∧ b.reads ≤ 1000000 ∧ b.atE 0 = 0 ∧ b.atE 1 = 0 ∧ Rt.pick (b.readS 0) (b.readS 1) = some was := by
  obtain ⟨Y, kp, hx, hz, hy⟩ := h
  obtain ⟨y1, y2, y3⟩ := hy h0
  subst y1
  have hs : s.size = 256 := by rw [es, tx_size, Rt.bytes_length]
  obtain ⟨a, b, c, e, f⟩ := kp.back_none y2 y3 hx s hs cut
  subst hg
  exact ⟨_, rfl, a, by rw [b]; have := kp.r; omega, c, e, f⟩

theorem Keep7.kept {d : Dk} {k : Nat} {X : List UInt8} {was : Rt} (h : Keep7 d k X was) (h0 : 0 < k) (hk : k ≤ 40) {r : Rt} {s : ByteArray} (hgr : r.good = true) (he : r.e = (k : Int) + 1) (es : s = tx r.bytes) (cut : Int) {g : Dk} (hg : g = Proofs.YtghpfepmkngfdaaDoor.gone d ((k + 1) % 2) s) :
    ∃ b x, g.crash [0] 0 cut = b ∧ b.Ok ∧ b.reads ≤ 1000000 ∧ b.atE 0 = 0 ∧ b.atE 1 = 0 ∧ Rt.pick (b.readS 0) (b.readS 1) = some x ∧ (x = r ∨ x = was ∧ cut < 256) := by
  obtain ⟨Y, kp, hx, hz, hy⟩ := h
  obtain ⟨y1, y2, y3⟩ := hy h0
  subst y1
  obtain ⟨a, b, c, e, x, f, g'⟩ := kp.back_kept y2 y3 hx hgr he es cut
  subst hg
  exact ⟨_, x, rfl, a, by rw [b]; have := kp.r; omega, c, e, f, g'⟩
theorem Keep7.was_e {d : Dk} {k : Nat} {X : List UInt8} {was : Rt} (h : Keep7 d k X was) (h0 : 0 < k) : was.e = (k : Int) := by
  obtain ⟨Y, kp, hx, hz, hy⟩ := h
  exact (hy h0).2.2

theorem roots_at {F : Asn} {a : Option Addr} {n c : Nat} {l : List Rt} (hl : ReadsRoots F (.slice a n c) l) (k : Nat) (hk : k < l.length) : ∃ b off, a = some ⟨b, off, none⟩ ∧ ∀ w, Sat F w →
    w.cell? ⟨b, off + k * 5, none⟩ = some (.int .i64 l[k].e) ∧ w.cell? ⟨b, off + k * 5 + 1, none⟩ = some (.int .i64 l[k].p) ∧ w.cell? ⟨b, off + k * 5 + 2, none⟩ = some (.int .i64 l[k].c) ∧
    w.cell? ⟨b, off + k * 5 + 3, none⟩ = some (.int .i64 l[k].f) ∧ w.cell? ⟨b, off + k * 5 + 4, none⟩ = some (.int .i64 l[k].n) := by
  obtain ⟨a', c', h1, _, h3⟩ := hl
  cases h1
  rcases h3 with h3 | ⟨b, off, e, h3⟩
  · omega
  · exact ⟨b, off, e, fun w hw => h3 w hw k hk⟩

theorem reads_zero (F : Asn) (b : Nat) : ReadsInts (pts b (.cells #[.int .i64 0] 3 (0, 0)) * F) (.slice (some ⟨b, 0, none⟩) 1 1) [0] := by
  refine ⟨_, 1, 1, rfl, rfl, by omega, .inr ⟨b, 0, rfl, fun w hw j hj => ?_⟩⟩
  obtain rfl : j = 0 := by omega
  rw [Sat.read hw.left.at]
  rfl

section
variable {F : Asn} {w : World} {R : Ending → World → Prop} {le lp lc lf ln : Int}

set_option maxRecDepth 100000 in
set_option maxHeartbeats 8000000 in
theorem keeps_main {a : Option Addr} {c : Nat} {l : List Rt} (hv : Hv F) (hl : ReadsRoots F (.slice a l.length c) l) (h0 : 0 < l.length) (h40 : l.length ≤ 40) (kept : Bool) (cut : Int) (H : Sat F w) (h : ∀ w', Sat F w' → Io w w' → R (.returned (.bool true)) w') :
    Calls Tryd.prog 8 #[.slice a l.length c, .agg #[.int .i64 le, .int .i64 lp, .int .i64 lc, .int .i64 lf, .int .i64 ln], .bool kept, .int .i64 cut] w R := by
  have HH := Lib.hid h
  clear h
  have RA := Lib.hid (fun k hk => roots_at hl k hk)
  have hl40 : (l.length : Int) ≤ 40 := by omega
  have hl0 : ((l.length : Int) == 0) = false := by rw [beq_eq_false_iff_ne]; omega
  have hpos := Lib.hid h0
  have H40 := Lib.hid h40
  clear h0 h40
  have H0 := H.new (.cells #[.int .i64 le, .int .i64 lp, .int .i64 lc, .int .i64 lf, .int .i64 ln] 23)
  have J0 := (Io.refl w).alloc (.cells #[.int .i64 le, .int .i64 lp, .int .i64 lc, .int .i64 lf, .int .i64 ln] 23)
  go_enter Tryd.func8, Tryd.ntmps8
  go_wp2_with fail
  generalize w.alloc (.cells #[.int .i64 le, .int .i64 lp, .int .i64 lc, .int .i64 lf, .int .i64 ln] 23) = v0 at *
  generalize w.heap.size = Bl at *
  refine works_any hv.with H0 ?_
  intro w1 H1 I1
  have J1 := J0.trans I1
  clear J0 I1 H0 H
  go_wp2_with fail
  refine new_any 3 (by omega) (by omega) H1 ?_
  rw [show (min (max 3 0) 16384 : Int).toNat = 3 from rfl]
  intro pp w2 H2 I2
  have J2 := J1.trans I2
  clear J1 I2 H1
  go_wp2_with fail
  refine pf_new H2 ?_
  intro q w3 H3 I3
  have H4 := H3.new (.cells #[.int .i64 0, .int .i64 0, .int .i64 0, .int .i64 0, .int .i64 0] 23)
  have J4 := (J2.trans I3).alloc (.cells #[.int .i64 0, .int .i64 0, .int .i64 0, .int .i64 0, .int .i64 0] 23)
  clear J2 I3 H2 H3
  go_wp2_with fail
  generalize w3.alloc (.cells #[.int .i64 0, .int .i64 0, .int .i64 0, .int .i64 0, .int .i64 0] 23) = v3 at *
  generalize w3.heap.size = Bw at *
  go_loopw [13] (fun x wr => ∃ (k : Nat) (d : Dk) (X : List UInt8) (was : Rt), k ≤ l.length ∧ x = .int .i64 (k : Int) ∧ Keep7 d k X was ∧ Sat (pts Bw (.cells #[.int .i64 was.e, .int .i64 was.p, .int .i64 was.c, .int .i64 was.f, .int .i64 was.n] 23 (0, 0)) * (IsPf q pp d * (pts Bl (.cells #[.int .i64 le, .int .i64 lp, .int .i64 lc, .int .i64 lf, .int .i64 ln] 23 (0, 0)) * F))) wr ∧ Io w wr) (fun x _ => l.length - (intOf x).toNat)
  case atStart => exact ⟨0, _, _, Rt.zero, by omega, rfl, Keep7.new _, H4, J4⟩
  case round =>
    obtain ⟨k, d, X, was, hk, rfl, hK, Hk, Ik⟩ := hrel
    clear H4 J4
    have KB := Lib.hid (hK.bounds (by have := H40.out; omega))
    have HK := Lib.hid hK
    clear hK
    by_cases hlt : k < l.length
    · obtain ⟨b, off, rfl, hc⟩ := RA.out k hlt
      obtain ⟨c0, c1, c2, c3, c4⟩ := hc wr Hk.right.right.right
      clear hc
      have hlti : (k : Int) < (l.length : Int) := by omega
      generalize l[k].e = re at *
      generalize l[k].p = rp' at *
      generalize l[k].c = rc at *
      generalize l[k].f = rf' at *
      generalize l[k].n = rn at *
      have hkk : (k : Int) ≤ 40 := by omega
      have HR := Hk.new (.cells #[.int .i64 ((k : Int) + 1), .int .i64 rp', .int .i64 rc, .int .i64 rf', .int .i64 rn] 23)
      have IR := Ik.alloc (.cells #[.int .i64 ((k : Int) + 1), .int .i64 rp', .int .i64 rc, .int .i64 rf', .int .i64 rn] 23)
      cases hg : Rt.good ⟨(k : Int) + 1, rp', rc, rf', rn⟩ with
      | false =>
        have G := Lib.hid hg
        clear hg
        go_wp2_with fail
        generalize wr.alloc (.cells #[.int .i64 ((k : Int) + 1), .int .i64 rp', .int .i64 rc, .int .i64 rf', .int .i64 rn] 23) = v5 at *
        generalize wr.heap.size = Br at *
        refine store_bad G hv.with.with.with.with _ HR ?_
        intro w5 H5 I5
        have x0 := Sat.read H5.left.at 0
        have x1 := Sat.read H5.left.at 1
        have x2 := Sat.read H5.left.at 2
        have x3 := Sat.read H5.left.at 3
        have x4 := Sat.read H5.left.at 4
        have lr := H5.left.lt
        simp only [List.getElem?_toArray, List.getElem?_cons_zero, List.getElem?_cons_succ] at x0 x1 x2 x3 x4
        go_wp2_with fail
        clear x0 x1 x2 x3 x4 lr
        refine enc_no G hv.with.with.with.with H5 ?_
        intro w6 H6 I6
        have fin := HH.out _ H6.right.right.right.right ((IR.trans I5).trans I6)
        clear HH H5 H6 I5 I6 HR IR Hk Ik HK KB G
        go_wp2_with fail
        exact fin
      | true =>
        have G := Lib.hid hg
        clear hg
        obtain ⟨s, S⟩ : ∃ t, Hid (t = tx (Rt.bytes ⟨(k : Int) + 1, rp', rc, rf', rn⟩)) := ⟨_, Lib.hid rfl⟩
        have STEP := Lib.hid (HK.out.step G.out rfl S.out)
        go_wp2_with fail
        generalize wr.alloc (.cells #[.int .i64 ((k : Int) + 1), .int .i64 rp', .int .i64 rc, .int .i64 rf', .int .i64 rn] 23) = v5 at *
        generalize wr.heap.size = Br at *
        have HR' : Sat (IsPf q pp d * (pts Br (.cells #[.int .i64 ((k : Int) + 1), .int .i64 rp', .int .i64 rc, .int .i64 rf', .int .i64 rn] 23 (0, 0)) * (pts Bw (.cells #[.int .i64 was.e, .int .i64 was.p, .int .i64 was.c, .int .i64 was.f, .int .i64 was.n] 23 (0, 0)) * (pts Bl (.cells #[.int .i64 le, .int .i64 lp, .int .i64 lc, .int .i64 lf, .int .i64 ln] 23 (0, 0)) * F)))) v5 := HR.of_eq (by ac_rfl)
        clear HR
        refine store_ok G S hv.with.with.with HR' KB.out.1 (by have := KB.out.2.1; omega) (by have := KB.out.2.2.1; omega) STEP.out.1 ?_
        rw [STEP.out.2.1]
        intro w5 H5 I5
        obtain ⟨d1, D1⟩ : ∃ x, Hid (x = (d.write (((k : Int) + 1) % 2) s).sync) := ⟨_, Lib.hid rfl⟩
        have STEP2 := STEP.out
        simp only [← D1.out] at STEP2 H5
        obtain ⟨_, _, q3, q4, q5, q6, q7, X', q8⟩ := STEP2
        have Q3 := Lib.hid q3
        have Q4 := Lib.hid q4
        have Q5 := Lib.hid q5
        have Q6 := Lib.hid q6
        have Q7 := Lib.hid q7
        have Q8 := Lib.hid q8
        clear q3 q4 q5 q6 q7 q8 D1 STEP HR' KB HK
        have I55 := IR.trans I5
        clear IR I5
        have x0 := Sat.read H5.right.left.at 0
        have x1 := Sat.read H5.right.left.at 1
        have x2 := Sat.read H5.right.left.at 2
        have x3 := Sat.read H5.right.left.at 3
        have x4 := Sat.read H5.right.left.at 4
        have lr := H5.right.left.lt
        simp only [List.getElem?_toArray, List.getElem?_cons_zero, List.getElem?_cons_succ] at x0 x1 x2 x3 x4
        go_wp2_with fail
        clear x0 x1 x2 x3 x4 lr
        refine enc_yes G S hv.with.with.with.with H5 ?_
        intro w6 H6 I6
        have I66 := I55.trans I6
        clear I55 I6 H5
        go_wp2_with fail
        refine load_some hv.with.with.with H6 Q3.out (by have := Q4.out; omega) Q5.out Q6.out Q7.out ?_
        intro w7 H7 I7
        have I77 := I66.trans I7
        clear I66 I7 H6
        have H8 : Sat (pts Bw (.cells #[.int .i64 was.e, .int .i64 was.p, .int .i64 was.c, .int .i64 was.f, .int .i64 was.n] 23 (0, 0)) * (pts Br (.cells #[.int .i64 ((k : Int) + 1), .int .i64 rp', .int .i64 rc, .int .i64 rf', .int .i64 rn] 23 (0, 0)) * (IsPf q pp ((d1.read 0).read 1) * (pts Bl (.cells #[.int .i64 le, .int .i64 lp, .int .i64 lc, .int .i64 lf, .int .i64 ln] 23 (0, 0)) * F)))) w7 := H7.of_eq (by ac_rfl)
        clear H7
        have x0 := Sat.read H8.right.left.at 0
        have x1 := Sat.read H8.right.left.at 1
        have x2 := Sat.read H8.right.left.at 2
        have x3 := Sat.read H8.right.left.at 3
        have x4 := Sat.read H8.right.left.at 4
        have lr := H8.right.left.lt
        have y0 := Sat.read H8.left.at 0
        have y1 := Sat.read H8.left.at 1
        have y2 := Sat.read H8.left.at 2
        have y3 := Sat.read H8.left.at 3
        have y4 := Sat.read H8.left.at 4
        have z0 := Sat.free H8.left.at 0
        have z1 := Sat.free H8.left.at 1
        have z2 := Sat.free H8.left.at 2
        have z3 := Sat.free H8.left.at 3
        have z4 := Sat.free H8.left.at 4
        have lw := H8.left.lt
        have nwr := (H8.of_eq (star_assoc _ _ _).symm).left.ne
        simp only [List.getElem?_toArray, List.getElem?_cons_zero, List.getElem?_cons_succ] at x0 x1 x2 x3 x4 y0 y1 y2 y3 y4
        go_wp2_with fail
        go_roundw
        case rel => exact ⟨k + 1, _, X', ⟨(k : Int) + 1, rp', rc, rf', rn⟩, by omega, by go_num, Q8.out, (Sat.of_eq (Sat.alloc (Sat.cell (Sat.cell (Sat.cell (Sat.cell (Sat.cell H8 0 _) 1 _) 2 _) 3 _) 4 _) _) (show _ = pts Br (.cells #[.int .i64 ((k : Int) + 1), .int .i64 rp', .int .i64 rc, .int .i64 rf', .int .i64 rn] 23 (0, 0)) * (pts Bw (.cells #[.int .i64 ((k : Int) + 1), .int .i64 rp', .int .i64 rc, .int .i64 rf', .int .i64 rn] 23 (0, 0)) * (IsPf q pp ((d1.read 0).read 1) * (pts Bl (.cells #[.int .i64 le, .int .i64 lp, .int .i64 lc, .int .i64 lf, .int .i64 ln] 23 (0, 0)) * F))) from by ac_rfl)).right, (((((I77.setCell _ _).setCell _ _).setCell _ _).setCell _ _).setCell _ _).alloc _⟩
        case measure => simp [intOf]; omega
    · obtain rfl : k = l.length := by omega
      have hge : ¬ (l.length : Int) < (l.length : Int) := by omega
      have hwe := HK.out.was_e hpos.out
      have HWE := Lib.hid hwe
      have hne : ((l.length : Int) + 1 == was.e) = false := by rw [hwe, beq_eq_false_iff_ne]; omega
      clear hwe
      have HL : Sat (pts Bl (.cells #[.int .i64 le, .int .i64 lp, .int .i64 lc, .int .i64 lf, .int .i64 ln] 23 (0, 0)) * (IsPf q pp d * (pts Bw (.cells #[.int .i64 was.e, .int .i64 was.p, .int .i64 was.c, .int .i64 was.f, .int .i64 was.n] 23 (0, 0)) * F))) wr := Hk.of_eq (by ac_rfl)
      have HL2 : Sat (pts Bl (.cells #[.int .i64 ((l.length : Int) + 1), .int .i64 lp, .int .i64 lc, .int .i64 lf, .int .i64 ln] 23 (0, 0)) * (IsPf q pp d * (pts Bw (.cells #[.int .i64 was.e, .int .i64 was.p, .int .i64 was.c, .int .i64 was.f, .int .i64 was.n] 23 (0, 0)) * F))) (wr.setCell ⟨Bl, 0, none⟩ (.int .i64 ((l.length : Int) + 1))) := Sat.cell HL 0 _
      have IL := Ik.setCell ⟨Bl, 0, none⟩ (.int .i64 ((l.length : Int) + 1))
      have b0 := Sat.read (HL).left.at 0
      have b1 := Sat.read (HL).left.at 1
      have b2 := Sat.read (HL).left.at 2
      have b3 := Sat.read (HL).left.at 3
      have b4 := Sat.read (HL).left.at 4
      have bz := Sat.free (HL).left.at 0
      have bl := (HL).left.lt
      simp only [List.getElem?_toArray, List.getElem?_cons_zero, List.getElem?_cons_succ] at b0 b1 b2 b3 b4
      clear Hk HL Ik
      cases hg : Rt.good ⟨(l.length : Int) + 1, lp, lc, lf, ln⟩ with
      | false =>
        have G := Lib.hid hg
        clear hg
        go_wp2_with fail
        clear b0 b1 b2 b3 b4 bl bz
        generalize wr.setCell ⟨Bl, 0, none⟩ (.int .i64 ((l.length : Int) + 1)) = v5 at *
        refine enc_no G hv.with.with.with HL2 ?_
        intro w6 H6 I6
        have fin := HH.out _ H6.right.right.right (IL.trans I6)
        clear HH H6 IL I6 HL2 HK KB G
        go_wp2_with fail
        exact fin
      | true =>
        have G := Lib.hid hg
        clear hg
        obtain ⟨s, S⟩ : ∃ t, Hid (t = tx (Rt.bytes ⟨(l.length : Int) + 1, lp, lc, lf, ln⟩)) := ⟨_, Lib.hid rfl⟩
        obtain ⟨g, g1, g2, g3, g4, g5, g6, g7, g8⟩ := HK.out.gone (r := ⟨(l.length : Int) + 1, lp, lc, lf, ln⟩) rfl S.out H40.out
        have G1 := Lib.hid g1
        have G2 := Lib.hid g2
        have G3 := Lib.hid g3
        have G4 := Lib.hid g4
        have G5 := Lib.hid g5
        have G6 := Lib.hid g6
        have G7 := Lib.hid g7
        have G8 := Lib.hid g8
        clear g1 g2 g3 g4 g5 g6 g7 g8
        go_wp2_with fail
        clear b0 b1 b2 b3 b4 bl bz
        generalize wr.setCell ⟨Bl, 0, none⟩ (.int .i64 ((l.length : Int) + 1)) = v5 at *
        refine enc_yes G S hv.with.with.with HL2 ?_
        intro w6 H6 I6
        have I66 := IL.trans I6
        clear IL I6 HL2
        have H7 : Sat (IsPf q pp d * (pts Bl (.cells #[.int .i64 ((l.length : Int) + 1), .int .i64 lp, .int .i64 lc, .int .i64 lf, .int .i64 ln] 23 (0, 0)) * (pts Bw (.cells #[.int .i64 was.e, .int .i64 was.p, .int .i64 was.c, .int .i64 was.f, .int .i64 was.n] 23 (0, 0)) * F))) w6 := H6.of_eq (by ac_rfl)
        clear H6
        go_wp2_with fail
        refine break_any (pf_disk H7) 0 (by omega) (by omega) ?_
        intro w7 H8 I7
        have H9 : Sat (pts Bl (.cells #[.int .i64 ((l.length : Int) + 1), .int .i64 lp, .int .i64 lc, .int .i64 lf, .int .i64 ln] 23 (0, 0)) * (IsPf q pp (d.brk 0) * (pts Bw (.cells #[.int .i64 was.e, .int .i64 was.p, .int .i64 was.c, .int .i64 was.f, .int .i64 was.n] 23 (0, 0)) * F))) w7 := (pf_back H8).of_eq (by ac_rfl)
        have I77 := I66.trans I7
        clear H7 H8 I66 I7
        have b0 := Sat.read (H9).left.at 0
        have b1 := Sat.read (H9).left.at 1
        have b2 := Sat.read (H9).left.at 2
        have b3 := Sat.read (H9).left.at 3
        have b4 := Sat.read (H9).left.at 4
        have bl := (H9).left.lt
        simp only [List.getElem?_toArray, List.getElem?_cons_zero, List.getElem?_cons_succ] at b0 b1 b2 b3 b4
        go_wp2_with fail
        clear b0 b1 b2 b3 b4 bl
        have H10 : Sat (IsPf q pp (d.brk 0) * (pts Bl (.cells #[.int .i64 ((l.length : Int) + 1), .int .i64 lp, .int .i64 lc, .int .i64 lf, .int .i64 ln] 23 (0, 0)) * (pts Bw (.cells #[.int .i64 was.e, .int .i64 was.p, .int .i64 was.c, .int .i64 was.f, .int .i64 was.n] 23 (0, 0)) * F))) w7 := H9.of_eq (by ac_rfl)
        refine store_err G S hv.with.with H10 (Dk.brk_ok' KB.out.1 0 (by omega)) (by have := KB.out.2.1; show d.writes ≤ _; omega) (by have := KB.out.2.2.1; show d.pend.length ≤ _; omega) G1.out (by decide) ?_
        show ∀ w', Sat (IsPf q pp ((d.brk 0).write (((l.length : Int) + 1) % 2) s) * (pts Bl (.cells #[.int .i64 ((l.length : Int) + 1), .int .i64 lp, .int .i64 lc, .int .i64 lf, .int .i64 ln] 23 (0, 0)) * (pts Bw (.cells #[.int .i64 was.e, .int .i64 was.p, .int .i64 was.c, .int .i64 was.f, .int .i64 was.n] 23 (0, 0)) * F))) w' → Io w7 w' → _
        rw [G2.out]
        intro w8 H11 I8
        have I88 := I77.trans I8
        clear I77 I8 H9 H10
        go_wp2_with fail
        refine load_e0 hv.with.with H11 G3.out (by have := G6.out; omega) G4.out (by decide) ?_
        rw [G5.out]
        intro w9 H12 I9
        have H13 := H12.alloc (.cells #[.int .i64 0, .int .i64 0, .int .i64 0, .int .i64 0, .int .i64 0] 23)
        have I99 := (I88.trans I9).alloc (.cells #[.int .i64 0, .int .i64 0, .int .i64 0, .int .i64 0, .int .i64 0] 23)
        clear I88 I9 H11 H12
        cases kept with
        | false =>
          obtain ⟨bk, k1, k2, k3, k4, k5, k6⟩ := HK.out.none hpos.out H40.out S.out cut G8.out
          have K1 := Lib.hid k1
          have K2 := Lib.hid k2
          have K3 := Lib.hid k3
          have K4 := Lib.hid k4
          have K5 := Lib.hid k5
          have K6 := Lib.hid k6
          clear k1 k2 k3 k4 k5 k6
          go_wp2_with fail
          generalize w9.alloc (.cells #[.int .i64 0, .int .i64 0, .int .i64 0, .int .i64 0, .int .i64 0] 23) = v9 at *
          refine crash_any (pf_disk H13) (ReadsInts.nil _) G3.out (by have := G7.out; omega) 0 cut ?_
          rw [K1.out]
          intro w10 H14 I10
          have H15 := pf_back H14
          have I10' := I99.trans I10
          clear I99 I10 H13 H14
          go_wp2_with fail
          refine load_some hv.with.with H15 K2.out (by have := K3.out; omega) K4.out K5.out K6.out ?_
          intro w11 H16 I11
          have HX : Sat (pts Bw (.cells #[.int .i64 was.e, .int .i64 was.p, .int .i64 was.c, .int .i64 was.f, .int .i64 was.n] 23 (0, 0)) * (IsPf q pp ((bk.read 0).read 1) * (pts Bl (.cells #[.int .i64 ((l.length : Int) + 1), .int .i64 lp, .int .i64 lc, .int .i64 lf, .int .i64 ln] 23 (0, 0)) * F))) w11 := H16.of_eq (by ac_rfl)
          have HEND := HX.right.right.right.alloc (.cells #[.int .i64 was.e, .int .i64 was.p, .int .i64 was.c, .int .i64 was.f, .int .i64 was.n] 23)
          have IEND := (I10'.trans I11).alloc (.cells #[.int .i64 was.e, .int .i64 was.p, .int .i64 was.c, .int .i64 was.f, .int .i64 was.n] 23)
          clear I10' I11 H15 H16
          have bw0 := Sat.read (HX).left.at 0
          have bw1 := Sat.read (HX).left.at 1
          have bw2 := Sat.read (HX).left.at 2
          have bw3 := Sat.read (HX).left.at 3
          have bw4 := Sat.read (HX).left.at 4
          have bwl := (HX).left.lt
          simp only [List.getElem?_toArray, List.getElem?_cons_zero, List.getElem?_cons_succ] at bw0 bw1 bw2 bw3 bw4
          have bl0 := Sat.read (HX.right.right).left.at 0
          have bl1 := Sat.read (HX.right.right).left.at 1
          have bl2 := Sat.read (HX.right.right).left.at 2
          have bl3 := Sat.read (HX.right.right).left.at 3
          have bl4 := Sat.read (HX.right.right).left.at 4
          have bll := (HX.right.right).left.lt
          simp only [List.getElem?_toArray, List.getElem?_cons_zero, List.getElem?_cons_succ] at bl0 bl1 bl2 bl3 bl4
          have fin := HH.out _ HEND IEND
          clear HH HEND IEND HX
          go_wp2_with fail
          exact fin
        | true =>
          obtain ⟨bk, x, k1, k2, k3, k4, k5, k6, k7⟩ := HK.out.kept hpos.out H40.out G.out rfl S.out cut G8.out
          have K1 := Lib.hid k1
          have K2 := Lib.hid k2
          have K3 := Lib.hid k3
          have K4 := Lib.hid k4
          have K5 := Lib.hid k5
          have K6 := Lib.hid k6
          clear k1 k2 k3 k4 k5 k6
          have HC : Sat (pts (w9.alloc (.cells #[.int .i64 0, .int .i64 0, .int .i64 0, .int .i64 0, .int .i64 0] 23)).heap.size (.cells #[.int .i64 0] 3 (0, 0)) * (IsPf q pp g * (pts Bl (.cells #[.int .i64 ((l.length : Int) + 1), .int .i64 lp, .int .i64 lc, .int .i64 lf, .int .i64 ln] 23 (0, 0)) * (pts Bw (.cells #[.int .i64 was.e, .int .i64 was.p, .int .i64 was.c, .int .i64 was.f, .int .i64 was.n] 23 (0, 0)) * F)))) ((w9.alloc (.cells #[.int .i64 0, .int .i64 0, .int .i64 0, .int .i64 0, .int .i64 0] 23)).alloc (.cells #[.int .i64 0] 3)) := H13.new _
          have IC := I99.alloc (.cells #[.int .i64 0] 3)
          rw [show (w9.alloc (.cells #[.int .i64 0, .int .i64 0, .int .i64 0, .int .i64 0, .int .i64 0] 23)).heap.size = w9.heap.size + 1 from by simp] at HC
          clear H13 I99
          go_wp2_with fail
          generalize (w9.alloc (.cells #[.int .i64 0, .int .i64 0, .int .i64 0, .int .i64 0, .int .i64 0] 23)).alloc (.cells #[.int .i64 0] 3) = v9 at *
          generalize w9.heap.size + 1 = Bk at *
          have HC2 : Sat (IsDk pp g * (pts Bk (.cells #[.int .i64 0] 3 (0, 0)) * (pts q (.cells #[.pointer (some ⟨pp, 0, none⟩)] 62 (0, 0)) * (pts Bl (.cells #[.int .i64 ((l.length : Int) + 1), .int .i64 lp, .int .i64 lc, .int .i64 lf, .int .i64 ln] 23 (0, 0)) * (pts Bw (.cells #[.int .i64 was.e, .int .i64 was.p, .int .i64 was.c, .int .i64 was.f, .int .i64 was.n] 23 (0, 0)) * F))))) v9 := HC.of_eq (by unfold IsPf; ac_rfl)
          refine crash_any HC2 (reads_zero _ _) G3.out (by have := G7.out; omega) 0 cut ?_
          rw [K1.out]
          intro w10 H14 I10
          have H15 : Sat (IsPf q pp bk * (pts Bl (.cells #[.int .i64 ((l.length : Int) + 1), .int .i64 lp, .int .i64 lc, .int .i64 lf, .int .i64 ln] 23 (0, 0)) * (pts Bw (.cells #[.int .i64 was.e, .int .i64 was.p, .int .i64 was.c, .int .i64 was.f, .int .i64 was.n] 23 (0, 0)) * F))) w10 := (H14.of_eq (show _ = pts Bk (.cells #[.int .i64 0] 3 (0, 0)) * (IsPf q pp bk * (pts Bl (.cells #[.int .i64 ((l.length : Int) + 1), .int .i64 lp, .int .i64 lc, .int .i64 lf, .int .i64 ln] 23 (0, 0)) * (pts Bw (.cells #[.int .i64 was.e, .int .i64 was.p, .int .i64 was.c, .int .i64 was.f, .int .i64 was.n] 23 (0, 0)) * F))) from by unfold IsPf; ac_rfl)).right
          have I10' := IC.trans I10
          clear IC I10 HC HC2 H14
          rcases k7 with hx | ⟨hx, hcut⟩
          · subst hx
            by_cases hcut : 256 ≤ cut
            · have hd : decide (cut ≥ 256) = true := by simpa using hcut
              clear hcut
              go_wp2_with fail
              refine load_some hv.with.with H15 K2.out (by have := K3.out; omega) K4.out K5.out K6.out ?_
              intro w11 H16 I11
              have HX : Sat (pts Bw (.cells #[.int .i64 was.e, .int .i64 was.p, .int .i64 was.c, .int .i64 was.f, .int .i64 was.n] 23 (0, 0)) * (IsPf q pp ((bk.read 0).read 1) * (pts Bl (.cells #[.int .i64 ((l.length : Int) + 1), .int .i64 lp, .int .i64 lc, .int .i64 lf, .int .i64 ln] 23 (0, 0)) * F))) w11 := H16.of_eq (by ac_rfl)
              have HEND := HX.right.right.right.alloc (.cells #[.int .i64 ((l.length : Int) + 1), .int .i64 lp, .int .i64 lc, .int .i64 lf, .int .i64 ln] 23)
              have IEND := (I10'.trans I11).alloc (.cells #[.int .i64 ((l.length : Int) + 1), .int .i64 lp, .int .i64 lc, .int .i64 lf, .int .i64 ln] 23)
              clear I10' I11 H15 H16
              have bw0 := Sat.read (HX).left.at 0
              have bw1 := Sat.read (HX).left.at 1
              have bw2 := Sat.read (HX).left.at 2
              have bw3 := Sat.read (HX).left.at 3
              have bw4 := Sat.read (HX).left.at 4
              have bwl := (HX).left.lt
              simp only [List.getElem?_toArray, List.getElem?_cons_zero, List.getElem?_cons_succ] at bw0 bw1 bw2 bw3 bw4
              have bl0 := Sat.read (HX.right.right).left.at 0
              have bl1 := Sat.read (HX.right.right).left.at 1
              have bl2 := Sat.read (HX.right.right).left.at 2
              have bl3 := Sat.read (HX.right.right).left.at 3
              have bl4 := Sat.read (HX.right.right).left.at 4
              have bll := (HX.right.right).left.lt
              simp only [List.getElem?_toArray, List.getElem?_cons_zero, List.getElem?_cons_succ] at bl0 bl1 bl2 bl3 bl4
              have fin := HH.out _ HEND IEND
              clear HH HEND IEND HX
              go_wp2_with fail
              exact fin
            · have hd : decide (cut ≥ 256) = false := by simpa using hcut
              clear hcut
              go_wp2_with fail
              refine load_some hv.with.with H15 K2.out (by have := K3.out; omega) K4.out K5.out K6.out ?_
              intro w11 H16 I11
              have HX : Sat (pts Bw (.cells #[.int .i64 was.e, .int .i64 was.p, .int .i64 was.c, .int .i64 was.f, .int .i64 was.n] 23 (0, 0)) * (IsPf q pp ((bk.read 0).read 1) * (pts Bl (.cells #[.int .i64 ((l.length : Int) + 1), .int .i64 lp, .int .i64 lc, .int .i64 lf, .int .i64 ln] 23 (0, 0)) * F))) w11 := H16.of_eq (by ac_rfl)
              have HEND := HX.right.right.right.alloc (.cells #[.int .i64 ((l.length : Int) + 1), .int .i64 lp, .int .i64 lc, .int .i64 lf, .int .i64 ln] 23)
              have IEND := (I10'.trans I11).alloc (.cells #[.int .i64 ((l.length : Int) + 1), .int .i64 lp, .int .i64 lc, .int .i64 lf, .int .i64 ln] 23)
              clear I10' I11 H15 H16
              have bw0 := Sat.read (HX).left.at 0
              have bw1 := Sat.read (HX).left.at 1
              have bw2 := Sat.read (HX).left.at 2
              have bw3 := Sat.read (HX).left.at 3
              have bw4 := Sat.read (HX).left.at 4
              have bwl := (HX).left.lt
              simp only [List.getElem?_toArray, List.getElem?_cons_zero, List.getElem?_cons_succ] at bw0 bw1 bw2 bw3 bw4
              have bl0 := Sat.read (HX.right.right).left.at 0
              have bl1 := Sat.read (HX.right.right).left.at 1
              have bl2 := Sat.read (HX.right.right).left.at 2
              have bl3 := Sat.read (HX.right.right).left.at 3
              have bl4 := Sat.read (HX.right.right).left.at 4
              have bll := (HX.right.right).left.lt
              simp only [List.getElem?_toArray, List.getElem?_cons_zero, List.getElem?_cons_succ] at bl0 bl1 bl2 bl3 bl4
              have fin := HH.out _ HEND IEND
              clear HH HEND IEND HX
              go_wp2_with fail
              exact fin
          · have hx' := hx.symm
            clear hx
            subst hx'
            have hd : decide (cut ≥ 256) = false := by simp; omega
            clear hcut
            go_wp2_with fail
            refine load_some hv.with.with H15 K2.out (by have := K3.out; omega) K4.out K5.out K6.out ?_
            intro w11 H16 I11
            have HX : Sat (pts Bw (.cells #[.int .i64 was.e, .int .i64 was.p, .int .i64 was.c, .int .i64 was.f, .int .i64 was.n] 23 (0, 0)) * (IsPf q pp ((bk.read 0).read 1) * (pts Bl (.cells #[.int .i64 ((l.length : Int) + 1), .int .i64 lp, .int .i64 lc, .int .i64 lf, .int .i64 ln] 23 (0, 0)) * F))) w11 := H16.of_eq (by ac_rfl)
            have HEND := HX.right.right.right.alloc (.cells #[.int .i64 was.e, .int .i64 was.p, .int .i64 was.c, .int .i64 was.f, .int .i64 was.n] 23)
            have IEND := (I10'.trans I11).alloc (.cells #[.int .i64 was.e, .int .i64 was.p, .int .i64 was.c, .int .i64 was.f, .int .i64 was.n] 23)
            clear I10' I11 H15 H16
            have bw0 := Sat.read (HX).left.at 0
            have bw1 := Sat.read (HX).left.at 1
            have bw2 := Sat.read (HX).left.at 2
            have bw3 := Sat.read (HX).left.at 3
            have bw4 := Sat.read (HX).left.at 4
            have bwl := (HX).left.lt
            simp only [List.getElem?_toArray, List.getElem?_cons_zero, List.getElem?_cons_succ] at bw0 bw1 bw2 bw3 bw4
            have bl0 := Sat.read (HX.right.right).left.at 0
            have bl1 := Sat.read (HX.right.right).left.at 1
            have bl2 := Sat.read (HX.right.right).left.at 2
            have bl3 := Sat.read (HX.right.right).left.at 3
            have bl4 := Sat.read (HX.right.right).left.at 4
            have bll := (HX.right.right).left.lt
            simp only [List.getElem?_toArray, List.getElem?_cons_zero, List.getElem?_cons_succ] at bl0 bl1 bl2 bl3 bl4
            have fin := HH.out _ HEND IEND
            clear HH HEND IEND HX
            go_wp2_with fail
            exact fin

set_option maxRecDepth 100000 in
set_option maxHeartbeats 2000000 in
theorem keeps_many {a : Option Addr} {c m : Nat} (hv : Hv F) (hm : 40 < m) (hm2 : m ≤ 9223372036854775807) (kept : Bool) (cut : Int) (H : Sat F w) (h : ∀ w', Sat F w' → Io w w' → R (.returned (.bool true)) w') :
    Calls Tryd.prog 8 #[.slice a m c, .agg #[.int .i64 le, .int .i64 lp, .int .i64 lc, .int .i64 lf, .int .i64 ln], .bool kept, .int .i64 cut] w R := by
  have HH := Lib.hid h
  clear h
  have h1 : 40 < (m : Int) := by omega
  have h2 : (m : Int) ≤ 9223372036854775807 := by omega
  have hd : decide ((m : Int) > 40) = true := by simpa using h1
  clear hm hm2
  have H0 := H.new (.cells #[.int .i64 le, .int .i64 lp, .int .i64 lc, .int .i64 lf, .int .i64 ln] 23)
  have J0 := (Io.refl w).alloc (.cells #[.int .i64 le, .int .i64 lp, .int .i64 lc, .int .i64 lf, .int .i64 ln] 23)
  go_enter Tryd.func8, Tryd.ntmps8
  go_wp2_with fail
  generalize w.alloc (.cells #[.int .i64 le, .int .i64 lp, .int .i64 lc, .int .i64 lf, .int .i64 ln] 23) = v0 at *
  generalize w.heap.size = Bl at *
  refine works_any hv.with H0 ?_
  intro w1 H1 I1
  have fin := HH.out _ H1.right (J0.trans I1)
  clear HH H0 H1 H J0 I1
  go_wp2_with fail
  exact fin

set_option maxRecDepth 100000 in
set_option maxHeartbeats 2000000 in
theorem keeps_zero {a : Option Addr} {c m : Nat} (hv : Hv F) (hm : m = 0) (kept : Bool) (cut : Int) (H : Sat F w) (h : ∀ w', Sat F w' → Io w w' → R (.returned (.bool true)) w') :
    Calls Tryd.prog 8 #[.slice a m c, .agg #[.int .i64 le, .int .i64 lp, .int .i64 lc, .int .i64 lf, .int .i64 ln], .bool kept, .int .i64 cut] w R := by
  have HH := Lib.hid h
  clear h
  subst hm
  have H0 := H.new (.cells #[.int .i64 le, .int .i64 lp, .int .i64 lc, .int .i64 lf, .int .i64 ln] 23)
  have J0 := (Io.refl w).alloc (.cells #[.int .i64 le, .int .i64 lp, .int .i64 lc, .int .i64 lf, .int .i64 ln] 23)
  go_enter Tryd.func8, Tryd.ntmps8
  go_wp2_with fail
  generalize w.alloc (.cells #[.int .i64 le, .int .i64 lp, .int .i64 lc, .int .i64 lf, .int .i64 ln] 23) = v0 at *
  generalize w.heap.size = Bl at *
  refine works_any hv.with H0 ?_
  intro w1 H1 I1
  have fin := HH.out _ H1.right (J0.trans I1)
  clear HH H0 H1 H J0 I1
  go_wp2_with fail
  exact fin

theorem keeps_walk {v : Value} {l : List Rt} (hv : Hv F) (hl : ReadsRoots F v l) (last : Rt) (kept : Bool) (cut : Int) (H : Sat F w) (h : ∀ w', Sat F w' → Io w w' → R (.returned (.bool true)) w') :
    Calls Tryd.prog 8 #[v, last.val, .bool kept, .int .i64 cut] w R := by
  obtain ⟨le, lp, lc, lf, ln⟩ := last
  obtain ⟨a, c, rfl, hm, h3⟩ := id hl
  by_cases h40 : l.length ≤ 40
  · rcases Nat.eq_zero_or_pos l.length with h0 | h0
    · exact keeps_zero hv h0 kept cut H h
    · exact keeps_main hv hl h0 h40 kept cut H h
  · exact keeps_many hv (by omega) hm kept cut H h
end
end Go.Proofs.YtghpfepmkngfdaaDoor
