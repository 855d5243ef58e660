/-
  Who is joined with whom: the program's walk, by its walk. It proves no statement by itself.
-/
import Derived.Test.YtabpgejjnphfcaaGreatQ08
import Derived.Test.YtabpgejjnphfcaaGreatQ09
namespace Go.Proofs.YtabpgejjnphfcaaGreat
open Go.RowKit Go.Lib
set_option linter.unusedSimpArgs false
set_option linter.unusedVariables false

abbrev Nbr := Value × List Int
abbrev ekI : Int → Value := fun n => Value.int .i64 n
abbrev evN : Nbr → Value := fun p => p.1
abbrev evB : Bool → Value := fun b => Value.bool b
/-- The map of neighbours. -/
abbrev NearAt (b : Nat) (N : List (Int × Nbr)) : Asn := MapAt ekI evN b N
/-- The map of those met. -/
abbrev MetAt (b : Nat) (M : List Int) : Asn := MapAt ekI evB b (M.map fun x => (x, true))
/-- The rows of all neighbours. -/
def Rows : List (Int × Nbr) → Asn
  | [] => emp
  | (_, s, xs) :: N => RowI s xs * Rows N
def nget (N : List (Int × Nbr)) (x : Int) : List Int := match aget N x with
  | some p => p.2
  | none => []
theorem rows_split {x : Int} {s : Value} {xs : List Int} : ∀ {N : List (Int × Nbr)}, aget N x = some (s, xs) → ∃ G, Rows N = RowI s xs * G ∧ ∀ s' xs', Rows (aput N x (s', xs')) = RowI s' xs' * G
  | [], h => by cases h
  | (a, t, ys) :: N, h => by
    unfold aget at h
    by_cases e : a = x
    · rw [if_pos e] at h
      cases h
      exact ⟨Rows N, rfl, fun s' xs' => by simp only [aput, if_pos e, Rows]⟩
    · rw [if_neg e] at h
      obtain ⟨G, h1, h2⟩ := rows_split h
      refine ⟨RowI t ys * G, ?_, fun s' xs' => ?_⟩
      · simp only [Rows, h1]; ac_rfl
      · simp only [aput, if_neg e, Rows, h2]; ac_rfl
theorem rows_new {x : Int} {s : Value} {xs : List Int} {N : List (Int × Nbr)} (h : aget N x = none) : Rows (aput N x (s, xs)) = RowI s xs * Rows N := by
  rw [aput_none h]
  induction N with
  | nil => simp only [List.nil_append, Rows]
  | cons p N ih =>
    obtain ⟨a, t, ys⟩ := p
    have h' : aget N x = none := by
      unfold aget at h
      by_cases e : a = x
      · rw [if_pos e] at h; cases h
      · rw [if_neg e] at h; exact h
    simp only [List.cons_append, Rows, ih h']
    ac_rfl
theorem rows_reads {x : Int} {s : Value} {xs : List Int} {N : List (Int × Nbr)} {F : Asn} {w : World} (h : aget N x = some (s, xs)) (hl : xs.length ≤ 1000000) (H : Sat (Rows N * F) w) : ReadsI (Rows N * F) s xs := by
  obtain ⟨G, h1, _⟩ := rows_split h
  rw [h1, star_assoc] at H ⊢
  exact Reads.of_row H hl
theorem met_get (M : List Int) (v : Int) : aget (M.map fun x => (x, true)) v = if v ∈ M then some true else none := by
  induction M with
  | nil => rfl
  | cons a M ih =>
    simp only [List.map_cons, aget, ih, List.mem_cons]
    by_cases e : a = v
    · simp [e]
    · have : v ≠ a := fun q => e q.symm
      simp [e, this]
theorem met_put {M : List Int} {v : Int} (h : v ∉ M) : aput (M.map fun x => (x, true)) v true = (M ++ [v]).map fun x => (x, true) := by
  rw [aput_none (by rw [met_get, if_neg h])]
  simp
theorem Tryz.zeroInts (w : World) : (zeroValue 26).run Tryz.prog w = .ok (.slice none 0 0) w := by kernel_rfl
theorem Tryz.zeroBool (w : World) : (zeroValue 4).run Tryz.prog w = .ok (.bool false) w := by kernel_rfl
theorem look_met {mb : Nat} {M : List Int} {F : Asn} {w : World} (H : Sat (MetAt mb M * F) w) (v : Int) {d : Bool} (hd : d = decide (v ∈ M)) :
    (Instr.lookup 64 (.map (some mb)) (.int .i64 v) false).run Tryz.prog w = .ok (.bool d) w := by
  have := run_lookup (P := Tryz.prog) (T := 64) intKey Tryz.underlying64 Tryz.underlying3 (Tryz.zeroBool w) H v false
  rw [met_get] at this
  rw [this, hd]
  by_cases h : v ∈ M <;> simp [h]
theorem look_near {nb : Nat} {N : List (Int × Nbr)} {F : Asn} {w : World} (H : Sat (NearAt nb N * F) w) (v : Int) :
    (Instr.lookup 99 (.map (some nb)) (.int .i64 v) false).run Tryz.prog w = .ok (((aget N v).map evN).getD (.slice none 0 0)) w := by
  have := run_lookup (P := Tryz.prog) (T := 99) intKey Tryz.underlying99 Tryz.underlying3 (Tryz.zeroInts w) H v false
  rw [this]
  rfl
set_option maxRecDepth 100000 in
set_option maxHeartbeats 4000000 in
theorem walk_any (l : List Pr) (U : List Int) (hU : ∀ x y, y ∈ Gr.adj l x → y ∈ U) (nb mb : Nat) (N : List (Int × Nbr)) (hN : ∀ x, nget N x = Gr.adj l x) (hNl : ∀ x, (Gr.adj l x).length ≤ 1000000) (F : Asn) :
    ∀ (n : Nat) (M : List Int) (v : Int) (w : World) (R : Ending → World → Prop), M.Nodup → v ∈ U → Gr.unmet U M ≤ n → Sat (MetAt mb M * (NearAt nb N * (Rows N * F))) w →
      (∀ M' w', Gr.Post l M v M' → Sat (MetAt mb M' * (NearAt nb N * (Rows N * F))) w' → Io w w' → R (.returned (.tuple #[])) w') →
      Calls Tryz.prog 59 #[.map (some nb), .int .i64 v, .map (some mb)] w R := by
  intro n
  induction n with
  | zero =>
    intro M v w R hn hv hm H h
    have hvM : v ∈ M := by
      refine Decidable.byContradiction fun k => ?_
      have := Gr.unmet_lt (U := U) (M := M) (Mi := M ++ [v]) hv k (fun x hx => List.mem_append_left _ hx) (by simp)
      omega
    have e := look_met H v (d := true) (decide_eq_true hvM).symm
    have fin := h M w (Gr.post_there hn hvM) H (Io.refl w)
    clear h
    go_enter Tryz.func59, Tryz.ntmps59
    go_wp2_with fail
    refine bodyPost_ret (results_none rfl _ _ _) rfl ?_
    exact fin
  | succ n ih =>
    intro M v w R hn hv hm H h
    by_cases hvM : v ∈ M
    · have e := look_met H v (d := true) (decide_eq_true hvM).symm
      have fin := h M w (Gr.post_there hn hvM) H (Io.refl w)
      clear h ih
      go_enter Tryz.func59, Tryz.ntmps59
      go_wp2_with fail
      refine bodyPost_ret (results_none rfl _ _ _) rfl ?_
      exact fin
    · have e := look_met H v (d := false) (decide_eq_false hvM).symm
      have HH := Lib.hid h
      have IH := Lib.hid ih
      have HM := Lib.hid (fun Mi (h1 : ∀ x ∈ M, x ∈ Mi) (h2 : v ∈ Mi) => Gr.unmet_lt (U := U) hv hvM h1 h2)
      obtain ⟨s, xs, hlook, hxs, hrd⟩ : ∃ s xs, (∀ w', Sat (NearAt nb N * (Rows N * F)) w' → (Instr.lookup 99 (.map (some nb)) (.int .i64 v) false).run Tryz.prog w' = .ok s w') ∧ Hid (xs = Gr.adj l v) ∧ ReadsI (Rows N * F) s xs := by
        have h1 := hN v
        unfold nget at h1
        cases hg : aget N v with
        | none =>
          rw [hg] at h1
          exact ⟨.slice none 0 0, [], fun w' H' => by rw [look_near H' v, hg]; rfl, Lib.hid h1, ⟨none, 0, rfl, by simp, .inl rfl⟩⟩
        | some p =>
          rw [hg] at h1
          obtain ⟨s, xs⟩ := p
          simp only at h1
          exact ⟨s, xs, fun w' H' => by rw [look_near H' v, hg]; rfl, Lib.hid h1, rows_reads hg (by rw [h1]; exact hNl v) H.right.right⟩
      obtain ⟨sa, sc, rfl, sm⟩ := readsI_len hrd
      have HV := Lib.hid (fun k hk => readsI_get hrd k hk)
      have HL := Lib.hid hlook
      have HS := Lib.hid (Gr.mid_start (l := l) hn hvM)
      have HP := Lib.hid (met_put hvM)
      clear h ih hlook hrd
      go_enter Tryz.func59, Tryz.ntmps59
      go_wp2_with (at_mapUpdate; refine wpList_update_sl intKey Tryz.underlying64 Tryz.underlying3 rfl (.tmp 11) (.tmp 12) (.const (.bool true)) rfl rfl v rfl true rfl H ?_; intro w1 H1 I1; rw [HP.out] at H1; have e2 := HL.out w1 H1.right)
      clear e e2 H
      go_loopw [17] (fun x wr => ∃ (k : Nat) (Mi : List Int), k ≤ xs.length ∧ x = .int .i64 (k : Int) ∧ Hid (Gr.Mid l M v k Mi) ∧ Sat (MetAt mb Mi * (NearAt nb N * (Rows N * F))) wr ∧ Io w wr) (fun x _ => xs.length - (intOf x).toNat)
      case atStart => exact ⟨0, _, by omega, rfl, HS, H1, I1⟩
      case round =>
        obtain ⟨k, Mi, hk, rfl, hmid, Hk, Ik⟩ := hrel
        clear H1 I1
        by_cases hlt : k < xs.length
        · have hlti : (k : Int) < (xs.length : Int) := by omega
          have hk0 : (0 : Int) ≤ (k : Int) := by omega
          obtain ⟨b, off, y, rfl, hy, hc⟩ := HV.out k hlt
          have c0 := hc _ Hk.right.right
          have hyl : k < (Gr.adj l v).length := by rw [← hxs.out]; exact hlt
          have hya : (Gr.adj l v)[k] = y := by rw [← hy]; congr 1; exact hxs.out.symm
          have hyU : Hid (y ∈ U) := Lib.hid (hU v y (hya ▸ List.getElem_mem hyl))
          have hun : Hid (Gr.unmet U Mi ≤ n) := Lib.hid (by have := HM.out Mi hmid.out.1 hmid.out.2.1; omega)
          have hnd : Hid Mi.Nodup := Lib.hid hmid.out.2.2.2.2.2
          have hst : Hid (∀ M', Gr.Post l Mi y M' → Gr.Mid l M v (k + 1) M') := Lib.hid (fun M' hp => Gr.mid_step hmid.out hyl (hya ▸ hp))
          clear hc hy hya hmid
          go_wp2_with (go_at_call 59; refine IH.out Mi y _ _ hnd.out hyU.out hun.out Hk ?_; intro M2 w2 hp2 H2 I2; replace hp2 := Lib.hid hp2)
          go_roundw
          case rel => exact ⟨k + 1, M2, by omega, by go_num, Lib.hid (hst.out M2 hp2.out), H2, Ik.trans I2⟩
          case measure => simp [intOf]; omega
        · obtain rfl : k = xs.length := by omega
          have hge : ¬ (xs.length : Int) < (xs.length : Int) := by omega
          have hp : Hid (Gr.Post l M v Mi) := Lib.hid (Gr.mid_end hmid.out hvM (by rw [← hxs.out]; exact Nat.le_refl _))
          clear HV hmid
          go_wp2_with fail
          go_end0
          exact HH.out _ _ hp.out Hk Ik
end Go.Proofs.YtabpgejjnphfcaaGreat
