/-
  The document's pages: Open, by its walk, and the walk of PageOpens. It proves no statement by itself.
-/
import Derived.Test.YtpccdadobnhpkaaDoorPgSl
namespace Go.Proofs.YtpccdadobnhpkaaDoor
open Go.RowKit
set_option linter.unusedSimpArgs false
set_option linter.unusedVariables false

/-- What the document's Open answers. -/
def ropenV (id : Int) (s : ByteArray) : Value := match pgOpen id s with
  | some (k, b) => .tuple #[.int .u8 (k.toNat : Nat), .string b, .bool true]
  | none => .tuple #[.int .u8 0, .string ByteArray.empty, .bool false]

section
variable {F : Asn} {w : World} {R : Ending → World → Prop}
set_option maxRecDepth 100000 in
set_option maxHeartbeats 2000000 in
theorem ropen_any (H : Sat F w) (id : Int) (hid : id ≤ 9223372036854775807) (s : ByteArray) (hs : s.size ≤ 1000000)
    (h : ∀ w', Sat F w' → Io w w' → R (.returned (ropenV id s)) w') :
    Calls Tryd.prog 42 #[.int .i64 id, .string s] w R := by
  have hs' : (s.size : Int) ≤ 1000000 := by omega
  have hi1 := Lib.hid hid
  by_cases h256 : s.size = 256
  · have hq : ((s.size : Int) == 256) = true := by rw [beq_iff_eq]; omega
    have hsz : (s.size : Int) = 256 := by omega
    have zz : Hid ((s.extract 10 12).size ≤ 4) := Lib.hid (by rw [ByteArray.size_extract]; omega)
    have HH := Lib.hid h
    have kx : ∀ W, (Instr.index 9 (.string s) (.int .i64 8)).run Tryd.prog W = .ok (.int .u8 ((pgK s).toNat : Int)) W := fun W => by
      have e := run_index_string (P := Tryd.prog) W 9 s .i64 8 Tryd.underlying9
      have e8 : pgK s = s[8]'(by omega) := getD_of_lt (l := s.data.toList) (by rw [size_list]; omega)
      rw [dif_pos ⟨by omega, by omega⟩] at e
      rw [e, e8]
      rfl
    have eN : unB (s.extract 10 12) = pgN s := rfl
    have H256 := Lib.hid h256
    clear h hid hs
    by_cases hn : pgN s ≤ 240
    · have hn' : ((pgN s : Nat) : Int) ≤ 240 := by omega
      have hb : (pgB s).size ≤ 240 := by unfold pgB; rw [ByteArray.size_extract]; omega
      have hb2 : Hid ((pgB s).size ≤ 1000000) := Lib.hid (by omega)
      have HB := Lib.hid hb
      have HN := Lib.hid hn
      obtain ⟨n, en⟩ : ∃ n, Hid (n = pgN s) := ⟨_, Lib.hid rfl⟩
      have eB : Hid (s.extract 16 (16 + n) = pgB s) := Lib.hid (by rw [en.out]; rfl)
      have e8 : Hid (pgK s = s[8]'(by omega)) := Lib.hid (getD_of_lt (l := s.data.toList) (by rw [size_list]; omega))
      have H256 := Lib.hid h256
      rw [← en.out] at hn' eN
      clear hb hn kx
      go_enter Tryd.func42, Tryd.ntmps42
      go_wp2_with fail
      with_reducible refine rint_B _ zz.out ?_
      rw [eN]
      have hd : decide (240 < (n : Int)) = false := by rw [decide_eq_false_iff_not]; omega
      go_wp2_with fail
      rw [← e8.out, eB.out]
      have es : Hid (sealE id (pgB s) = 0 ↔ fits 4 id = true) := Lib.hid ⟨fun h => (seal_parts h).2, fun h => seal_of HB.out h⟩
      clear h256 e8 eN
      refine rseal_any H id hi1.out (pgK s) (pgB s) hb2.out ?_
      intro w1 H1 I1
      have fin := HH.out w1 H1 I1
      clear HH H H1 I1
      by_cases hf : fits 4 id = true
      · have x := es.out.2 hf
        have v : rsealV id (pgK s) (pgB s) = .tuple #[.string (sealS id (pgK s) (pgB s)), .bool true] := by unfold rsealV; rw [if_pos x]
        have eS : sealS id (pgK s) (pgB s) = tx (pgBytes id (pgK s) (pgB s)) := by unfold sealS; rw [if_pos x]
        have ev : ropenV id s = if tx (pgBytes id (pgK s) (pgB s)) = s then .tuple #[.int .u8 ((pgK s).toNat : Nat), .string (pgB s), .bool true] else .tuple #[.int .u8 0, .string ByteArray.empty, .bool false] := by
          unfold ropenV pgOpen
          by_cases ht : tx (pgBytes id (pgK s) (pgB s)) = s
          · rw [if_pos ⟨H256.out, HN.out, hf, ht⟩, if_pos ht]
          · rw [if_neg (fun hc => ht hc.2.2.2), if_neg ht]
        rw [v, eS]
        rw [ev] at fin
        clear v eS ev x es HN HB en eB
        have kl : (pgK s).toNat < 256 := (pgK s).toNat_lt
        have kz : (((pgK s).toNat : Nat) : Int) ≤ 255 := by omega
        clear kl
        generalize tx (pgBytes id (pgK s) (pgB s)) = t at *
        generalize pgK s = k8 at *
        generalize pgB s = b8 at *
        by_cases ht : t = s
        · have q : (t.toList == s.toList) = true := by rw [ht]; exact str_eq s
          rw [if_pos ht] at fin
          clear ht
          go_wp2_with fail
          exact bodyPost_ret (v := .tuple #[.int .u8 (k8.toNat : Nat), .string b8, .bool true]) (by simp [results, Tryd.results42, go_sem]) rfl fin
        · have q : (t.toList == s.toList) = false := str_ne ht
          rw [if_neg ht] at fin
          clear ht
          go_wp2_with fail
          exact bodyPost_ret (v := .tuple #[.int .u8 0, .string ByteArray.empty, .bool false]) (by simp [results, Tryd.results42, go_sem]; rfl) rfl fin
      · have v : rsealV id (pgK s) (pgB s) = .tuple #[.string ByteArray.empty, .bool false] := by unfold rsealV; rw [if_neg (fun h => hf (es.out.1 h))]
        have ev : ropenV id s = .tuple #[.int .u8 0, .string ByteArray.empty, .bool false] := by
          unfold ropenV pgOpen
          rw [if_neg (fun hc => hf hc.2.2.1)]
        rw [v]
        rw [ev] at fin
        clear v ev es hf HN HB en eB
        generalize pgK s = k8 at *
        generalize pgB s = b8 at *
        go_wp2_with fail
        exact bodyPost_ret (v := .tuple #[.int .u8 0, .string ByteArray.empty, .bool false]) (by simp [results, Tryd.results42, go_sem]; rfl) rfl fin
    · have hn' : 240 < ((pgN s : Nat) : Int) := by omega
      have hl : ((pgN s : Nat) : Int) < 65536 := by
        have := un_lt (s.extract 10 12).data.toList
        rw [sl_ext, sl_length _ _ _ (by rw [size_list]; omega)] at this
        have e : (256 : Nat) ^ (12 - 10) = 65536 := rfl
        rw [e, ← sl_ext] at this
        show ((un (s.extract 10 12).data.toList : Nat) : Int) < 65536
        omega
      have v : ropenV id s = .tuple #[.int .u8 0, .string ByteArray.empty, .bool false] := by
        unfold ropenV pgOpen
        rw [if_neg (fun hc => hn hc.2.1)]
      rw [v] at HH
      clear h256 hn v kx
      go_enter Tryd.func42, Tryd.ntmps42
      go_wp2_with fail
      with_reducible refine rint_B _ zz.out ?_
      rw [eN]
      generalize pgN s = n at *
      go_wp2_with fail
      exact bodyPost_ret (v := .tuple #[.int .u8 0, .string ByteArray.empty, .bool false]) (by simp [results, Tryd.results42, go_sem]; rfl) rfl (HH.out w H (Io.refl w))
  · have v : ropenV id s = .tuple #[.int .u8 0, .string ByteArray.empty, .bool false] := by
      unfold ropenV pgOpen
      rw [if_neg (fun hc => h256 hc.1)]
    have hq : ((s.size : Int) == 256) = false := by rw [beq_eq_false_iff_ne]; omega
    rw [v] at h
    have HH := Lib.hid h
    clear h256 v h hid hs
    go_enter Tryd.func42, Tryd.ntmps42
    go_wp2_with fail
    exact bodyPost_ret (v := .tuple #[.int .u8 0, .string ByteArray.empty, .bool false]) (by simp [results, Tryd.results42, go_sem]; rfl) rfl (HH.out w H (Io.refl w))
end
end Go.Proofs.YtpccdadobnhpkaaDoor
