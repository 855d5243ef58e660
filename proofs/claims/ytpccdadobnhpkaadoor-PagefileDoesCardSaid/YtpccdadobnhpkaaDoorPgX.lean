/-
  The document's example of a page, by its walk. It proves no statement by itself.
-/
import Derived.Test.YtpccdadobnhpkaaDoorPgI
namespace Go.Proofs.YtpccdadobnhpkaaDoor
open Go.RowKit
set_option linter.unusedSimpArgs false
set_option linter.unusedVariables false

def ab : ByteArray := ⟨#[97, 98]⟩
def abS : ByteArray := tx (pgBytes 7 1 ab)
theorem ab_rest : pgRest 7 1 ab = [0, 0, 0, 7, 1, 0, 0, 2, 0, 0, 0, 0, 97, 98, 0] ++ noughts 237 := by kernel_rfl
theorem ab_fits : fits 4 7 = true := by decide
theorem ab_size : abS.size = 256 := by unfold abS; rw [tx_size, pgBytes_length (by decide)]
theorem ab_open : openV 7 abS = .tuple #[.int .u8 1, .string ⟨#[97, 98]⟩, .int .i64 0] := by
  have : pgOpen 7 abS = some (1, ab) := pgOpen_iff.2 ⟨by decide, ab_fits, rfl⟩
  unfold openV
  rw [this]
  rfl
theorem ab_not : openV 8 abS = .tuple #[.int .u8 0, .string ByteArray.empty, .int .i64 3] := by
  have : pgOpen 8 abS = none := by
    cases ho : pgOpen 8 abS with
    | none => rfl
    | some x =>
      obtain ⟨k, b⟩ := x
      obtain ⟨hb, _, e⟩ := pgOpen_iff.1 ho
      have e2 : pgBytes 7 1 ab = pgBytes 8 k b := tx_inj e
      have e3 : sl (pgBytes 7 1 ab) 4 8 = sl (pgBytes 8 k b) 4 8 := by rw [e2]
      rw [pg_4 (by decide), pg_4 hb] at e3
      exact absurd e3 (by decide)
  unfold openV
  rw [this]
theorem ab_cut : abS.extract 4 19 = ⟨#[0, 0, 0, 7, 1, 0, 0, 2, 0, 0, 0, 0, 97, 98, 0]⟩ := by
  apply ByteArray.ext
  apply Array.ext'
  rw [sl_ext]
  unfold abS
  rw [tx_list]
  unfold pgBytes
  rw [ab_rest]
  exact sl_piece _ _ _ 4 19 (be_length 4 _) rfl
theorem ab_chk : chkB abS = true := chk_bytes (by decide)

section
variable {F : Asn} {w : World} {R : Ending → World → Prop}
theorem seal_any (hv : Hv F) (H : Sat F w) (id : Int) (kind : UInt8) (body : ByteArray) (hm : body.size ≤ 9223372036854775807)
    (h : ∀ w', Sat F w' → Io w w' → R (.returned (.tuple #[.string (sealS id kind body), .int .i64 (sealE id body)])) w') :
    Calls Tryd.prog 34 #[.int .i64 id, .int .u8 (kind.toNat : Int), .string body] w R := by
  by_cases hb : 240 < body.size
  · have e : sealE id body = 50 := by unfold sealE; rw [if_pos hb]
    have e2 : sealS id kind body = ByteArray.empty := by unfold sealS; rw [e]; rfl
    rw [e, e2] at h
    exact seal_long id kind body hb hm (h w H (Io.refl w))
  · cases hi : fits 4 id with
    | false =>
      have e : sealE id body = 1 := by unfold sealE; rw [if_neg hb, hi]; rfl
      have e2 : sealS id kind body = ByteArray.empty := by unfold sealS; rw [e]; rfl
      rw [e, e2] at h
      exact seal_id id kind body (by omega) hi H h
    | true =>
      have e : sealE id body = 0 := by unfold sealE; rw [if_neg hb, hi]; rfl
      have e2 : sealS id kind body = tx (pgBytes id kind body) := by unfold sealS; rw [if_pos e]
      rw [e, e2] at h
      exact seal_ok hv id kind body (by omega) hi H h