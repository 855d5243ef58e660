/-
  Roots: the contracts once more, by cases. It proves no statement by itself.
-/
import Derived.Test.YtghpfepmkngfdaaDoorRtWk
namespace Go.Proofs.YtghpfepmkngfdaaDoor
open Go.RowKit
set_option linter.unusedSimpArgs false
set_option linter.unusedVariables false

section
variable {F : Asn} {w : World} {R : Ending → World → Prop} {s a b : ByteArray} {e p c f n : Int}

theorem enc_yes (hg : Hid (Rt.good ⟨e, p, c, f, n⟩ = true)) (es : Hid (s = tx (Rt.bytes ⟨e, p, c, f, n⟩))) (hv : Hv F) (H : Sat F w) (h : ∀ w', Sat F w' → Io w w' → R (.returned (.tuple #[.string s, .int .i64 0])) w') :
    Calls Tryd.prog 10 #[.agg #[.int .i64 e, .int .i64 p, .int .i64 c, .int .i64 f, .int .i64 n]] w R := by
  refine enc_any (r := ⟨e, p, c, f, n⟩) hv H fun w' H' I' => ?_
  rw [Rt.encS, Rt.encE, hg.out, if_pos rfl, if_pos rfl, ← es.out]
  exact h w' H' I'
theorem enc_no (hg : Hid (Rt.good ⟨e, p, c, f, n⟩ = false)) (hv : Hv F) (H : Sat F w) (h : ∀ w', Sat F w' → Io w w' → R (.returned (.tuple #[.string ⟨#[]⟩, .int .i64 1])) w') :
    Calls Tryd.prog 10 #[.agg #[.int .i64 e, .int .i64 p, .int .i64 c, .int .i64 f, .int .i64 n]] w R := by
  refine enc_any (r := ⟨e, p, c, f, n⟩) hv H fun w' H' I' => ?_
  rw [Rt.encS, Rt.encE, hg.out]
  exact h w' H' I'
/-- The numbers are a machine's. -/
def Rt.mach (r : Rt) : Prop := ∀ n ∈ r.nums, n ≤ 9223372036854775807
theorem renc_yes (hm : Rt.mach ⟨e, p, c, f, n⟩) (hg : Hid (Rt.good ⟨e, p, c, f, n⟩ = true)) (es : Hid (s = tx (Rt.bytes ⟨e, p, c, f, n⟩))) (H : Sat F w) (h : ∀ w', Sat F w' → Io w w' → R (.returned (.tuple #[.string s, .bool true])) w') :
    Calls Tryd.prog 11 #[.agg #[.int .i64 e, .int .i64 p, .int .i64 c, .int .i64 f, .int .i64 n]] w R := by
  refine renc_any (r := ⟨e, p, c, f, n⟩) H hm fun w' H' I' => ?_
  rw [Rt.encS, hg.out, if_pos rfl, ← es.out]
  exact h w' H' I'
theorem renc_no (hm : Rt.mach ⟨e, p, c, f, n⟩) (hg : Hid (Rt.good ⟨e, p, c, f, n⟩ = false)) (H : Sat F w) (h : ∀ w', Sat F w' → Io w w' → R (.returned (.tuple #[.string ⟨#[]⟩, .bool false])) w') :
    Calls Tryd.prog 11 #[.agg #[.int .i64 e, .int .i64 p, .int .i64 c, .int .i64 f, .int .i64 n]] w R := by
  refine renc_any (r := ⟨e, p, c, f, n⟩) H hm fun w' H' I' => ?_
  rw [Rt.encS, hg.out]
  exact h w' H' I'
theorem dec_of (hg : Hid (Rt.good ⟨e, p, c, f, n⟩ = true)) (es : Hid (s = tx (Rt.bytes ⟨e, p, c, f, n⟩))) : Rt.dec s = some ⟨e, p, c, f, n⟩ := by rw [es.out]; exact Rt.dec_bytes hg.out
theorem size_of (es : Hid (s = tx (Rt.bytes ⟨e, p, c, f, n⟩))) : s.size = 256 := by rw [es.out, tx_size, Rt.bytes_length]
theorem small_of (es : Hid (s = tx (Rt.bytes ⟨e, p, c, f, n⟩))) : s.size ≤ 1000000 := by rw [size_of es]; omega
end
end Go.Proofs.YtghpfepmkngfdaaDoor
