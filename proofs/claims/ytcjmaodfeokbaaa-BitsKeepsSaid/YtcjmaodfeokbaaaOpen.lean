/- Arguments opened: what a datum that was read says of its value. -/
import Derived.Test.YtcjmaodfeokbaaaRows
import Derived.Test.YtcjmaodfeokbaaaWords
import Derived.Test.YtcjmaodfeokbaaaMem
import Derived.ProofKit
import Derived.OpenShut
namespace Go.Proofs.Ytcjmaodfeokbaaa
open Go.ChangeShapes Go.WideShapes Go.RowKit Words

section
variable {H : Type} {enc : TypeId × Value → H} {P : Program} {w : World} {base b : Nat} {spare : Nat → Bool} {held : Bool} {r : Reach}
theorem open_word {t : TypeId} {v : Value} {d : DataW H} {ps : List MemPlace} (ht : P.underlying t = some (.int .u64)) (hv : Value.okWide P w r b t v) (h : DataW.Trod enc P w base spare held t v d ps) :
    ∃ x : BitVec 64, v = .int .u64 (U x) := by
  obtain ⟨a, rfl, _, _, hw⟩ := open_int ht hv h
  obtain ⟨x, rfl⟩ := U_of a hw
  exact ⟨x, rfl⟩
theorem i64_range {n : Int} (h : (Lit.int .i64 n).wf = true) : -9223372036854775808 ≤ n ∧ n ≤ 9223372036854775807 := by
  simp [Lit.wf, IntKind.min, IntKind.max, IntKind.signed, IntKind.bits] at h
  omega
theorem open_i64 {t : TypeId} {v : Value} {d : DataW H} {ps : List MemPlace} (ht : P.underlying t = some (.int .i64)) (hv : Value.okWide P w r b t v) (h : DataW.Trod enc P w base spare held t v d ps) :
    ∃ n : Int, v = .int .i64 n ∧ -9223372036854775808 ≤ n ∧ n ≤ 9223372036854775807 := by
  obtain ⟨a, rfl, _, _, hw⟩ := open_int ht hv h
  exact ⟨a, rfl, i64_range hw⟩
end
end Go.Proofs.Ytcjmaodfeokbaaa
