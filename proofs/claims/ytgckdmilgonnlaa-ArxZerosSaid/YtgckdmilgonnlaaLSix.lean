/- Bounds of numbers of kinds. -/
import Derived.OpenShut
import Derived.WalkKit
namespace Go.Proofs.Ytgckdmilgonnlaa
open Go.RowKit
theorem wf64 {x : Int} (h : (Lit.int .u64 x).wf = true) : 0 ≤ x ∧ x < 18446744073709551616 := by have := bounds_u64 h; omega
theorem wf32 {x : Int} (h : (Lit.int .u32 x).wf = true) : 0 ≤ x ∧ x < 4294967296 := by have := bounds_u32 h; omega
theorem wf8 {x : Int} (h : (Lit.int .u8 x).wf = true) : 0 ≤ x ∧ x < 256 := by have := bounds_u8 h; omega
theorem wfi {x : Int} (h : (Lit.int .i64 x).wf = true) : -9223372036854775808 ≤ x ∧ x < 9223372036854775808 := by have := bounds_i64 h; omega
end Go.Proofs.Ytgckdmilgonnlaa
