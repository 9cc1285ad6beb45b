import Derived.WalkKit
import Derived.ProofKit
import Derived.OpenShut
import Derived.Lib.Hide
namespace Go.Fol
open Go
theorem run_min2 {P : Program} {w : World} {T : Array TypeId} {X : TypeId} {k k' : IntKind} {a b : Int} :
    (Builtin.min_ T X #[.int k a, .int k' b]).run P w = .ok (.int k (min a b)) w := by
  rw [run_min_int2]; congr 2; split <;> omega
theorem run_max2 {P : Program} {w : World} {T : Array TypeId} {X : TypeId} {k k' : IntKind} {a b : Int} :
    (Builtin.max_ T X #[.int k a, .int k' b]).run P w = .ok (.int k (max a b)) w := by
  rw [run_max_int2]; congr 2; split <;> omega
theorem ret_int {k : IntKind} {a b : Int} (h : a = b) : Ending.returned (.int k a) = .returned (.int k b) := by rw [h]
theorem ret2_int {a b a' b' : Int} (h : a = b) (h' : a' = b') : Ending.returned (.tuple #[.int .i64 a, .int .i64 a']) = .returned (.tuple #[.int .i64 b, .int .i64 b']) := by rw [h, h']
end Go.Fol
