/-
  Equality of positions.
-/
import Derived.Test.YtjdjcjhdaedakaaBase
import Derived.Laws.StructEq
namespace Go.Proofs.Ytjdjcjhdaedakaa
open Go.RowKit

theorem eqPos (a b c a' b' c' : Int) (w : World) : (Op.equalIn 10000 23 (.agg #[.int .i64 a, .int .i64 b, .int .i64 c]) (.agg #[.int .i64 a', .int .i64 b', .int .i64 c'])).run Try.prog w = .ok (a == a' && (b == b' && c == c')) w := by
  have hS : Try.prog.underlying 23 = some (.struct (Try.prog.fieldsOf 23)) := by kernel_rfl
  rw [show (10000 : Nat) = 9999 + 1 from rfl, run_equalIn_agg w 9999 23 _ _ hS (by kernel_rfl)]
  simp only [Program.fieldsOf, Try.underlying23]
  go_simp
  by_cases h1 : a = a' <;> by_cases h2 : b = b' <;> by_cases h3 : c = c' <;> simp [h1, h2, h3]

@[go_sem ↓] theorem run_neqPos (a b c a' b' c' : Int) (w : World) : (binOp .neq 23 (.agg #[.int .i64 a, .int .i64 b, .int .i64 c]) (.agg #[.int .i64 a', .int .i64 b', .int .i64 c'])).run Try.prog w = .ok (.bool (!(a == a' && (b == b' && c == c')))) w := by
  rw [run_neq_struct, eqPos]; rfl
@[go_sem ↓] theorem run_eqlPos (a b c a' b' c' : Int) (w : World) : (binOp .eql 23 (.agg #[.int .i64 a, .int .i64 b, .int .i64 c]) (.agg #[.int .i64 a', .int .i64 b', .int .i64 c'])).run Try.prog w = .ok (.bool (a == a' && (b == b' && c == c'))) w := by
  rw [run_eql_struct, eqPos]; rfl

end Go.Proofs.Ytjdjcjhdaedakaa
