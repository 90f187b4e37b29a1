/- Part 7 of the proof: what these functions do. -/
import Derived.Test.YtlkgkfgkiidhdaaDoorVl6
namespace Go.Proofs.YtlkgkfgkiidhdaaDoor.Mir
open Go
set_option maxHeartbeats 8000000
set_option maxRecDepth 20000
theorem nO (G : aB) (k : Nat) : alembiclaw20_LiveChain.f G (k + 300) [.int .i64 0, .bool false] [] = some (.bool true, []) := by kernel_rfl
theorem pZ (G : aB) (k : Nat) : alembiclaw20_LiveChain.f G (k + 300) [.int .i64 4, .bool true] [] = some (.bool true, []) := by kernel_rfl
theorem oH (G : aB) (k : Nat) : alembiclaw20_LiveChain.f G (k + 300) [.int .i64 8, .bool false] [] = some (.bool true, []) := by kernel_rfl
theorem nR (G : aB) (k : Nat) : alembiclaw20_LiveChain.f G (k + 300) [.int .i64 12, .bool true] [] = some (.bool true, []) := by kernel_rfl
theorem mB (G : aB) (k : Nat) : alembiclaw20_LiveChain.f G (k + 300) [.int .i64 16, .bool false] [] = some (.bool true, []) := by kernel_rfl
end Go.Proofs.YtlkgkfgkiidhdaaDoor.Mir
