/- Part 11 of the proof: what these functions do. -/
import Derived.Test.YtlkgkfgkiidhdaaDoorVl6
namespace Go.Proofs.YtlkgkfgkiidhdaaDoor.Mir
open Go
set_option maxHeartbeats 8000000
set_option maxRecDepth 20000
theorem oA (G : aB) (k : Nat) : alembiclaw20_LiveChain.f G (k + 300) [.int .i64 2, .bool false] [] = some (.bool true, []) := by kernel_rfl
theorem qB (G : aB) (k : Nat) : alembiclaw20_LiveChain.f G (k + 300) [.int .i64 6, .bool true] [] = some (.bool true, []) := by kernel_rfl
theorem lV (G : aB) (k : Nat) : alembiclaw20_LiveChain.f G (k + 300) [.int .i64 10, .bool false] [] = some (.bool true, []) := by kernel_rfl
theorem nT (G : aB) (k : Nat) : alembiclaw20_LiveChain.f G (k + 300) [.int .i64 14, .bool true] [] = some (.bool true, []) := by kernel_rfl
theorem mD (G : aB) (k : Nat) : alembiclaw20_LiveChain.f G (k + 300) [.int .i64 18, .bool false] [] = some (.bool true, []) := by kernel_rfl
end Go.Proofs.YtlkgkfgkiidhdaaDoor.Mir
