/- Part 12 of the proof: what these functions do. -/
import Derived.Test.YtlkgkfgkiidhdaaDoorVl6
namespace Go.Proofs.YtlkgkfgkiidhdaaDoor.Mir
open Go
set_option maxHeartbeats 8000000
set_option maxRecDepth 20000
theorem pX (G : aB) (k : Nat) : alembiclaw20_LiveChain.f G (k + 300) [.int .i64 2, .bool true] [] = some (.bool true, []) := by kernel_rfl
theorem oE (G : aB) (k : Nat) : alembiclaw20_LiveChain.f G (k + 300) [.int .i64 6, .bool false] [] = some (.bool true, []) := by kernel_rfl
theorem nP (G : aB) (k : Nat) : alembiclaw20_LiveChain.f G (k + 300) [.int .i64 10, .bool true] [] = some (.bool true, []) := by kernel_rfl
theorem lZ (G : aB) (k : Nat) : alembiclaw20_LiveChain.f G (k + 300) [.int .i64 14, .bool false] [] = some (.bool true, []) := by kernel_rfl
theorem nX (G : aB) (k : Nat) : alembiclaw20_LiveChain.f G (k + 300) [.int .i64 18, .bool true] [] = some (.bool true, []) := by kernel_rfl
end Go.Proofs.YtlkgkfgkiidhdaaDoor.Mir
