/- Part 8 of the proof: what these functions do. -/
import Derived.Test.YtlkgkfgkiidhdaaDoorVl6
namespace Go.Proofs.YtlkgkfgkiidhdaaDoor.Mir
open Go
set_option maxHeartbeats 8000000
set_option maxRecDepth 20000
theorem pV (G : aB) (k : Nat) : alembiclaw20_LiveChain.f G (k + 300) [.int .i64 0, .bool true] [] = some (.bool true, []) := by kernel_rfl
theorem oC (G : aB) (k : Nat) : alembiclaw20_LiveChain.f G (k + 300) [.int .i64 4, .bool false] [] = some (.bool true, []) := by kernel_rfl
theorem qD (G : aB) (k : Nat) : alembiclaw20_LiveChain.f G (k + 300) [.int .i64 8, .bool true] [] = some (.bool true, []) := by kernel_rfl
theorem lX (G : aB) (k : Nat) : alembiclaw20_LiveChain.f G (k + 300) [.int .i64 12, .bool false] [] = some (.bool true, []) := by kernel_rfl
theorem nV (G : aB) (k : Nat) : alembiclaw20_LiveChain.f G (k + 300) [.int .i64 16, .bool true] [] = some (.bool true, []) := by kernel_rfl
end Go.Proofs.YtlkgkfgkiidhdaaDoor.Mir
