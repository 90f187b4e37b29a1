/- Part 13 of the proof: what these functions do. -/
import Derived.Test.YtlkgkfgkiidhdaaDoorVl6
namespace Go.Proofs.YtlkgkfgkiidhdaaDoor.Mir
open Go
set_option maxHeartbeats 8000000
set_option maxRecDepth 20000
theorem oB (G : aB) (k : Nat) : alembiclaw20_LiveChain.f G (k + 300) [.int .i64 3, .bool false] [] = some (.bool true, []) := by kernel_rfl
theorem qC (G : aB) (k : Nat) : alembiclaw20_LiveChain.f G (k + 300) [.int .i64 7, .bool true] [] = some (.bool true, []) := by kernel_rfl
theorem lW (G : aB) (k : Nat) : alembiclaw20_LiveChain.f G (k + 300) [.int .i64 11, .bool false] [] = some (.bool true, []) := by kernel_rfl
theorem nU (G : aB) (k : Nat) : alembiclaw20_LiveChain.f G (k + 300) [.int .i64 15, .bool true] [] = some (.bool true, []) := by kernel_rfl
theorem mE (G : aB) (k : Nat) : alembiclaw20_LiveChain.f G (k + 300) [.int .i64 19, .bool false] [] = some (.bool true, []) := by kernel_rfl
end Go.Proofs.YtlkgkfgkiidhdaaDoor.Mir
