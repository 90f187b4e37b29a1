/- Part 10 of the proof: what these functions do. -/
import Derived.Test.YtlkgkfgkiidhdaaDoorVl6
namespace Go.Proofs.YtlkgkfgkiidhdaaDoor.Mir
open Go
set_option maxHeartbeats 8000000
set_option maxRecDepth 20000
theorem pW (G : aB) (k : Nat) : alembiclaw20_LiveChain.f G (k + 300) [.int .i64 1, .bool true] [] = some (.bool true, []) := by kernel_rfl
theorem oD (G : aB) (k : Nat) : alembiclaw20_LiveChain.f G (k + 300) [.int .i64 5, .bool false] [] = some (.bool true, []) := by kernel_rfl
theorem qE (G : aB) (k : Nat) : alembiclaw20_LiveChain.f G (k + 300) [.int .i64 9, .bool true] [] = some (.bool true, []) := by kernel_rfl
theorem lY (G : aB) (k : Nat) : alembiclaw20_LiveChain.f G (k + 300) [.int .i64 13, .bool false] [] = some (.bool true, []) := by kernel_rfl
theorem nW (G : aB) (k : Nat) : alembiclaw20_LiveChain.f G (k + 300) [.int .i64 17, .bool true] [] = some (.bool true, []) := by kernel_rfl
end Go.Proofs.YtlkgkfgkiidhdaaDoor.Mir
