/-
  Facts on reel's types.
-/
import Derived.Test.YtmpgcilppjkhoaaGreatDoorReelA
namespace Go.Proofs.YtmpgcilppjkhoaaGreatDoor
open Go.RowKit Go.Mem Go.Ops Go.Cells Go.Oct Go.Reel
/-- A command of noughts. -/
def zeroOp : List Value := [.int .i64 0, .int .i64 0, .int .i64 0, .int .i64 0, .slice none 0 0, .slice none 0 0, .string (str [])]
theorem Tryz.zeroOp : (Tryz.prog.info? 39).map (·.zero) = some (some (.agg zeroOp.toArray)) := by kernel_rfl
theorem Tryz.rowOp : Row Tryz.prog 39 7 := ⟨by kernel_rfl, by kernel_rfl⟩

end Go.Proofs.YtmpgcilppjkhoaaGreatDoor
