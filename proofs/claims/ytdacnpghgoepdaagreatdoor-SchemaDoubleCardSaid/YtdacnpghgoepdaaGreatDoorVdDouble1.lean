/- Runs of the reckoner for this claim. -/
import Derived.Test.YtdacnpghgoepdaaGreatDoorVd08
/- SchemaDouble: runs. (By program.) -/
namespace Go.Vd
theorem db4true : okB (evCall (mkE sums4.get) 20000 3 [.int .i64 (.ofNat 4), .bool true] (heap0 ngN)) = true := by kernel_rfl
theorem db5false : okB (evCall (mkE sums4.get) 20000 3 [.int .i64 (.ofNat 5), .bool false] (heap0 ngN)) = true := by kernel_rfl
theorem db5true : okB (evCall (mkE sums4.get) 20000 3 [.int .i64 (.ofNat 5), .bool true] (heap0 ngN)) = true := by kernel_rfl
theorem db6false : okB (evCall (mkE sums4.get) 20000 3 [.int .i64 (.ofNat 6), .bool false] (heap0 ngN)) = true := by kernel_rfl
theorem db6true : okB (evCall (mkE sums4.get) 20000 3 [.int .i64 (.ofNat 6), .bool true] (heap0 ngN)) = true := by kernel_rfl
theorem db7false : okB (evCall (mkE sums4.get) 20000 3 [.int .i64 (.ofNat 7), .bool false] (heap0 ngN)) = true := by kernel_rfl
theorem db7true : okB (evCall (mkE sums4.get) 20000 3 [.int .i64 (.ofNat 7), .bool true] (heap0 ngN)) = true := by kernel_rfl
theorem db8false : okB (evCall (mkE sums4.get) 20000 3 [.int .i64 (.ofNat 8), .bool false] (heap0 ngN)) = true := by kernel_rfl
theorem db8true : okB (evCall (mkE sums4.get) 20000 3 [.int .i64 (.ofNat 8), .bool true] (heap0 ngN)) = true := by kernel_rfl
end Go.Vd
