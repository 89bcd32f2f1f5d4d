/- Runs of the reckoner for this claim. -/
import Derived.Test.YtdacnpghgoepdaaGreatDoorVd08
/- SchemaDouble: runs. (By program.) -/
namespace Go.Vd
theorem db0false : okB (evCall (mkE sums4.get) 20000 3 [.int .i64 (.ofNat 0), .bool false] (heap0 ngN)) = true := by kernel_rfl
theorem db0true : okB (evCall (mkE sums4.get) 20000 3 [.int .i64 (.ofNat 0), .bool true] (heap0 ngN)) = true := by kernel_rfl
theorem db1false : okB (evCall (mkE sums4.get) 20000 3 [.int .i64 (.ofNat 1), .bool false] (heap0 ngN)) = true := by kernel_rfl
theorem db1true : okB (evCall (mkE sums4.get) 20000 3 [.int .i64 (.ofNat 1), .bool true] (heap0 ngN)) = true := by kernel_rfl
theorem db2false : okB (evCall (mkE sums4.get) 20000 3 [.int .i64 (.ofNat 2), .bool false] (heap0 ngN)) = true := by kernel_rfl
theorem db2true : okB (evCall (mkE sums4.get) 20000 3 [.int .i64 (.ofNat 2), .bool true] (heap0 ngN)) = true := by kernel_rfl
theorem db3false : okB (evCall (mkE sums4.get) 20000 3 [.int .i64 (.ofNat 3), .bool false] (heap0 ngN)) = true := by kernel_rfl
theorem db3true : okB (evCall (mkE sums4.get) 20000 3 [.int .i64 (.ofNat 3), .bool true] (heap0 ngN)) = true := by kernel_rfl
theorem db4false : okB (evCall (mkE sums4.get) 20000 3 [.int .i64 (.ofNat 4), .bool false] (heap0 ngN)) = true := by kernel_rfl
end Go.Vd
