/- Runs of the reckoner for this claim. -/
import Derived.Test.YtdacnpghgoepdaaGreatDoorVd08
/- SchemaDouble: runs. (By program.) -/
namespace Go.Vd
theorem db13true : okB (evCall (mkE sums4.get) 20000 3 [.int .i64 (.ofNat 13), .bool true] (heap0 ngN)) = true := by kernel_rfl
theorem db14false : okB (evCall (mkE sums4.get) 20000 3 [.int .i64 (.ofNat 14), .bool false] (heap0 ngN)) = true := by kernel_rfl
theorem db14true : okB (evCall (mkE sums4.get) 20000 3 [.int .i64 (.ofNat 14), .bool true] (heap0 ngN)) = true := by kernel_rfl
theorem db15false : okB (evCall (mkE sums4.get) 20000 3 [.int .i64 (.ofNat 15), .bool false] (heap0 ngN)) = true := by kernel_rfl
theorem db15true : okB (evCall (mkE sums4.get) 20000 3 [.int .i64 (.ofNat 15), .bool true] (heap0 ngN)) = true := by kernel_rfl
theorem db16false : okB (evCall (mkE sums4.get) 20000 3 [.int .i64 (.ofNat 16), .bool false] (heap0 ngN)) = true := by kernel_rfl
theorem db16true : okB (evCall (mkE sums4.get) 20000 3 [.int .i64 (.ofNat 16), .bool true] (heap0 ngN)) = true := by kernel_rfl
theorem db17false : okB (evCall (mkE sums4.get) 20000 3 [.int .i64 (.ofNat 17), .bool false] (heap0 ngN)) = true := by kernel_rfl
theorem db17true : okB (evCall (mkE sums4.get) 20000 3 [.int .i64 (.ofNat 17), .bool true] (heap0 ngN)) = true := by kernel_rfl
end Go.Vd
