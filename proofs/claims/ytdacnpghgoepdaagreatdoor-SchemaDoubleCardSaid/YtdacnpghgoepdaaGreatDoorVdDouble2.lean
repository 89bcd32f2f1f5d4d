/- Runs of the reckoner for this claim. -/
import Derived.Test.YtdacnpghgoepdaaGreatDoorVd08
/- SchemaDouble: runs. (By program.) -/
namespace Go.Vd
theorem db9false : okB (evCall (mkE sums4.get) 20000 3 [.int .i64 (.ofNat 9), .bool false] (heap0 ngN)) = true := by kernel_rfl
theorem db9true : okB (evCall (mkE sums4.get) 20000 3 [.int .i64 (.ofNat 9), .bool true] (heap0 ngN)) = true := by kernel_rfl
theorem db10false : okB (evCall (mkE sums4.get) 20000 3 [.int .i64 (.ofNat 10), .bool false] (heap0 ngN)) = true := by kernel_rfl
theorem db10true : okB (evCall (mkE sums4.get) 20000 3 [.int .i64 (.ofNat 10), .bool true] (heap0 ngN)) = true := by kernel_rfl
theorem db11false : okB (evCall (mkE sums4.get) 20000 3 [.int .i64 (.ofNat 11), .bool false] (heap0 ngN)) = true := by kernel_rfl
theorem db11true : okB (evCall (mkE sums4.get) 20000 3 [.int .i64 (.ofNat 11), .bool true] (heap0 ngN)) = true := by kernel_rfl
theorem db12false : okB (evCall (mkE sums4.get) 20000 3 [.int .i64 (.ofNat 12), .bool false] (heap0 ngN)) = true := by kernel_rfl
theorem db12true : okB (evCall (mkE sums4.get) 20000 3 [.int .i64 (.ofNat 12), .bool true] (heap0 ngN)) = true := by kernel_rfl
theorem db13false : okB (evCall (mkE sums4.get) 20000 3 [.int .i64 (.ofNat 13), .bool false] (heap0 ngN)) = true := by kernel_rfl
end Go.Vd
