/- Runs of the reckoner for this claim. -/
import Derived.Test.YtdacnpghgoepdaaGreatDoorVd08
/- ConfigNone: the run. -/
namespace Go.Vd
theorem none_run : okB (evCall (mkE sums4.get) 20000 5 [] (heap0 ngN)) = true := by kernel_rfl
end Go.Vd
