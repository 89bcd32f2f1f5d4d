/- The reckoner and what it is asked: part 8. -/
import Derived.KernelRfl
import Derived.Test.YtdacnpghgoepdaaGreatDoorVd06
/- A closed call, run by the kernel. -/
namespace Go.Vd
def al10 : Case := ⟨[], [], .bool true, []⟩
theorem al10_ok : CaseOK (mkE sums3.get) 10 ngN al10 := ⟨by kernel_rfl, by kernel_rfl, 20000, by kernel_rfl⟩
end Go.Vd
