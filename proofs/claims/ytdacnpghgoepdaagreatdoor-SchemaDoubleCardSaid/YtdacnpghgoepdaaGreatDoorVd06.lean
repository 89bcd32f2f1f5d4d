/- The reckoner and what it is asked: part 7. -/
import Derived.KernelRfl
import Derived.Test.YtdacnpghgoepdaaGreatDoorVd05
/- A closed call, run by the kernel. -/
namespace Go.Vd
def al7 : Case := ⟨[], [], .bool true, []⟩
theorem al7_ok : CaseOK (mkE sums3.get) 7 ngN al7 := ⟨by kernel_rfl, by kernel_rfl, 20000, by kernel_rfl⟩
end Go.Vd
