/- Runs of the reckoner for this claim. -/
import Derived.Test.YtdacnpghgoepdaaGreatDoorVdDouble0
import Derived.Test.YtdacnpghgoepdaaGreatDoorVdDouble1
import Derived.Test.YtdacnpghgoepdaaGreatDoorVdDouble2
import Derived.Test.YtdacnpghgoepdaaGreatDoorVdDouble3
/- SchemaDouble: the run, whatever the number. -/
namespace Go.Vd
set_option maxRecDepth 100000
theorem dbBelow (m : Nat) (u : Bool) : okB (evCall (mkE sums4.get) 20000 3 [.int .i64 (.negSucc m), .bool u] (heap0 ngN)) = true := by kernel_rfl
theorem dbAbove (n : Nat) (u : Bool) : okB (evCall (mkE sums4.get) 20000 3 [.int .i64 (.ofNat (n + 18)), .bool u] (heap0 ngN)) = true := by kernel_rfl
theorem dbAll (k : Int) (u : Bool) : okB (evCall (mkE sums4.get) 20000 3 [.int .i64 k, .bool u] (heap0 ngN)) = true := by
  cases k with
  | negSucc m => exact dbBelow m u
  | ofNat n =>
    by_cases hn : n < 18
    · match n, hn with
      | 0, _ => cases u with
        | false => exact db0false
        | true => exact db0true
      | 1, _ => cases u with
        | false => exact db1false
        | true => exact db1true
      | 2, _ => cases u with
        | false => exact db2false
        | true => exact db2true
      | 3, _ => cases u with
        | false => exact db3false
        | true => exact db3true
      | 4, _ => cases u with
        | false => exact db4false
        | true => exact db4true
      | 5, _ => cases u with
        | false => exact db5false
        | true => exact db5true
      | 6, _ => cases u with
        | false => exact db6false
        | true => exact db6true
      | 7, _ => cases u with
        | false => exact db7false
        | true => exact db7true
      | 8, _ => cases u with
        | false => exact db8false
        | true => exact db8true
      | 9, _ => cases u with
        | false => exact db9false
        | true => exact db9true
      | 10, _ => cases u with
        | false => exact db10false
        | true => exact db10true
      | 11, _ => cases u with
        | false => exact db11false
        | true => exact db11true
      | 12, _ => cases u with
        | false => exact db12false
        | true => exact db12true
      | 13, _ => cases u with
        | false => exact db13false
        | true => exact db13true
      | 14, _ => cases u with
        | false => exact db14false
        | true => exact db14true
      | 15, _ => cases u with
        | false => exact db15false
        | true => exact db15true
      | 16, _ => cases u with
        | false => exact db16false
        | true => exact db16true
      | 17, _ => cases u with
        | false => exact db17false
        | true => exact db17true
      | m + 18, h => exact absurd h (by omega)
    · obtain ⟨m, rfl⟩ : ∃ m, n = m + 18 := ⟨n - 18, by omega⟩
      exact dbAbove m u
end Go.Vd
