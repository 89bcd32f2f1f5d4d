/- chancerylaw19.ConfigOnce answers true for every integer, and nothing that was there before is changed. Conditions: none but the row's own (the listed variables read as listed, which the card ties to the program's text). -/
import Derived.Test.YtdacnpghgoepdaaGreatDoorCards
import Derived.Test.YtdacnpghgoepdaaGreatDoorTie
import Derived.ProofKit
import Derived.OpenShut
import Derived.Deep.DeepHandedRow
import Derived.Shelf.Vars
import Derived.Lay
import Derived.SevenTiedAt
import Derived.Test.YtdacnpghgoepdaaGreatDoorVdOnce
/- ConfigOnce: the claim. -/
namespace Go.Proofs.YtdacnpghgoepdaaGreatDoor
open Go.ChangeShapes Go.WideShapes Go.ChangeAt Go.RowKit Go.Vd
set_option maxRecDepth 100000

theorem own : ownKnob Tryz.prog.godebug = none := by kernel_rfl
theorem maxLenCell {W : World} (h : W.ShapedOpen Tryz.prog) : ∃ m, W.cell? ⟨0, 0, none⟩ = some (.int .i64 m) :=
  cell_of_shapedOpen_int (t := 3) (zero := #[.int .i64 0]) h (of_decide_eq_true (by kernel_rfl)) (by kernel_rfl) rfl (by kernel_rfl) (by kernel_rfl) (by kernel_rfl)

theorem once_law (k : Int) (W : World) (h : W.ShapedOpen Tryz.prog) : Calls Tryz.prog 4 #[.int .i64 k] W (TrueStays W) := by
  obtain ⟨r, he, h', rfl⟩ := once_run k
  obtain ⟨n, he⟩ := he.exists
  exact law_of_ev sums4OK (args := [.int .i64 k]) rfl he (fun _ _ => callFunc_enter Tryz.func4 (by kernel_rfl) rfl) W (maxLenCell h)

theorem once_contract (H : Type) (enc : TypeId × Value → H) (W : World) (args : Array Value) (ds gs : List (DataW H)) (before : List MemPlace) {base : Nat}
    (hval : ∀ (j : Nat) t v, Tryz.f4.params[j]? = some t → args[j]? = some v → Value.okWide Tryz.prog W .any base t v)
    (hW : DataW.Whole enc Tryz.prog Tryz.f4.params.toList Rows.configOnceSpec.vars false W args.toList ds gs before) (hS : W.ShapedOpen Tryz.prog) :
    Calls Tryz.prog 4 args W fun e W' => ∃ v, e = .returned v ∧ Rows.configOnceSpec.post enc Tryz.prog Tryz.f4 false true false false W args v W' := by
  have hW' := hW
  obtain ⟨p, q, hA0, hV, rfl, _, _⟩ := hW
  have hA : DataW.TrodAll enc Tryz.prog W 0 (fun _ => true) true Tryz.f4.params.toList args.toList ds p := hA0
  rw [Tryz.params4] at hA hval
  obtain ⟨v0, d0, hargs, rfl, h0⟩ := trodAll_one hA
  obtain rfl : args = #[v0] := by cases args; simp_all
  obtain ⟨rfl, rfl⟩ := trodVars_none hV
  obtain ⟨x, rfl, rfl, rfl, wx⟩ := open_int Tryz.underlying3 (hval 0 3 v0 rfl rfl) h0
  simp only [List.append_nil] at hW'
  refine (once_law x W hS).mono fun e W' hb => ?_
  obtain rfl := hb.1
  exact ⟨_, rfl, _, _, _, [], [], [], hW', trodAll_mk1 (shut_bool Tryz.underlying4 _), trodAll_mk1 (shut_int Tryz.underlying3 wx), rfl, TrueStays.frame hb _, fun h => by cases h⟩

theorem once_met (os : Os) : laidMetH Tryz.prog Rows.configOnceRow.laid ((World.laidAll Tryz.prog os Rows.configOnceRow.laid).forCall (fun _ _ => 0) ⟨#[], #[.int .i64 0], []⟩).memory := by
  rw [MakeChecks.laidMetH_plain _ _ _ (by kernel_rfl)]
  exact laidMet_laidAll _ (by kernel_rfl) (by kernel_rfl)
theorem once_reads (os : Os) {H : Type} (enc : TypeId × Value → H) : ∃ places, DataW.whole enc Tryz.prog ((World.laidAll Tryz.prog os Rows.configOnceRow.laid).forCall (fun _ _ => 0) ⟨#[], #[.int .i64 0], []⟩).memory Tryz.f4.params.toList Rows.configOnceSpec.vars false #[Value.int .i64 0].toList 8 = some ([.lit (.int .i64 0)], [], places) :=
  ⟨[], by kernel_rfl⟩

theorem once_lifted (os : Os) (started : os.Started) (H : Type) (enc : TypeId × Value → H) (F : Stop.Interp) :
    ReturnsInHanded {} Tryz.checked os 4 .any ((OpenSpec.ofChange Rows.configOnceSpec).preRow enc Tryz.prog Tryz.f4 Rows.configOnceRow.domain false Rows.configOnceRow.laid) (((OpenSpec.ofChange Rows.configOnceSpec).at F).post enc Tryz.prog Tryz.f4 false true false false) := by
  obtain ⟨places, hx⟩ := once_reads os enc
  have hok : Input.okWideB Tryz.prog ((World.laidAll Tryz.prog os Rows.configOnceRow.laid).forCall (fun _ _ => 0) ⟨#[], #[.int .i64 0], []⟩) 4 ⟨#[], #[.int .i64 0], []⟩ = true := by kernel_rfl
  refine returnsInHanded_of_row (C := Tryz.checked) (s := OpenSpec.ofChange Rows.configOnceSpec) own started (by kernel_rfl) Tryz.func4
    ⟨World.laidAll Tryz.prog os Rows.configOnceRow.laid, fun _ _ => 0, ⟨#[], #[.int .i64 0], []⟩, World.laidAll_os _ _ _, World.shaped_of_ZipB (by kernel_rfl) (by kernel_rfl), (Input.okWide_of_okWideB (base := 0) hok).1, (Input.okWide_of_okWideB hok).2,
      OpenSpec.preRow_of_cond 8 hx (by kernel_rfl) (fun k hk => by cases hk) (by kernel_rfl) (once_met os), by
        simp only [Assume.holds]
        exact ⟨by simp, by simp, fun _ => Modest.zero, by simp, by simp⟩⟩ ?_
  intro W base args ds gs before hval hW _ _ _ _ hS _
  exact once_contract H enc W args ds gs before hval hW hS

theorem once_said : Rows.ConfigOnceSaid :=
  OpenClaim.holds_of_cond 4 Tryz.f4 rfl rfl rfl rfl rfl rfl rfl ⟨rfl, rfl, rfl, rfl, rfl⟩ rfl rfl rfl rfl rfl (by kernel_rfl) Tryz.func4 (by kernel_rfl)
    (of_decide_eq_true (by kernel_rfl)) (by unfold Func.isWrapper; first | (rw [if_pos (by decide +kernel)]; kernel_rfl) | (rw [if_neg (by decide +kernel)]; exact ⟨rfl, rfl⟩))
    (fun os started H enc _ F => by rw [OpenClaim.pre_eq_preRow]; exact once_lifted os started H enc F)

theorem once_plain (f : FuncId) (fn : Func) (hf : Tryz.pinned.checked.prog.funcNamed Rows.configOnceRow.func = some f) (hfn : Tryz.pinned.checked.prog.funcs[f]? = some fn) :
    true = Tryz.pinned.checked.prog.looks [] ∧ ∀ (j : Nat) t, fn.params[j]? = some t → Tryz.pinned.checked.prog.wantsStandIn t = false := by
  obtain rfl : f = 4 := Option.some.inj ((show Tryz.prog.funcNamed Rows.configOnceRow.func = some 4 by kernel_rfl).symm.trans hf) |>.symm
  obtain rfl : fn = Tryz.f4 := (Option.some.inj (Tryz.func4.symm.trans hfn)).symm
  refine ⟨by kernel_rfl, fun j t ht => ?_⟩
  rw [Tryz.params4] at ht
  obtain rfl : t = 3 := by simpa using Array.mem_of_getElem? ht
  exact (show Tryz.prog.wantsStandIn 3 = false by kernel_rfl)

theorem once_card : Rows.ConfigOnceCardSaid :=
  Claim7.holds_tied_plain_at .later [] _ _ _ _ once_said (fun _ h => by cases h) (by kernel_rfl) (fun _ h => by cases h) configOnce_row_tie rfl ⟨rfl, rfl⟩ (by kernel_rfl) rfl once_plain (by kernel_rfl)
#print axioms once_card
end Go.Proofs.YtdacnpghgoepdaaGreatDoor
