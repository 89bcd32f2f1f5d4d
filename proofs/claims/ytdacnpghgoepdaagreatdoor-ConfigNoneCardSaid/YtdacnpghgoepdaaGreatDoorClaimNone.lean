/- chancerylaw19.ConfigNone answers true, whatever the package variables hold that its row names, and nothing that was there before is changed. Conditions: none but the row's own (the listed variables read as listed, which the card ties to the program's text). -/
import Derived.Test.YtdacnpghgoepdaaGreatDoorCards
import Derived.Test.YtdacnpghgoepdaaGreatDoorTie
import Derived.ProofKit
import Derived.OpenShut
import Derived.Deep.DeepHandedRow
import Derived.Shelf.Vars
import Derived.Lay
import Derived.SevenTiedAt
import Derived.Test.YtdacnpghgoepdaaGreatDoorVdNone
/- ConfigNone: the claim. -/
namespace Go.Proofs.YtdacnpghgoepdaaGreatDoor
open Go.ChangeShapes Go.WideShapes Go.ChangeAt Go.RowKit Go.Vd
set_option maxRecDepth 100000

theorem own : ownKnob Tryz.prog.godebug = none := by kernel_rfl
theorem maxLenCell {W : World} (h : W.ShapedOpen Tryz.prog) : ∃ m, W.cell? ⟨0, 0, none⟩ = some (.int .i64 m) :=
  cell_of_shapedOpen_int (t := 3) (zero := #[.int .i64 0]) h (of_decide_eq_true (by kernel_rfl)) (by kernel_rfl) rfl (by kernel_rfl) (by kernel_rfl) (by kernel_rfl)

theorem none_law (W : World) (h : W.ShapedOpen Tryz.prog) : Calls Tryz.prog 5 #[] W (TrueStays W) :=
  law_of_run sums4OK (args := []) rfl none_run (fun _ _ => callFunc_enter Tryz.func5 (by kernel_rfl) rfl) W (maxLenCell h)

theorem none_contract (H : Type) (enc : TypeId × Value → H) (W : World) (args : Array Value) (ds gs : List (DataW H)) (before : List MemPlace)
    (hW : DataW.Whole enc Tryz.prog Tryz.f5.params.toList Rows.configNoneSpec.vars false W args.toList ds gs before) (hS : W.ShapedOpen Tryz.prog) :
    Calls Tryz.prog 5 args W fun e W' => ∃ v, e = .returned v ∧ Rows.configNoneSpec.post enc Tryz.prog Tryz.f5 false true false false W args v W' := by
  have hW' := hW
  obtain ⟨p, q, hA0, hV, rfl, _, _⟩ := hW
  have hA : DataW.TrodAll enc Tryz.prog W 0 (fun _ => true) true Tryz.f5.params.toList args.toList ds p := hA0
  rw [Tryz.params5] at hA
  obtain ⟨hargs, rfl, rfl⟩ := trodAll_nil hA
  obtain rfl : args = #[] := by cases args; simp_all
  obtain ⟨rfl, rfl⟩ := trodVars_none hV
  refine (none_law W hS).mono fun e W' hb => ?_
  obtain rfl := hb.1
  exact ⟨_, rfl, _, _, _, [], [], [], hW', trodAll_mk1 (shut_bool Tryz.underlying4 _), trodAll_mk0, rfl, TrueStays.frame hb _, fun h => by cases h⟩

theorem none_met (os : Os) : laidMetH Tryz.prog Rows.configNoneRow.laid ((World.laidAll Tryz.prog os Rows.configNoneRow.laid).forCall (fun _ _ => 0) ⟨#[], #[], []⟩).memory := by
  rw [MakeChecks.laidMetH_plain _ _ _ (by kernel_rfl)]
  exact laidMet_laidAll _ (by kernel_rfl) (by kernel_rfl)
theorem none_reads (os : Os) {H : Type} (enc : TypeId × Value → H) : ∃ places, DataW.whole enc Tryz.prog ((World.laidAll Tryz.prog os Rows.configNoneRow.laid).forCall (fun _ _ => 0) ⟨#[], #[], []⟩).memory Tryz.f5.params.toList Rows.configNoneSpec.vars false #[].toList 8 = some ([], [], places) :=
  ⟨[], by kernel_rfl⟩

theorem none_lifted (os : Os) (started : os.Started) (H : Type) (enc : TypeId × Value → H) (F : Stop.Interp) :
    ReturnsInHanded {} Tryz.checked os 5 .any ((OpenSpec.ofChange Rows.configNoneSpec).preRow enc Tryz.prog Tryz.f5 Rows.configNoneRow.domain false Rows.configNoneRow.laid) (((OpenSpec.ofChange Rows.configNoneSpec).at F).post enc Tryz.prog Tryz.f5 false true false false) := by
  obtain ⟨places, hx⟩ := none_reads os enc
  have hok : Input.okWideB Tryz.prog ((World.laidAll Tryz.prog os Rows.configNoneRow.laid).forCall (fun _ _ => 0) ⟨#[], #[], []⟩) 5 ⟨#[], #[], []⟩ = true := by kernel_rfl
  refine returnsInHanded_of_row (C := Tryz.checked) (s := OpenSpec.ofChange Rows.configNoneSpec) own started (by kernel_rfl) Tryz.func5
    ⟨World.laidAll Tryz.prog os Rows.configNoneRow.laid, fun _ _ => 0, ⟨#[], #[], []⟩, World.laidAll_os _ _ _, World.shaped_of_ZipB (by kernel_rfl) (by kernel_rfl), (Input.okWide_of_okWideB (base := 0) hok).1, (Input.okWide_of_okWideB hok).2,
      OpenSpec.preRow_of_cond 8 hx (by kernel_rfl) (fun k hk => by cases hk) (by kernel_rfl) (none_met os), by
        simp only [Assume.holds]
        exact ⟨by simp, by simp, fun _ => Modest.zero, by simp, by simp⟩⟩ ?_
  intro W base args ds gs before _ hW _ _ _ _ hS _
  exact none_contract H enc W args ds gs before hW hS

theorem none_said : Rows.ConfigNoneSaid :=
  OpenClaim.holds_of_cond 5 Tryz.f5 rfl rfl rfl rfl rfl rfl rfl ⟨rfl, rfl, rfl, rfl, rfl⟩ rfl rfl rfl rfl rfl (by kernel_rfl) Tryz.func5 (by kernel_rfl)
    (of_decide_eq_true (by kernel_rfl)) (by unfold Func.isWrapper; first | (rw [if_pos (by decide +kernel)]; kernel_rfl) | (rw [if_neg (by decide +kernel)]; exact ⟨rfl, rfl⟩))
    (fun os started H enc _ F => by rw [OpenClaim.pre_eq_preRow]; exact none_lifted os started H enc F)

theorem none_plain (f : FuncId) (fn : Func) (hf : Tryz.pinned.checked.prog.funcNamed Rows.configNoneRow.func = some f) (hfn : Tryz.pinned.checked.prog.funcs[f]? = some fn) :
    true = Tryz.pinned.checked.prog.looks [] ∧ ∀ (j : Nat) t, fn.params[j]? = some t → Tryz.pinned.checked.prog.wantsStandIn t = false := by
  obtain rfl : f = 5 := Option.some.inj ((show Tryz.prog.funcNamed Rows.configNoneRow.func = some 5 by kernel_rfl).symm.trans hf) |>.symm
  obtain rfl : fn = Tryz.f5 := (Option.some.inj (Tryz.func5.symm.trans hfn)).symm
  refine ⟨by kernel_rfl, fun j t ht => ?_⟩
  rw [Tryz.params5] at ht
  simp at ht

theorem none_card : Rows.ConfigNoneCardSaid :=
  Claim7.holds_tied_plain_at .later [] _ _ _ _ none_said (fun _ h => by cases h) (by kernel_rfl) (fun _ h => by cases h) configNone_row_tie rfl ⟨rfl, rfl⟩ (by kernel_rfl) rfl none_plain (by kernel_rfl)
#print axioms none_card
end Go.Proofs.YtdacnpghgoepdaaGreatDoor
