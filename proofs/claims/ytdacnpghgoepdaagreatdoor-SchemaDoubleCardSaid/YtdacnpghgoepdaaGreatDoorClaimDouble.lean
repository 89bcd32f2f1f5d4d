/- chancerylaw6.SchemaDouble answers true for every integer and either truth value, and nothing that was there before is changed. Conditions: none but the row's own (the listed variables read as listed, which the card ties to the program's text). -/
import Derived.Test.YtdacnpghgoepdaaGreatDoorCards
import Derived.Test.YtdacnpghgoepdaaGreatDoorTie
import Derived.ProofKit
import Derived.OpenShut
import Derived.Deep.DeepHandedRow
import Derived.Shelf.Vars
import Derived.Lay
import Derived.SevenTiedAt
import Derived.Test.YtdacnpghgoepdaaGreatDoorVdDouble
/- SchemaDouble: the claim. -/
namespace Go.Proofs.YtdacnpghgoepdaaGreatDoor
open Go.ChangeShapes Go.WideShapes Go.ChangeAt Go.RowKit Go.Vd
set_option maxRecDepth 100000

theorem own : ownKnob Tryz.prog.godebug = none := by kernel_rfl
theorem maxLenCell {W : World} (h : W.ShapedOpen Tryz.prog) : ∃ m, W.cell? ⟨0, 0, none⟩ = some (.int .i64 m) :=
  cell_of_shapedOpen_int (t := 3) (zero := #[.int .i64 0]) h (of_decide_eq_true (by kernel_rfl)) (by kernel_rfl) rfl (by kernel_rfl) (by kernel_rfl) (by kernel_rfl)

theorem double_law (k : Int) (u : Bool) (W : World) (h : W.ShapedOpen Tryz.prog) : Calls Tryz.prog 3 #[.int .i64 k, .bool u] W (TrueStays W) :=
  law_of_run sums4OK (args := [.int .i64 k, .bool u]) rfl (dbAll k u) (fun _ _ => callFunc_enter Tryz.func3 (by kernel_rfl) rfl) W (maxLenCell h)

theorem double_contract (H : Type) (enc : TypeId × Value → H) (W : World) (args : Array Value) (ds gs : List (DataW H)) (before : List MemPlace) {base : Nat}
    (hval : ∀ (j : Nat) t v, Tryz.f3.params[j]? = some t → args[j]? = some v → Value.okWide Tryz.prog W .any base t v)
    (hW : DataW.Whole enc Tryz.prog Tryz.f3.params.toList Rows.schemaDoubleSpec.vars false W args.toList ds gs before) (hS : W.ShapedOpen Tryz.prog) :
    Calls Tryz.prog 3 args W fun e W' => ∃ v, e = .returned v ∧ Rows.schemaDoubleSpec.post enc Tryz.prog Tryz.f3 false true false false W args v W' := by
  have hW' := hW
  obtain ⟨p, q, hA0, hV, rfl, _, _⟩ := hW
  have hA : DataW.TrodAll enc Tryz.prog W 0 (fun _ => true) true Tryz.f3.params.toList args.toList ds p := hA0
  rw [Tryz.params3] at hA hval
  obtain ⟨v0, vs0, d0, ds0, p0, q0, hargs, rfl, rfl, h0, r0⟩ := trodAll_cons hA
  obtain ⟨v1, vs1, d1, ds1, p1, q1, rfl, rfl, rfl, h1, r1⟩ := trodAll_cons r0
  obtain ⟨rfl, rfl, rfl⟩ := trodAll_nil r1
  obtain rfl : args = #[v0, v1] := by cases args; simp_all
  obtain ⟨rfl, rfl⟩ := trodVars_none hV
  obtain ⟨x, rfl, rfl, rfl, wx⟩ := open_int Tryz.underlying3 (hval 0 3 v0 rfl rfl) h0
  obtain ⟨u, rfl, rfl, rfl⟩ := open_bool Tryz.underlying4 (hval 1 4 v1 rfl rfl) h1
  simp only [List.append_nil] at hW'
  refine (double_law x u W hS).mono fun e W' hb => ?_
  obtain rfl := hb.1
  exact ⟨_, rfl, _, _, _, [], [], [], hW', trodAll_mk1 (shut_bool Tryz.underlying4 _), trodAll_cons_mk (shut_int Tryz.underlying3 wx) (trodAll_cons_mk (shut_bool Tryz.underlying4 _) trodAll_mk0), rfl, TrueStays.frame hb _, fun h => by cases h⟩

theorem double_met (os : Os) : laidMetH Tryz.prog Rows.schemaDoubleRow.laid ((World.laidAll Tryz.prog os Rows.schemaDoubleRow.laid).forCall (fun _ _ => 0) ⟨#[], #[.int .i64 0, .bool false], []⟩).memory := by
  rw [MakeChecks.laidMetH_plain _ _ _ (by kernel_rfl)]
  exact laidMet_laidAll _ (by kernel_rfl) (by kernel_rfl)
theorem double_reads (os : Os) {H : Type} (enc : TypeId × Value → H) : ∃ places, DataW.whole enc Tryz.prog ((World.laidAll Tryz.prog os Rows.schemaDoubleRow.laid).forCall (fun _ _ => 0) ⟨#[], #[.int .i64 0, .bool false], []⟩).memory Tryz.f3.params.toList Rows.schemaDoubleSpec.vars false #[Value.int .i64 0, Value.bool false].toList 8 = some ([.lit (.int .i64 0), .lit (.bool false)], [], places) :=
  ⟨[], by kernel_rfl⟩

theorem double_lifted (os : Os) (started : os.Started) (H : Type) (enc : TypeId × Value → H) (F : Stop.Interp) :
    ReturnsInHanded {} Tryz.checked os 3 .any ((OpenSpec.ofChange Rows.schemaDoubleSpec).preRow enc Tryz.prog Tryz.f3 Rows.schemaDoubleRow.domain false Rows.schemaDoubleRow.laid) (((OpenSpec.ofChange Rows.schemaDoubleSpec).at F).post enc Tryz.prog Tryz.f3 false true false false) := by
  obtain ⟨places, hx⟩ := double_reads os enc
  have hok : Input.okWideB Tryz.prog ((World.laidAll Tryz.prog os Rows.schemaDoubleRow.laid).forCall (fun _ _ => 0) ⟨#[], #[.int .i64 0, .bool false], []⟩) 3 ⟨#[], #[.int .i64 0, .bool false], []⟩ = true := by kernel_rfl
  refine returnsInHanded_of_row (C := Tryz.checked) (s := OpenSpec.ofChange Rows.schemaDoubleSpec) own started (by kernel_rfl) Tryz.func3
    ⟨World.laidAll Tryz.prog os Rows.schemaDoubleRow.laid, fun _ _ => 0, ⟨#[], #[.int .i64 0, .bool false], []⟩, World.laidAll_os _ _ _, World.shaped_of_ZipB (by kernel_rfl) (by kernel_rfl), (Input.okWide_of_okWideB (base := 0) hok).1, (Input.okWide_of_okWideB hok).2,
      OpenSpec.preRow_of_cond 8 hx (by kernel_rfl) (fun k hk => by cases hk) (by kernel_rfl) (double_met os), by
        simp only [Assume.holds]
        exact ⟨by simp, by simp, fun _ => Modest.zero, by simp, by simp⟩⟩ ?_
  intro W base args ds gs before hval hW _ _ _ _ hS _
  exact double_contract H enc W args ds gs before hval hW hS

theorem double_said : Rows.SchemaDoubleSaid :=
  OpenClaim.holds_of_cond 3 Tryz.f3 rfl rfl rfl rfl rfl rfl rfl ⟨rfl, rfl, rfl, rfl, rfl⟩ rfl rfl rfl rfl rfl (by kernel_rfl) Tryz.func3 (by kernel_rfl)
    (of_decide_eq_true (by kernel_rfl)) (by unfold Func.isWrapper; first | (rw [if_pos (by decide +kernel)]; kernel_rfl) | (rw [if_neg (by decide +kernel)]; exact ⟨rfl, rfl⟩))
    (fun os started H enc _ F => by rw [OpenClaim.pre_eq_preRow]; exact double_lifted os started H enc F)

theorem double_plain (f : FuncId) (fn : Func) (hf : Tryz.pinned.checked.prog.funcNamed Rows.schemaDoubleRow.func = some f) (hfn : Tryz.pinned.checked.prog.funcs[f]? = some fn) :
    true = Tryz.pinned.checked.prog.looks [] ∧ ∀ (j : Nat) t, fn.params[j]? = some t → Tryz.pinned.checked.prog.wantsStandIn t = false := by
  obtain rfl : f = 3 := Option.some.inj ((show Tryz.prog.funcNamed Rows.schemaDoubleRow.func = some 3 by kernel_rfl).symm.trans hf) |>.symm
  obtain rfl : fn = Tryz.f3 := (Option.some.inj (Tryz.func3.symm.trans hfn)).symm
  refine ⟨by kernel_rfl, fun j t ht => ?_⟩
  rw [Tryz.params3] at ht
  have hm : t ∈ [3, 4] := by simpa using Array.mem_of_getElem? ht
  have hall : ([3, 4].all fun u => !Tryz.prog.wantsStandIn u) = true := by kernel_rfl
  exact (show Tryz.prog.wantsStandIn t = false by simpa using List.all_eq_true.1 hall t hm)

theorem double_card : Rows.SchemaDoubleCardSaid :=
  Claim7.holds_tied_plain_at .later [] _ _ _ _ double_said (fun _ h => by cases h) (by kernel_rfl) (fun _ h => by cases h) schemaDouble_row_tie rfl ⟨rfl, rfl⟩ (by kernel_rfl) rfl double_plain (by kernel_rfl)
#print axioms double_card
end Go.Proofs.YtdacnpghgoepdaaGreatDoor
