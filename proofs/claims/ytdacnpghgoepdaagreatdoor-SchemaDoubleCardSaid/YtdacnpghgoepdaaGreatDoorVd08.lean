/- The reckoner and what it is asked: part 9. -/
import Derived.KernelRfl
import Derived.Test.YtdacnpghgoepdaaGreatDoorVd07
/- The first calls, as summaries. -/
namespace Go.Vd
set_option maxRecDepth 100000
noncomputable def al7Cs : List Case := [al7]
noncomputable def al10Cs : List Case := [al10]
theorem al7Cs_ok : ∀ c ∈ al7Cs, CaseOK (mkE sums3.get) 7 ngN c := cases_cons al7_ok cases_nil
theorem al10Cs_ok : ∀ c ∈ al10Cs, CaseOK (mkE sums3.get) 10 ngN c := cases_cons al10_ok cases_nil
noncomputable def sums4 : Sums := T.set (T.set sums3 7 (tabG al7Cs)) 10 (tabG al10Cs)
theorem sums4OK : SumsOK sums4 := sums3OK.table (sums3OK.table sums3OK al7Cs_ok) al10Cs_ok
end Go.Vd

/- A law whose run is known. -/
namespace Go.Vd
open Go.Proofs Go.RowKit
set_option maxRecDepth 100000
variable {B : Base} {φ : Phi} {h : Heap} {w : World}

/-- True, and what was there stays. -/
def TrueStays (W : World) : Ending → World → Prop := fun e W' => e = .returned (.bool true) ∧ W'.os = W.os ∧ W'.output = W.output ∧ ∀ k, k < W.heap.size → W'.heap[k]? = W.heap[k]?

def okB : Option CR → Bool
  | some (.ret (.bool true) _) => true
  | _ => false
theorem okB_inv {r : Option CR} (h : okB r = true) : ∃ h', r = some (.ret (.bool true) h') := by
  unfold okB at h
  split at h
  · exact ⟨_, rfl⟩
  · cases h

theorem law_of_ev {t : Sums} (ht : SumsOK t) {f n : Nat} {args : List Value} (hp : args.all plainV = true) {h' : Heap} (e : evCall (mkE t.get) n f args (heap0 ngN) = some (.ret (.bool true) h'))
    (hin : ∀ args w, (callFunc f args).run Tryz.prog w = .ok (.enter f args) w) (W : World) (hm : ∃ m, W.cell? ⟨0, 0, none⟩ = some (.int .i64 m)) : Calls Tryz.prog f args.toArray W (TrueStays W) := by
  have G : Glob (Base.all ngN W) := by
    obtain ⟨m, hm⟩ := hm
    rw [cell_eq] at hm
    exact ⟨rfl, cellH_lt hm, m, hm⟩
  have := evCall_sound (envOK t.get ht G) n _ (Base.like.refl _) f args _ _ (phi0 ngN) W args.toArray e (RW.empty _ _) (LR.plainL _ hp)
  unfold CallsF at this
  rw [hin] at this
  refine this.mono ?_
  rintro e' W' ⟨ψ, u, hle, he, hu, R⟩
  have hu' := VR.data_eq hu (by rfl)
  subst hu'
  exact ⟨he, R.io.1, R.io.2, fun k hk => R.old k (.inl hk)⟩

theorem law_of_run {t : Sums} (ht : SumsOK t) {f n : Nat} {args : List Value} (hp : args.all plainV = true) (e : okB (evCall (mkE t.get) n f args (heap0 ngN)) = true)
    (hin : ∀ args w, (callFunc f args).run Tryz.prog w = .ok (.enter f args) w) (W : World) (hm : ∃ m, W.cell? ⟨0, 0, none⟩ = some (.int .i64 m)) : Calls Tryz.prog f args.toArray W (TrueStays W) := by
  obtain ⟨h', e⟩ := okB_inv e
  exact law_of_ev ht hp e hin W hm

theorem TrueStays.frame {W W' : World} {e : Ending} (h : TrueStays W e W') (may : MemPlace → Prop) : W.keptBut W' may := by
  obtain ⟨_, h1, h2, h3⟩ := h
  refine ⟨h1, h2, fun i hi => ?_⟩
  rw [h3 i hi]
  split <;> simp_all

end Go.Vd
