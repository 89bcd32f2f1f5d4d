/- Runs of the reckoner for this claim. -/
import Derived.Test.YtdacnpghgoepdaaGreatDoorVd08
/- ConfigOnce: the run. -/
namespace Go.Vd
open Go.Proofs
set_option maxRecDepth 100000
/-- A body's end: true. -/
noncomputable def chk (E : Env) (fn : Func) : Option (Exit × St) → Bool
  | some (.ret, s) => (match s.df, resultV E fn s with
    | [], some (.bool true) => true
    | _, _ => false)
  | _ => false
theorem chk_inv {E : Env} {fn : Func} {r : Option (Exit × St)} (h : chk E fn r = true) : ∃ s, r = some (.ret, s) ∧ s.df = [] ∧ resultV E fn s = some (.bool true) := by
  unfold chk at h
  split at h
  · rename_i s
    split at h
    · rename_i e1 e2; exact ⟨s, rfl, e1, e2⟩
    · cases h
  · cases h
theorem WP.of_chk {E : Env} {fn : Func} {c : Code} {s : St} (n m : Nat) (h : chk E fn (evCode E (evCall E m) n none c s) = true) :
    WP E c s fun p => (p.1 = .normal ∨ p.1 = .ret) ∧ p.2.df = [] ∧ ∃ v, resultV E fn p.2 = some v ∧ ∃ h', CR.ret v p.2.h = .ret (.bool true) h' := by
  obtain ⟨s', h1, h2, h3⟩ := chk_inv h
  exact WP.of_run h1 ⟨.inr rfl, h2, _, h3, _, rfl⟩

theorem tmod12 (k : Int) : (∃ j : Nat, j < 12 ∧ k.tmod (Int.ofNat 12) = .ofNat j) ∨ ∃ j : Nat, j < 11 ∧ k.tmod (Int.ofNat 12) = .negSucc j := by
  have h1 : k.tmod 12 < 12 := Int.tmod_lt_of_pos k (by decide)
  have h2 : -12 < k.tmod 12 := by
    have := Int.lt_tmod_of_pos k (b := 12) (by decide)
    omega
  show (∃ j : Nat, j < 12 ∧ k.tmod 12 = .ofNat j) ∨ ∃ j : Nat, j < 11 ∧ k.tmod 12 = .negSucc j
  generalize k.tmod 12 = r at h1 h2
  cases r with
  | ofNat j => exact .inl ⟨j, by have : (j : Int) < 12 := h1; omega, rfl⟩
  | negSucc j => exact .inr ⟨j, by omega, rfl⟩

theorem once_run (k : Int) : EvQ (mkE sums4.get) 4 [.int .i64 k] (heap0 ngN) (fun r => ∃ h', r = .ret (.bool true) h') := by
  refine EvQ.body (by kernel_rfl) rfl rfl ?_
  refine WP.seq (WP.region ?_)
  refine WPO.op rfl (by simp only [evOp]; rfl) ?_
  refine WPO.nil ?_
  refine WP.seq (WP.region ?_)
  refine WPO.op rfl (by simp only [evOp, St.put_some]; rfl) ?_
  refine WPO.op rfl (by simp only [evOp, evR_tmp, St.put_some, Tm.get_set, reduceIte, Nat.reduceEqDiff, Option.getD_some]; rfl) ?_
  refine WPO.nil ?_
  refine WP.seq (WP.region ?_)
  refine WPO.op rfl (by simp only [evOp, evR_tmp, St.put_some, Tm.get_set, reduceIte, Nat.reduceEqDiff]; rfl) ?_
  refine WPO.op rfl (by simp only [evOp, evR_tmp, St.put_some, Tm.get_set, reduceIte, Nat.reduceEqDiff, Option.getD_some]; rfl) ?_
  refine WPO.op rfl (by simp only [evOp, St.put_some]; rfl) ?_
  refine WPO.op rfl (v := .int .i64 (k.tmod (Int.ofNat 12))) (by simp only [evOp, evR_tmp, St.put_some, Tm.get_set, reduceIte, Nat.reduceEqDiff, Option.getD_some]; rfl) ?_
  refine WPO.op rfl (by simp only [evOp, evR_tmp, St.put_some, Tm.get_set, reduceIte, Nat.reduceEqDiff, Option.getD_some]; rfl) ?_
  refine WPO.nil ?_
  simp only [St.put_some]
  have hk := tmod12 k
  generalize k.tmod (Int.ofNat 12) = r at hk
  have cases12 : ∀ {P : Nat → Prop}, P 0 → P 1 → P 2 → P 3 → P 4 → P 5 → P 6 → P 7 → P 8 → P 9 → P 10 → P 11 → ∀ j, j < 12 → P j := by
    intro P h0 h1 h2 h3 h4 h5 h6 h7 h8 h9 h10 h11 j hj
    match j, hj with
    | 0, _ => exact h0
    | 1, _ => exact h1
    | 2, _ => exact h2
    | 3, _ => exact h3
    | 4, _ => exact h4
    | 5, _ => exact h5
    | 6, _ => exact h6
    | 7, _ => exact h7
    | 8, _ => exact h8
    | 9, _ => exact h9
    | 10, _ => exact h10
    | 11, _ => exact h11
  rcases hk with ⟨j, hj, rfl⟩ | ⟨j, hj, rfl⟩
  · revert j
    refine cases12 ?_ ?_ ?_ ?_ ?_ ?_ ?_ ?_ ?_ ?_ ?_ ?_ <;> exact WP.of_chk 20000 20000 (by kernel_rfl)
  · revert j
    have h11 : ∀ {P : Nat → Prop}, (∀ j, j < 12 → j < 11 → P j) → ∀ j, j < 11 → P j := fun h j hj => h j (by omega) hj
    refine h11 (cases12 ?_ ?_ ?_ ?_ ?_ ?_ ?_ ?_ ?_ ?_ ?_ (fun h => absurd h (by decide))) <;> exact fun _ => WP.of_chk 20000 20000 (by kernel_rfl)
end Go.Vd
