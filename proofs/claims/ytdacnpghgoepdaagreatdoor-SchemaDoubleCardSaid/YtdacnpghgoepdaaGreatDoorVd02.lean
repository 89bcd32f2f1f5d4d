/- The reckoner and what it is asked: part 3. -/
import Derived.LoopN
import Derived.Scope
import Derived.Defers
import Derived.Recover
import Derived.Below
import Derived.Test.YtdacnpghgoepdaaGreatDoorVd01
/- A region in any order: an operation of an island's. -/
namespace Go.Vd
variable {φ : Phi} {h : Heap} {P : Program} {E : Env}
section
variable {B0 B : Base} {ops : Array Oper} {A : List Oper} {ds : List Nat} {nt : Nat} {fin : Tm} {H : List Heap} {df : List Deferred} {listed : Array Bool} {ψ : Phi} {a : Act} {w : World} {m : Nat} {ι : Nat → Option Nat}
  {cf : Nat → List Value → Heap → Option CR} {ms : List Nat}

theorem Plan.closed_mask (pl : Plan B0 E cf ops A ds nt ms fin H) {S : Nat → Prop} (hS : Closed A.toArray S) {k : Nat} {o : Oper} {mk : Nat} (ho : A[k]? = some o) (hm : ms[k]? = some mk)
    (hr : ∀ e ∈ o.after, Region.binds .any e = true → S e.on) : ∀ j, mk.testBit j = true → S j ∧ j < k :=
  mask_ready (ops := A.toArray) (by simpa using pl.masks) hS k o mk (by simpa using ho) hm hr

theorem Plan.mask (pl : Plan B0 E cf ops A ds nt ms fin H) {k : Nat} {o : Oper} (ho : A[k]? = some o) : ∃ mk, ms[k]? = some mk := by
  obtain ⟨mk, h, _⟩ := masks_at (ops := A.toArray) (by simpa using pl.masks) (k := k) (o := o) (by simpa using ho)
  exact ⟨mk, h⟩

/-- A write that has been has its island made. -/
theorem Mid.write_made (pl : Plan B0 E cf ops A ds nt ms fin H) (M : Mid B0 B E ops A ds nt fin H df listed ψ a w m ι) {j : Nat} {o : Oper} {d : Nat} {x : Operand} (ho : A[j]? = some o) (hw : writeOf o = some (d, x)) (hd : d ∈ ds)
    (hr : ∀ e ∈ o.after, Region.binds .any e = true → listed.getD e.on false = true) : (ι d).isSome = true ∧ (∀ t, x = .tmp t → t ∉ ds ∧ ∀ (k : Nat) (ok : Oper), A[k]? = some ok → ok.dst = some t → listed.getD k false = true) := by
  obtain ⟨mk, hm⟩ := pl.mask ho
  obtain ⟨h1, h2, k', o', h3, h4, h5⟩ := pl.puts j o mk d x ho hm (isle_write hw hd) hw
  have hb := pl.closed_mask M.clos ho hm hr
  refine ⟨(M.made k' o' d h3 h4 hd).1 (hb k' h5).1, fun t ht => ?_⟩
  subst ht
  refine ⟨fun h => ?_, fun k ok hk hdst => ?_⟩
  · unfold outside at h2
    simp only [memN_iff.2 h] at h2; cases h2
  · unfold writerIn at h1
    rw [List.all_eq_true] at h1
    have := h1 (ok, k) (by rw [List.mem_zipIdx_iff_getElem?]; simpa using hk)
    rw [hdst] at this
    simp only [Nat.beq_refl, cond_true] at this
    exact (hb k this).1

theorem Mid.maker (pl : Plan B0 E cf ops A ds nt ms fin H) (M : Mid B0 B E ops A ds nt fin H df listed ψ a w m ι) {i : Nat} {o : Oper} {d : Nat} (ho : A[i]? = some o) (hmk : makerOf o = some d) (hd : d ∈ ds) (hun : listed.getD i false = false)
    (hafter : ∀ e ∈ o.after, Region.binds .any e = true → listed.getD e.on false = true) {obj : Obj} {u : Value} {w1 : World} (hw1 : w1.heap = w.heap.push obj) (hio : w1.os = w.os ∧ w1.output = w.output) (hloudi : ∀ (p : Nat), (loudOf ds A)[p]? ≠ some i)
    (hI : ∀ (f : Nat → Bool), entF (storedOf fin d) f 0 A = [] → entF (entryOf fin d) f 0 A = [] → IslObj E A fin ψ f w1.heap u d w.heap.size o) :
    Mid B0 { B with isl := fun b => B.isl b ∨ b = w.heap.size, heap := w.heap.push obj } E ops A ds nt fin H df (listed.setIfInBounds i true) ψ (a.put o.dst u) w1 m (fun d' => if d' = d then some w.heap.size else ι d') := by
  have hiA : i < A.length := (List.getElem?_eq_some_iff.1 ho).1
  have hil : i < listed.size := by rw [M.lsz]; exact Nat.lt_of_lt_of_le hiA pl.upto
  obtain ⟨hm, hHm, R0⟩ := M.heap
  have hsize : ∀ b, B.keep b → b < w.heap.size := R0.size
  have hdn : ι d = none := by
    cases h : ι d with
    | none => rfl
    | some L =>
      have := (M.made i o d ho hmk hd).2 (by rw [h]; rfl)
      rw [hun] at this; cases this
  have hlt : ∀ d' L, ι d' = some L → L < w.heap.size := fun d' L h => hsize L (.inr (M.isl_of h))
  have hno : ∀ (S : Nat → Bool), (∀ j, S j = true → j = i ∨ listed.getD j false = true) → ∀ j, S j = true → ∀ oj x, A[j]? = some oj → writeOf oj ≠ some (d, x) := by
    intro S hS j hj oj x hoj hw
    rcases hS j hj with rfl | hj
    · rw [ho] at hoj; injection hoj with hoj; subst hoj
      obtain ⟨h1, _, h2⟩ := makerOf_dst hmk
      rcases writeOf_inv hw with ⟨s, hw⟩ | ⟨_, t, hw⟩
      · have := (insertOf_inv hw).2.1; rw [h1] at this; cases this
      · have := (storeOf_inv hw).2.1; rw [h1] at this; cases this
    · have := (M.write_made pl hoj hw hd (fun e he hb => M.clos j oj hj (by simpa using hoj) e he hb)).1
      rw [hdn] at this; cases this
  refine M.next pl ho hun hafter ψ.le_refl rfl rfl (fun h => by rw [isle_maker hmk hd] at h; cases h) (fun _ d' h => by rw [(makerOf_dst hmk).1] at h; injection h with h; exact h ▸ hd)
    ⟨hm, hHm, .mk (by rw [hw1]; exact R0.aside obj) ⟨hio.1.trans R0.io.1, hio.2.trans R0.io.2⟩⟩ (fun p l hl => ?_) M.mle M.ng M.orig ?_ ?_ ?_ ?_ ?_ ?_ ?_
  · have hne : l ≠ i := fun e => hloudi p (e ▸ hl)
    simp only [hne, false_or]
    exact M.loud p l hl
  · intro b
    show (B.isl b ∨ b = w.heap.size) ↔ _
    rw [M.isl]
    constructor
    · rintro ((h | ⟨d', h⟩) | rfl)
      · exact .inl h
      · refine .inr ⟨d', ?_⟩
        have : d' ≠ d := fun e => by rw [e, hdn] at h; cases h
        simp [this, h]
      · exact .inr ⟨d, by simp⟩
    · rintro (h | ⟨d', h⟩)
      · exact .inl (.inl h)
      · by_cases e : d' = d
        · subst e; simp at h; exact .inr h.symm
        · simp [e] at h; exact .inl (.inr ⟨d', h⟩)
  · intro b hb
    show (w.heap.push obj)[b]? = _
    have hk : B.keep b := by
      rcases hb with hb | hb
      · exact .inl (M.orig ▸ hb)
      · exact .inr ((M.isl b).2 (.inl hb))
    rw [push_old _ _ (hsize b hk), R0.old b hk]; exact M.old b hb
  · intro d1 d2 L h1 h2
    by_cases e1 : d1 = d
    · by_cases e2 : d2 = d
      · rw [e1, e2]
      · simp [e1] at h1; simp [e2] at h2
        have := hlt d2 L h2; omega
    · by_cases e2 : d2 = d
      · simp [e1] at h1; simp [e2] at h2
        have := hlt d1 L h1; omega
      · simp [e1] at h1; simp [e2] at h2
        exact M.inj d1 d2 L h1 h2
  · intro d' L h hk
    by_cases e : d' = d
    · subst e; simp at h; subst h
      have hk' : B.keep w.heap.size := by
        rcases hk with hk | hk
        · exact .inl (M.orig ▸ hk)
        · exact .inr ((M.isl _).2 (.inl hk))
      have := hsize _ hk'; omega
    · simp [e] at h; exact M.fresh d' L h hk
  · intro d' hd' hm'
    rw [hmk] at hm'; injection hm' with hm'; subst hm'; simp
  · intro d' hne
    have : d' ≠ d := fun e => hne (e ▸ hmk)
    simp [this]
  · intro d' L h
    by_cases e : d' = d
    · subst e
      simp at h; subst h
      refine ⟨hd, i, o, ho, hmk, ?_⟩
      have hdst := (makerOf_dst hmk).1
      have hlt2 : d' < a.tmps.size := Nat.lt_of_lt_of_le (okOper_dst (pl.ok o (List.mem_of_getElem? ho)) d' hdst) M.tsz
      rw [hdst, put_getD_same rfl hlt2]
      have hS : ∀ j, (listed.setIfInBounds i true).getD j false = true → j = i ∨ listed.getD j false = true := fun j hj => (getD_set hil j).1 hj
      refine hI _ ?_ ?_
      · exact entF_none _ _ 0 A fun j hj oj hoj => storedOf_none fun x => hno _ hS j hj oj x (by simpa using hoj.1)
      · exact entF_none _ _ 0 A fun j hj oj hoj => entryOf_none fun x => hno _ hS j hj oj x (by simpa using hoj.1)
    · simp [e] at h
      obtain ⟨hds, k, o', h1, h2, h3⟩ := M.obj d' L h
      refine ⟨hds, k, o', h1, h2, ?_⟩
      have hdst := (makerOf_dst hmk).1
      rw [put_getD_ne rfl (fun he => by rw [hdst] at he; injection he with he; exact e he.symm)]
      have hwn : ∀ x, writeOf o ≠ some (d', x) := by
        intro x hw
        rcases writeOf_inv hw with ⟨s, hw⟩ | ⟨_, t, hw⟩
        · have := (insertOf_inv hw).2.1; rw [hdst] at this; cases this
        · have := (storeOf_inv hw).2.1; rw [hdst] at this; cases this
      exact h3.keep ψ.le_refl (by rw [hw1]; exact push_old _ _ (hlt d' L h)) (entF_skip hil ho (storedOf_none hwn)) (entF_skip hil ho (entryOf_none hwn))

/-- A write into an island. -/
theorem Mid.write (pl : Plan B0 E cf ops A ds nt ms fin H) (M : Mid B0 B E ops A ds nt fin H df listed ψ a w m ι) {i : Nat} {o : Oper} {d L : Nat} {x : Operand} (ho : A[i]? = some o) (hwr : writeOf o = some (d, x)) (hd : d ∈ ds) (hL : ι d = some L) (hun : listed.getD i false = false)
    (hafter : ∀ e ∈ o.after, Region.binds .any e = true → listed.getD e.on false = true) {u : Value} {w1 : World} (hdst : o.dst = none) (hsz : w1.heap.size = w.heap.size) (hoth : ∀ b, b ≠ L → w1.heap[b]? = w.heap[b]?) (hio : w1.os = w.os ∧ w1.output = w.output) (hloudi : ∀ (p : Nat), (loudOf ds A)[p]? ≠ some i)
    (hI : ∀ (k : Nat) (o' : Oper), A[k]? = some o' → makerOf o' = some d → IslObj E A fin ψ (fun i => listed.getD i false) w.heap (a.tmps.getD d undef) d L o' →
      IslObj E A fin ψ (fun j => (listed.setIfInBounds i true).getD j false) w1.heap (a.tmps.getD d undef) d L o') :
    Mid B0 { B with heap := w1.heap } E ops A ds nt fin H df (listed.setIfInBounds i true) ψ (a.put o.dst u) w1 m ι := by
  have hiA : i < A.length := (List.getElem?_eq_some_iff.1 ho).1
  have hil : i < listed.size := by rw [M.lsz]; exact Nat.lt_of_lt_of_le hiA pl.upto
  obtain ⟨hm, hHm, R0⟩ := M.heap
  have hiL := M.isl_of hL
  have hnm : ∀ d', makerOf o ≠ some d' := fun d' h => by have := (makerOf_dst h).1; rw [hdst] at this; cases this
  refine M.next pl ho hun hafter ψ.le_refl rfl rfl (fun h => by rw [isle_write hwr hd] at h; cases h) (fun _ d' h => by rw [hdst] at h; cases h)
    ⟨hm, hHm, .mk (R0.aside_turn hiL hsz hoth) ⟨hio.1.trans R0.io.1, hio.2.trans R0.io.2⟩⟩ (fun p l hl => ?_) M.mle M.ng M.orig M.isl ?_ M.inj M.fresh (fun d' _ h => absurd h (hnm d')) (fun _ _ => rfl) ?_
  · have hne : l ≠ i := fun e => hloudi p (e ▸ hl)
    simp only [hne, false_or]
    exact M.loud p l hl
  · intro b hb
    show w1.heap[b]? = _
    have hne : b ≠ L := fun e => M.fresh d L hL (e ▸ hb)
    have hk : B.keep b := by
      rcases hb with hb | hb
      · exact .inl (M.orig ▸ hb)
      · exact .inr ((M.isl b).2 (.inl hb))
    rw [hoth b hne, R0.old b hk]; exact M.old b hb
  · intro d' L' h
    obtain ⟨hds, k, o', h1, h2, h3⟩ := M.obj d' L' h
    refine ⟨hds, k, o', h1, h2, ?_⟩
    rw [put_getD_ne rfl (fun he => by rw [hdst] at he; cases he)]
    by_cases e : d' = d
    · subst e
      rw [hL] at h; injection h with h; subst h
      exact hI k o' h1 h2 h3
    · have hne : L' ≠ L := fun e2 => e (M.inj d' d L (e2 ▸ h) hL)
      have hwn : ∀ x, writeOf o ≠ some (d', x) := fun x' hw => by
        rw [hwr] at hw; injection hw with hw; simp only [Prod.mk.injEq] at hw; exact e hw.1.symm
      exact h3.keep ψ.le_refl (hoth L' hne) (entF_skip hil ho (storedOf_none hwn)) (entF_skip hil ho (entryOf_none hwn))
end

end Go.Vd

/- A region in any order: the operations of islands in the model. -/
namespace Go.Vd
variable {φ : Phi} {h : Heap} {P : Program} {E : Env}

/-- A variable made. -/
theorem alloc_exec (hE : TysOK P E) {ρ : Operand → Value} {o : Oper} {t : Nat} {ti : TI} {w : World} (ho : o.op = .alloc t) (ht : E.ty t = some ti) :
    (execOp ρ o).run P w = .ok (.value (.pointer (some ⟨w.heap.size, 0, none⟩))) { w with heap := w.heap.push (.cells ti.zero.cells t (0, 0)) } := by
  obtain ⟨dst, op, type, pos, after, guard⟩ := o
  simp only at ho
  subst ho
  simp [execOp, Instr.alloc, run_zero hE ht, newVar, newRow]

theorem makeMap_exec {ρ : Operand → Value} {o : Oper} {t : Nat} {w : World} (ho : o.op = .makeMap t none) :
    (execOp ρ o).run P w = .ok (.value (.map (some w.heap.size))) { w with heap := w.heap.push (.map #[] 0) } := by
  obtain ⟨dst, op, type, pos, after, guard⟩ := o
  simp only at ho
  subst ho
  simp [execOp, Instr.makeMap]

theorem insert_exec (hE : TysOK P E) {B : Base} {hm : Heap} {w : World} (R : RW B φ hm w) {ρ : Operand → Value} {o : Oper} {t d L : Nat} {s : ByteArray} {x : Operand} (ho : o.op = .insert t (.tmp d) (.const (.string s)) x)
    (hst : strIns E o = true) (hρd : ρ (.tmp d) = .map (some L)) (hρs : ρ (.const (.string s)) = .string s) {l : List (Value × Value)} {fs : Array MapEntry} {c : Nat} (hL : w.heap[L]? = some (.map fs c)) (hm2 : MapR φ l (some (.map fs c)))
    (hs : ∀ p ∈ l, ∃ s', p.1 = .string s') (hne : ∀ p ∈ l, ∀ s', p.1 = .string s' → s.data.toList ≠ s'.data.toList) :
    (execOp ρ o).run P w = .ok .skip { w with heap := w.heap.setIfInBounds L (.map (fs.push { key := .string s, val := ρ x, born := c }) (c + 1)) } := by
  obtain ⟨dst, op, type, pos, after, guard⟩ := o
  simp only at ho
  subst ho
  unfold strIns strMap at hst
  simp only at hst
  split at hst
  · rename_i kt et _ _ _ _ hty
    unfold strKeyed at hst
    split at hst
    · rename_i hkt
      have hst' := (hE.ty t _ hty).desc
      simp only at hst'
      have hr := run_underlying hst' w
      have hok : okKey E kt (.string s) = true := by
        unfold okKey; rw [hkt]; rfl
      obtain ⟨q, q1, q2, _⟩ := findV_string (h := hm) hkt rfl s l 0 hs
      have hq : q = none := by
        cases q with
        | none => rfl
        | some y =>
          obtain ⟨t', h1, h2⟩ := q2 _ rfl
          exact absurd h2 (hne _ h1 t' rfl)
      subst hq
      obtain ⟨p1, r', p2, p3, _⟩ := put_run (P := P) hE R hok q1 (fun i a v h => by cases h) (.string s) hm2 false
      cases r' with
      | some p => exact p3.elim
      | none =>
        show (do Instr.mapUpdate t (ρ (.tmp d)) (ρ (.const (.string s))) (ρ x); pure Next.skip : Sem Next).run P w = _
        rw [hρd, hρs]
        unfold Instr.mapUpdate
        simp [hr, run_getMap hL, p1, p2, run_setMap hL]
    · cases hst
  · cases hst

theorem store_exec (hE : TysOK P E) {w : World} {ρ : Operand → Value} {o : Oper} {t d L : Nat} {x : Operand} {ti : TI} (ho : o.op = .store t (.tmp d) x) (ht : E.ty t = some ti) (hρd : ρ (.tmp d) = .pointer (some ⟨L, 0, none⟩))
    {us : List Value} {e : TypeId} (hL : w.heap[L]? = some (.cells us.toArray e (0, 0))) (hus : us.length = ti.size) {vs : List Value} (hvs : (ρ x).cells.toList = vs) (hlen : vs.length = ti.size) (hone : ∀ v ∈ vs, oneV v = true) :
    ∃ w1, (execOp ρ o).run P w = .ok .skip w1 ∧ w1.heap.size = w.heap.size ∧ (∀ b, b ≠ L → w1.heap[b]? = w.heap[b]?) ∧ w1.heap[L]? = some (.cells vs.toArray e (0, 0)) ∧ w1.os = w.os ∧ w1.output = w.output := by
  obtain ⟨dst, op, type, pos, after, guard⟩ := o
  simp only at ho
  subst ho
  have hsz : (ρ x).cells.size = ti.size := by rw [← Array.length_toList, hvs, hlen]
  obtain ⟨w1, h1, U, i1, i2⟩ := run_stores (P := P) (o := 0) (us := vs) hL (by simp [hus, hlen]) (fun k _ _ => notFrozen0 k) hone
  refine ⟨w1, ?_, U.size, U.other, ?_, i1, i2⟩
  · show (do Instr.storeAt t (ρ (.tmp d)) (ρ x); pure Next.skip : Sem Next).run P w = _
    rw [hρd]
    unfold Instr.storeAt Instr.sureAddr storeVar
    simp [run_size hE ht, hsz, hvs, h1]
  · obtain ⟨c, e', fz, c2, a1, a2, a3, a4⟩ := U.row
    rw [hL] at a1; injection a1 with a1; injection a1 with x1 x2 x3; subst x1 x2 x3
    rw [a2]
    have : c2 = vs.toArray := by
      apply Array.ext_getElem?
      intro k
      rw [a4]
      by_cases hk : 0 ≤ k ∧ k < 0 + vs.length
      · rw [if_pos hk]; simp
      · rw [if_neg hk]
        have h1 : us.toArray[k]? = none := by
          rw [Array.getElem?_eq_none]; simp; omega
        have h2 : vs.toArray[k]? = none := by
          rw [Array.getElem?_eq_none]; simp; omega
        rw [h1, h2]
    rw [this]

end Go.Vd

/- A region in any order: the induction. -/
namespace Go.Vd
variable {φ : Phi} {h : Heap} {P : Program} {E : Env}

theorem perm_pairs {es l : List (Value × Value)} {y : Value × Value} {F : List (Value × Value)} (hb : bagKeys F = true) (hsub : es.Sublist F) (hp : es.Perm (y :: l)) {s : ByteArray} (hy : y.1 = .string s) :
    (∀ p ∈ l, ∃ s', p.1 = .string s') ∧ ∀ p ∈ l, ∀ s', p.1 = .string s' → s.data.toList ≠ s'.data.toList := by
  obtain ⟨b1, b2⟩ := bagKeys_pairs hb
  have c1 : ∀ p ∈ es, ∃ s', p.1 = .string s' := fun p hp' => b1 p (hsub.subset hp')
  have c2 := b2.sublist hsub
  have c3 := (hp.pairwise_iff (R := fun p q : Value × Value => ∀ s t, p.1 = .string s → q.1 = .string t → s.data.toList ≠ t.data.toList) (fun h s t e1 e2 e => h t s e2 e1 e.symm)).1 c2
  refine ⟨fun p hp' => c1 p (hp.mem_iff.2 (List.mem_cons_of_mem _ hp')), fun p hp' s' hs' => ?_⟩
  cases c3 with
  | cons h1 h2 => exact h1 p hp' s s' hy hs'

theorem draw_any (hE : TysOK P E) {cf : Nat → List Value → Heap → Option CR} {B0 : Base} (hcf : ∀ B : Base, B.like B0 → CfOK B P cf) {ops : Array Oper} {A : List Oper} {ds : List Nat} {nt : Nat} {ms : List Nat} {fin : Tm} {H : List Heap} (pl : Plan B0 E cf ops A ds nt ms fin H)
    {df : List Deferred} {Q : Exit → Act → World → Prop} : ∀ (fuel : Nat) (listed : Array Bool) (B : Base) (ψ : Phi) (a : Act) (w : World) (m : Nat) (ι : Nat → Option Nat), listed.toList.count false = fuel →
    Mid B0 B E ops A ds nt fin H df listed ψ a w m ι →
    (∀ (fuel' : Nat) (listed' : Array Bool) (B' : Base) (ψ' : Phi) (a' : Act) (w' : World) (ι' : Nat → Option Nat), ψ.le ψ' → Mid B0 B' E ops A ds nt fin H df listed' ψ' a' w' (loudOf ds A).length ι' → (∀ i, i < A.length → listed'.getD i false = true) →
      listed'.toList.count false = fuel' → wpAny P .any ops Q fuel' listed' a' w') → wpAny P .any ops Q fuel listed a w := by
  intro fuel
  induction fuel with
  | zero =>
    intro listed B ψ a w m ι hcnt M hQ
    have hall : ∀ i, i < A.length → listed.getD i false = true := by
      intro i hi
      have hi' : i < listed.size := by rw [M.lsz]; exact Nat.lt_of_lt_of_le hi pl.upto
      cases hb : listed[i] with
      | true => simp [Array.getD, hi', hb]
      | false =>
        have : false ∈ listed.toList := by rw [← hb]; simp
        have := List.count_pos_iff.2 this
        omega
    have hm' : m = (loudOf ds A).length := by
      rcases Nat.lt_or_ge m (loudOf ds A).length with hlt | hge
      · have hl := List.getElem?_eq_getElem hlt
        obtain ⟨o, h1, h2, ho, _⟩ := pl.loud m _ hl
        have := (M.loud m _ hl).1 (hall _ (List.getElem?_eq_some_iff.1 ho).1)
        omega
      · have := M.mle; omega
    subst hm'
    exact hQ 0 listed B ψ a w ι ψ.le_refl M hall hcnt
  | succ fuel ih =>
    intro listed B ψ a w m ι hcnt M hQ
    by_cases hall : ∀ i, i < A.length → listed.getD i false = true
    · have hm' : m = (loudOf ds A).length := by
        rcases Nat.lt_or_ge m (loudOf ds A).length with hlt | hge
        · have hl := List.getElem?_eq_getElem hlt
          obtain ⟨o, h1, h2, ho, _⟩ := pl.loud m _ hl
          have := (M.loud m _ hl).1 (hall _ (List.getElem?_eq_some_iff.1 ho).1)
          omega
        · have := M.mle; omega
      subst hm'
      exact hQ (fuel + 1) listed B ψ a w ι ψ.le_refl M hall hcnt
    have hex : ∃ i0, i0 < A.length ∧ listed.getD i0 false = false := by
      refine Classical.byContradiction fun hn => hall fun i hi => ?_
      cases hb : listed.getD i false with
      | true => rfl
      | false => exact absurd ⟨i, hi, hb⟩ hn
    refine ⟨fun hr => ?_, fun i hi => ?_⟩
    · exfalso
      refine hall fun i => ?_
      induction i using Nat.strongRecOn with
      | ind i ihi =>
        intro hiA
        cases hl : listed.getD i false with
        | true => rfl
        | false =>
          exfalso
          have ho := List.getElem?_eq_getElem hiA
          obtain ⟨mi, _, h2, _⟩ := masks_at (ops := A.toArray) (by simpa using pl.masks) (k := i) (o := A[i]) (by rw [List.getElem?_toArray]; exact ho)
          have hil : i < listed.size := by rw [M.lsz]; exact Nat.lt_of_lt_of_le hiA pl.upto
          have : i ∈ Region.ready .any ops listed := by
            rw [mem_ready]
            refine ⟨?_, A[i], pl.pre i _ ho, fun e he hb => ihi e.on (h2 e he hb) (by have := h2 e he hb; omega)⟩
            simp only [Array.getD, hil] at hl ⊢
            simpa using hl
          rw [hr] at this
          cases this
    obtain ⟨h0, o, hoo, hafter⟩ := mem_ready.1 hi
    have hilt : i < ops.size := (Array.getElem?_eq_some_iff.1 hoo).1
    have hil : i < listed.size := by rw [M.lsz]; exact hilt
    have hun : listed.getD i false = false := by simpa [Array.getD, hil] using h0
    have hiA : i < A.length := by
      refine Classical.byContradiction fun hn => ?_
      obtain ⟨i0, h1, h2⟩ := hex
      have hw := pl.wait i o (by omega) hoo
      unfold waitsAll at hw
      rw [List.all_eq_true] at hw
      have := hw i0 (by rw [List.mem_range]; omega)
      rw [List.any_eq_true] at this
      obtain ⟨e, he, hb⟩ := this
      rw [Bool.and_eq_true] at hb
      have := hafter e (by simpa using he) hb.1
      rw [beq_eq hb.2, h2] at this; cases this
    have ho : A[i]? = some o := by
      have h1 := List.getElem?_eq_getElem hiA
      have h2 := pl.pre i _ h1
      rw [hoo] at h2; injection h2 with h2
      rw [h1, h2]
    have hmem : o ∈ A := List.mem_of_getElem? ho
    have hok := pl.ok o hmem
    obtain ⟨mi, hmi⟩ := pl.mask ho
    have hbits := pl.closed_mask M.clos ho hmi hafter
    obtain ⟨hm, hHm, R⟩ := M.heap
    have count : (listed.setIfInBounds i true).toList.count false = fuel := by
      rw [Array.toList_setIfInBounds]
      refine count_false_set _ _ _ ?_ hcnt
      simp only [Array.getElem?_toList]
      rw [Array.getElem?_eq_getElem hil]
      simpa [Array.getD, hil] using hun
    have go : ∀ {B1 ψ1 a1 w1 m1 ι1}, ψ.le ψ1 → Mid B0 B1 E ops A ds nt fin H df (listed.setIfInBounds i true) ψ1 a1 w1 m1 ι1 → wpAny P .any ops Q fuel (listed.setIfInBounds i true) a1 w1 :=
      fun hle M1 => ih _ _ _ _ _ _ _ count M1 fun fuel' listed' B' ψ' a' w' ι' h1 => hQ fuel' listed' B' ψ' a' w' ι' (Phi.le_trans hle h1)
    unfold wpOp
    simp only [hoo]
    cases hisl : isle ds o with
    | true =>
      have hloudi : ∀ (p : Nat), (loudOf ds A)[p]? ≠ some i := by
        intro p hp
        obtain ⟨o', _, _, h1, h2, _⟩ := pl.loud p i hp
        rw [ho] at h1; injection h1 with h1; subst h1
        rw [hisl] at h2; cases h2
      rcases isle_inv hisl with ⟨d, hmk, hd⟩ | ⟨d, x, hwr, hd⟩
      · -- an island made
        obtain ⟨hdst, hg, hop⟩ := makerOf_dst hmk
        obtain ⟨k, o', h1, h2, h3⟩ := pl.good d hd
        have hk : k = i := dsts_uniq pl.dsts h1 ho (makerOf_dst h2).1 hdst
        subst hk
        rw [ho] at h1; injection h1 with h1; subst h1
        have hw : Region.wanted o (yielded ops a.tmps) = true := by unfold Region.wanted; rw [hg]
        rw [hw]
        simp only [if_true]
        refine .inl ?_
        unfold Oper.wp
        unfold IslGood at h3
        rcases hop with ⟨t, hop⟩ | ⟨t, hop⟩
        · rw [hop] at h3
          obtain ⟨ti, hti, _⟩ := h3
          rw [alloc_exec hE hop hti, Oper.upon_value]
          refine go ψ.le_refl (M.maker pl ho hmk hd hun hafter rfl ⟨rfl, rfl⟩ hloudi fun f f1 _ => ?_)
          unfold IslObj
          rw [hop]
          have hz := (hE.ty t ti hti).size
          exact ⟨rfl, ti, ti.zero.cells.toList, t, hti, by simpa using hz, by rw [push_new], .inl ⟨f1, zeroLR hE hti⟩⟩
        · rw [hop] at h3
          rw [makeMap_exec hop, Oper.upon_value]
          refine go ψ.le_refl (M.maker pl ho hmk hd hun hafter rfl ⟨rfl, rfl⟩ hloudi fun f _ f2 => ?_)
          unfold IslObj
          rw [hop]
          exact ⟨rfl, [], #[], 0, push_new _ _, ⟨rfl, rfl, fun i k v e h1 => by simp at h1⟩, by rw [f2]⟩
      · -- a write into an island
        obtain ⟨hmade, hx⟩ := M.write_made pl ho hwr hd hafter
        obtain ⟨L, hL⟩ := Option.isSome_iff_exists.1 hmade
        obtain ⟨_, k, o', g1, g2, g3⟩ := M.obj d L hL
        obtain ⟨k', o'', g1', g2', g3'⟩ := pl.good d hd
        have hkk : k' = k := dsts_uniq pl.dsts g1' g1 (makerOf_dst g2').1 (makerOf_dst g2).1
        subst hkk
        rw [g1] at g1'; injection g1' with g1'; subst g1'
        have hxv : VR ψ (evR fin x) (a.eval x) := by
          cases x with
          | tmp t => exact M.tms t (hx t rfl).1 (hx t rfl).2
          | _ =>
            have hb := hok
            unfold okOper at hb
            rw [Bool.and_eq_true, List.all_eq_true] at hb
            refine evR_const R (B := B) ?_
            rw [M.ng.1]
            refine hb.1 _ ?_
            rcases writeOf_inv hwr with ⟨s, hwr⟩ | ⟨_, t, hwr⟩
            · obtain ⟨_, _, t, e⟩ := insertOf_inv hwr; rw [e]; simp [Op.operands]
            · obtain ⟨_, _, e⟩ := storeOf_inv hwr; rw [e]; simp [Op.operands]
        rcases writeOf_inv hwr with ⟨s, hins⟩ | ⟨hnoins, t, hst⟩
        · obtain ⟨hg, hdst, t, hop⟩ := insertOf_inv hins
          have hw : Region.wanted o (yielded ops a.tmps) = true := by unfold Region.wanted; rw [hg]
          rw [hw]
          simp only [if_true]
          refine .inl ?_
          unfold Oper.wp
          have hent : entryOf fin d o = some (.string s, evR fin x) := by unfold entryOf; rw [hins]; simp [Nat.beq_refl]
          have hmemf : (Value.string s, evR fin x) ∈ A.filterMap (entryOf fin d) := List.mem_filterMap.2 ⟨o, hmem, hent⟩
          unfold IslGood at g3'
          rcases (makerOf_dst g2).2.2 with ⟨t0, hop0⟩ | ⟨t0, hop0⟩
          · rw [hop0] at g3'
            obtain ⟨_, _, he, _⟩ := g3'
            rw [he] at hmemf; cases hmemf
          · rw [hop0] at g3'
            obtain ⟨_, hnost, hbag⟩ := g3'
            have g3c := g3
            unfold IslObj at g3
            rw [hop0] at g3
            obtain ⟨hu, l, fs, cl, hLo, hMR, hperm⟩ := g3
            have hadd := entF_add (entryOf fin d) (fun j => listed.getD j false) (fun j => (listed.setIfInBounds i true).getD j false) 0 A i o _ (Nat.zero_le i) (by simpa using ho) hent hun (getD_set hil)
            have hpp := perm_pairs hbag (entF_sub (entryOf fin d) (fun j => (listed.setIfInBounds i true).getD j false) 0 A) (hadd.trans (List.Perm.cons _ hperm.symm)) rfl
            rw [insert_exec hE R hop (pl.strs o hmem) (show a.eval (.tmp d) = _ from hu) rfl hLo hMR hpp.1 hpp.2, Oper.upon_skip]
            have hlt := lt_of_get hLo
            refine go ψ.le_refl (M.write pl ho hwr hd hL hun hafter hdst (by simp) (fun b hb => by simp only [Array.getElem?_setIfInBounds_ne (Ne.symm hb)]) ⟨rfl, rfl⟩ hloudi fun k2 o2 q1 q2 q3 => ?_)
            have hkk : k2 = k' := dsts_uniq pl.dsts q1 g1 (makerOf_dst q2).1 (makerOf_dst g2).1
            subst hkk
            rw [g1] at q1; injection q1 with q1; subst q1
            unfold IslObj
            rw [hop0]
            refine ⟨hu, l ++ [(.string s, evR fin x)], _, _, by simp [hlt], hMR.push (.string s) hxv, ?_⟩
            exact (List.perm_append_comm.trans (List.Perm.cons _ hperm)).trans hadd.symm
        · obtain ⟨hg, hdst, hop⟩ := storeOf_inv hst
          have hw : Region.wanted o (yielded ops a.tmps) = true := by unfold Region.wanted; rw [hg]
          rw [hw]
          simp only [if_true]
          refine .inl ?_
          unfold Oper.wp
          have hent : storedOf fin d o = some (t, evR fin x) := by unfold storedOf; rw [hst]; simp [Nat.beq_refl]
          have hmemf : (t, evR fin x) ∈ A.filterMap (storedOf fin d) := List.mem_filterMap.2 ⟨o, hmem, hent⟩
          unfold IslGood at g3'
          rcases (makerOf_dst g2).2.2 with ⟨t0, hop0⟩ | ⟨t0, hop0⟩
          · rw [hop0] at g3'
            obtain ⟨ti', hti', _, hstored⟩ := g3'
            rcases hstored with hnil | ⟨v, hv, hvs, hvo⟩
            · rw [hnil] at hmemf; cases hmemf
            rw [hv] at hmemf
            simp only [List.mem_singleton, Prod.mk.injEq] at hmemf
            obtain ⟨rfl, hve⟩ := hmemf
            subst hve
            unfold IslObj at g3
            rw [hop0] at g3
            obtain ⟨hu, ti, us, e, hti, hus, hLo, hcase⟩ := g3
            rw [hti] at hti'; injection hti' with hti'; subst hti'
            have hadd := entF_add (storedOf fin d) (fun j => listed.getD j false) (fun j => (listed.setIfInBounds i true).getD j false) 0 A i o _ (Nat.zero_le i) (by simpa using ho) hent hun (getD_set hil)
            have hsub := entF_sub (storedOf fin d) (fun j => (listed.setIfInBounds i true).getD j false) 0 A
            rw [hv] at hsub
            have hlen1 := hsub.length_le
            rw [hadd.length_eq] at hlen1
            simp only [List.length_cons, List.length_nil] at hlen1
            have hnil : entF (storedOf fin d) (fun j => listed.getD j false) 0 A = [] := List.length_eq_zero_iff.1 (by omega)
            rw [hnil] at hadd
            have hone := List.Perm.eq_singleton hadd
            have hc := hxv.cells
            obtain ⟨w1, r1, r2, r3, r4, ri1, ri2⟩ := store_exec (P := P) hE hop hti (show a.eval (.tmp d) = _ from hu) hLo hus rfl (by rw [← hc.1]; simpa using hvs) (all_one hc hvo)
            rw [r1, Oper.upon_skip]
            refine go ψ.le_refl (M.write pl ho hwr hd hL hun hafter hdst r2 r3 ⟨ri1, ri2⟩ hloudi fun k2 o2 q1 q2 q3 => ?_)
            have hkk : k2 = k' := dsts_uniq pl.dsts q1 g1 (makerOf_dst q2).1 (makerOf_dst g2).1
            subst hkk
            rw [g1] at q1; injection q1 with q1; subst q1
            unfold IslObj
            rw [hop0]
            exact ⟨hu, ti, _, e, hti, by rw [← hc.1]; simpa using hvs, r4, .inr ⟨_, hone, hc⟩⟩
          · rw [hop0] at g3'
            obtain ⟨_, hnost, hbag⟩ := g3'
            rw [hnost] at hmemf; cases hmemf
    | false =>
      have hlk := pl.looks i o mi ho hmi hisl
      have hfar := pl.far o hmem hisl
      have hlooks : ∀ t ∈ looksTo A o, VR ψ ((fin.get t).getD undef) (a.tmps.getD t undef) := by
        intro t ht
        exact M.tms t (hfar.1 t ht) (fun j oj hj hd => (hbits j (looksOk_writer hlk ht (by simpa using hj) hd)).1)
      have cont : ∀ (ψ' : Phi) (u : Value) (a1 : Act) (w1 : World) (m' : Nat) (hm' : Heap), ψ.le ψ' → a1.tmps = a.tmps → a1.defers = a.defers → (∀ d, o.dst = some d → VR ψ' ((fin.get d).getD undef) u) →
          H[m']? = some hm' → RW B ψ' hm' w1 → (∀ (p l : Nat), (loudOf ds A)[p]? = some l → ((l = i ∨ listed.getD l false = true) ↔ p < m')) → m' ≤ (loudOf ds A).length →
          wpAny P .any ops Q fuel (listed.setIfInBounds i true) (a1.put o.dst u) w1 :=
        fun ψ' u a1 w1 m' hm' hle ht1 hd1 hu hHm' R' hloud' hmle' => go hle (M.main pl ho hisl hun hafter hle ht1 hd1 hu hHm' R' hloud' hmle')
      have hwt : Region.wanted o (yielded ops a.tmps) = wantedT A.toArray fin o := by
        rw [yielded_pre pl.pre (pl.guard o hmem)]
        exact wanted_of A.toArray o (by simpa using hlooks)
      have hgd : ms.getD i 0 = mi := by rw [List.getD_eq_getElem?_getD, hmi]; rfl
      have pos : ∀ (p : Nat), (loudOf ds A)[p]? = some i → p = m := by
        intro p hp
        have h1 : ¬ p < m := fun h => by
          have := (M.loud p i hp).2 h
          rw [hun] at this; cases this
        cases p with
        | zero => omega
        | succ p =>
          have hlt : p < (loudOf ds A).length := by
            have := (List.getElem?_eq_some_iff.1 hp).1
            omega
          have ha := List.getElem?_eq_getElem hlt
          have hb := chained_spec pl.chain p _ i ha hp
          rw [hgd] at hb
          have := (M.loud p _ ha).1 (hbits _ hb).1
          omega
      have hq1 : quietOp o.op = true → ∀ (p l : Nat), (loudOf ds A)[p]? = some l → ((l = i ∨ listed.getD l false = true) ↔ p < m) := by
        intro hq p l hl
        obtain ⟨o', _, _, ho', _, hq', _⟩ := pl.loud p l hl
        have hne : l ≠ i := by
          rintro rfl
          rw [ho] at ho'; injection ho' with ho'; subst ho'
          rw [hq] at hq'; cases hq'
        simp only [hne, false_or]
        exact M.loud p l hl
      have hq2 : (loudOf ds A)[m]? = some i → ∀ (p l : Nat), (loudOf ds A)[p]? = some l → ((l = i ∨ listed.getD l false = true) ↔ p < m + 1) := by
        intro hmi p l hl
        constructor
        · rintro (rfl | h)
          · have := pos p hl; omega
          · have := (M.loud p l hl).1 h; omega
        · intro h
          rcases Nat.lt_or_ge p m with h1 | h1
          · exact .inr ((M.loud p l hl).2 h1)
          · have : p = m := by omega
            subst this
            rw [hmi] at hl; injection hl with hl
            exact .inl hl.symm
      rw [hwt]
      cases hw : wantedT A.toArray fin o
      · simp only [Bool.false_eq_true, if_false]
        have hu : ∀ d, o.dst = some d → VR ψ ((fin.get d).getD undef) undef := fun d hd => by
          rw [pl.undef o hmem hisl hw d hd]; exact VR.undef ψ
        cases hq : quietOp o.op
        · obtain ⟨p, hp⟩ := loud_mem ho hisl hq
          have := pos p hp; subst this
          obtain ⟨o', h1, h2, ho', _, _, hh1, hh2, hl⟩ := pl.loud p i hp
          rw [ho] at ho'; injection ho' with ho'; subst ho'
          rw [hHm] at hh1; injection hh1 with hh1; subst hh1
          have he := hl.2 hw; subst he
          exact cont ψ undef a w (p + 1) _ ψ.le_refl rfl rfl hu hh2 R (hq2 hp) (List.getElem?_eq_some_iff.1 hp).1
        · exact cont ψ undef a w m hm ψ.le_refl rfl rfl hu hHm R (hq1 hq) M.mle
      · simp only [if_true]
        refine .inl ?_
        have hops : ∀ x ∈ o.op.operands.toList, VR ψ (evR fin x) (a.eval x) := by
          intro x hx
          cases x with
          | tmp t => exact hlooks t (looks_operand hx)
          | _ =>
            have hb := hok
            unfold okOper at hb
            rw [Bool.and_eq_true, List.all_eq_true] at hb
            have hox := hb.1 _ hx
            exact evR_const R (M.ng.1 ▸ hox)
        unfold Oper.wp
        cases hq : quietOp o.op
        · obtain ⟨p, hp⟩ := loud_mem ho hisl hq
          have := pos p hp; subst this
          obtain ⟨o', h1, h2, ho', _, _, hh1, hh2, hl⟩ := pl.loud p i hp
          rw [ho] at ho'; injection ho' with ho'; subst ho'
          rw [hHm] at hh1; injection hh1 with hh1; subst hh1
          obtain ⟨tm, hag, v, hv, hcase⟩ := hl.1 hw
          have hops' : ∀ x ∈ o.op.operands.toList, VR ψ (evR tm x) (a.eval x) := fun x hx => by
            rw [hag.evR x hx]; exact hops x hx
          have hmle' := (List.getElem?_eq_some_iff.1 hp).1
          rcases hcase with hev | ⟨f, args, h', hev, hc⟩
          · obtain ⟨ψ', w', hle, R', hr⟩ := evOp_goes hE R hev hops'
            rcases hr with ⟨u, hr, hvu⟩ | ⟨hr, rfl⟩
            · rw [hr, Oper.upon_value]
              exact cont ψ' u a w' (p + 1) _ hle rfl rfl (fun d hd => by rw [hv d hd]; exact hvu) hh2 R' (hq2 hp) hmle'
            · rw [hr, Oper.upon_skip]
              exact cont ψ' undef a w' (p + 1) _ hle rfl rfl (fun d hd => by rw [hv d hd]; exact VR.undef ψ') hh2 R' (hq2 hp) hmle'
          · obtain ⟨args', hr, hargs, R'⟩ := evOp_goes hE R hev hops'
            rw [hr]
            have hcall := hcf B ⟨M.ng.1, M.orig, fun b hb => M.old b (.inl hb), M.ng.2.1, M.ng.2.2⟩ f args h' _ ψ w args' hc R' hargs
            unfold CallsF at hcall
            split at hcall
            · rename_i g as w' hrun
              rw [hrun, Oper.upon_enter]
              refine hcall.mono ?_
              rintro en w'' ⟨ψ', u, hle, rfl, hvu, R''⟩
              exact cont ψ' u a w'' (p + 1) _ hle rfl rfl (fun d hd => by rw [hv d hd]; exact hvu) hh2 R'' (hq2 hp) hmle'
            · rename_i u' w' hrun
              rw [hrun, Oper.upon_value]
              obtain ⟨ψ', u, hle, heq, hvu, R''⟩ := hcall
              injection heq with heq; subst heq
              exact cont ψ' _ a w' (p + 1) _ hle rfl rfl (fun d hd => by rw [hv d hd]; exact hvu) hh2 R'' (hq2 hp) hmle'
            · exact hcall.elim
        · have hbt : between ms i (ms.getD i 0) (loudOf ds A) m = true := by
            refine between_of _ _ (fun p l hl hp => ?_) (fun p l hl hp => ?_)
            · cases hb : (ms.getD l 0).testBit i with
              | false => rfl
              | true =>
                exfalso
                obtain ⟨o', _, _, ho', _⟩ := pl.loud p l hl
                obtain ⟨ml, hml⟩ := pl.mask ho'
                have hgl : ms.getD l 0 = ml := by rw [List.getD_eq_getElem?_getD, hml]; rfl
                rw [hgl] at hb
                have := (pl.closed_mask M.clos ho' hml (fun e he hbd => M.clos l o' ((M.loud p l hl).2 hp) (by simpa using ho') e he hbd) i hb).1
                rw [hun] at this; cases this
            · cases hb : (ms.getD i 0).testBit l with
              | false => rfl
              | true =>
                exfalso
                rw [hgd] at hb
                have := (M.loud p l hl).1 (hbits l hb).1
                omega
          have hqa := pl.quiet i o ho hisl hq hw m hm hHm hbt
          unfold quietAt at hqa
          split at hqa
          · rename_i v h' hev
            rw [Bool.and_eq_true] at hqa
            have hh := quiet_still hq v h' hev (beq_eq hqa.1)
            subst hh
            obtain ⟨ψ', w', hle, R', hr⟩ := evOp_goes hE R hev hops
            have hv : ∀ d, o.dst = some d → (fin.get d).getD undef = v := fun d hd => by
              have := hqa.2
              rw [hd] at this
              exact (veq_sound _ _ _ this).symm
            rcases hr with ⟨u, hr, hvu⟩ | ⟨hr, rfl⟩
            · rw [hr, Oper.upon_value]
              exact cont ψ' u a w' m _ hle rfl rfl (fun d hd => by rw [hv d hd]; exact hvu) hHm R' (hq1 hq) M.mle
            · rw [hr, Oper.upon_skip]
              exact cont ψ' undef a w' m _ hle rfl rfl (fun d hd => by rw [hv d hd]; exact VR.undef ψ') hHm R' (hq1 hq) M.mle
          · cases hqa

end Go.Vd

/- A drawn region. -/
namespace Go.Vd
variable {φ : Phi} {h : Heap} {P : Program} {E : Env}

/-- Where all that is left waits for all before it. -/
theorem tail_wp {ops : Array Oper} {Q : Exit → Act → World → Prop} : ∀ (n k : Nat) (listed : Array Bool), k + n = ops.size → listed.size = ops.size → (∀ i, i < k → listed.getD i false = true) → (∀ i, k ≤ i → listed.getD i false = false) →
    (∀ (i : Nat) (o : Oper), k ≤ i → ops[i]? = some o → waitsAll i o = true ∧ ∀ e ∈ o.after, Region.binds .any e = true → e.on < i) →
    ∀ a w, wpOps P ops Q (List.range' k n) a w → wpAny P .any ops Q n listed a w
  | 0, k, listed, hk, hsz, h1, h2, hw, a, w, hq => by
    refine ⟨?_, hq⟩
    rw [List.eq_nil_iff_forall_not_mem]
    intro i hi
    obtain ⟨h0, o, ho, _⟩ := mem_ready.1 hi
    have hi' : i < ops.size := (Array.getElem?_eq_some_iff.1 ho).1
    have := h1 i (by omega)
    have hil : i < listed.size := by omega
    have e1 : listed.getD i true = listed.getD i false := by
      rw [Array.getD_eq_getD_getElem?, Array.getD_eq_getD_getElem?, Array.getElem?_eq_getElem hil]; rfl
    rw [e1, this] at h0; cases h0
  | n + 1, k, listed, hk, hsz, h1, h2, hw, a, w, hq => by
    have hkl : k < ops.size := by omega
    have ho := Array.getElem?_eq_getElem hkl
    have hkk : k < listed.size := by omega
    refine ⟨fun hr => ?_, fun i hi => ?_⟩
    · exfalso
      have : k ∈ Region.ready .any ops listed := by
        rw [mem_ready]
        refine ⟨?_, ops[k], ho, fun e he hb => h1 _ ((hw k _ (Nat.le_refl k) ho).2 e he hb)⟩
        have := h2 k (Nat.le_refl k)
        simp only [Array.getD, hkk] at this ⊢
        simpa using this
      rw [hr] at this; cases this
    · obtain ⟨h0, o, hoi, hafter⟩ := mem_ready.1 hi
      have hi' : i < ops.size := (Array.getElem?_eq_some_iff.1 hoi).1
      have hil : i < listed.size := by omega
      have hun : listed.getD i false = false := by simpa [Array.getD, hil] using h0
      have hik : i = k := by
        rcases Nat.lt_trichotomy i k with h | h | h
        · rw [h1 i h] at hun; cases hun
        · exact h
        · exfalso
          have hwi := (hw i o (by omega) hoi).1
          unfold waitsAll at hwi
          rw [List.all_eq_true] at hwi
          have := hwi k (by rw [List.mem_range]; exact h)
          rw [List.any_eq_true] at this
          obtain ⟨e, he, hb⟩ := this
          rw [Bool.and_eq_true] at hb
          have := hafter e (by simpa using he) hb.1
          rw [beq_eq hb.2, h2 k (Nat.le_refl k)] at this; cases this
      subst hik
      rw [List.range'_succ, wpOps_cons] at hq
      refine wpOp_mono (fun a' w' h => tail_wp n (i + 1) _ (by omega) (by rw [Array.size_setIfInBounds]; exact hsz) (fun j hj => ?_) (fun j hj => ?_) (fun j o' hj hoj => hw j o' (by omega) hoj) a' w' h) hq
      · rw [getD_set hkk]
        rcases Nat.lt_or_ge j i with h | h
        · exact .inr (h1 j h)
        · exact .inl (by omega)
      · cases hb : (listed.setIfInBounds i true).getD j false with
        | false => rfl
        | true =>
          rcases (getD_set hkk j).1 hb with h | h
          · omega
          · rw [h2 j (by omega)] at h; cases h

/-- Cells of a block laid aside, as a new row. -/
theorem Row.taken {B2 : Base} {H : Array Obj} {c us : List Value} {esz L : Nat} {e : TypeId} (hnone : φ h.next = none) (hL : H[L]? = some (.cells us.toArray e (0, 0))) (hc : LR φ c us) (hno : ¬ B2.keep L) :
    Row B2 (φ.put h.next ⟨L, 0, us.length, esz⟩) (h.add (.cells c ⟨esz, h.next, 0, 0, h.next, false, 0, false⟩)) H c ⟨esz, h.next, 0, 0, h.next, false, 0, false⟩ ⟨L, 0, us.length, esz⟩ := by
  refine ⟨rfl, ?_, Nat.lt_succ_self _, (fun hro => by cases hro), ?_, ?_⟩
  · intro _ j x hj
    obtain ⟨y, hy, hv⟩ := hc.getElem? hj
    refine ⟨y, ?_, hv.mono (Phi.le_put _ hnone)⟩
    unfold cellH; rw [hL]; simpa using hy
  · intro _
    exact ⟨hno, us.toArray, e, (0, 0), hL, by simp, fun k _ _ => notFrozen0 k, fun _ => notFrozen0 _⟩
  · intro _
    refine ⟨c, ⟨esz, h.next, 0, 0, h.next, false, 0, false⟩, get_add_new _, rfl, rfl, Nat.le_refl _, fun _ => ?_⟩
    exact ⟨c, _, _, get_add_new _, rfl, rfl, Phi.put_same _ _ _, fun _ => Nat.le_refl _⟩

theorem perm_short {α : Type} {l es : List α} (h : l.Perm es) (hs : Nat.ble es.length 1 = true) : l = es := by
  have := ble_le hs
  match es, this with
  | [], _ => exact h.eq_nil
  | [x], _ => exact h.eq_singleton

theorem adopt_all (hE : TysOK P E) {B0 : Base} {A : List Oper} {ds : List Nat} {fin : Tm} {ψ : Phi} {a : Act} {w : World} {ι : Nat → Option Nat}
    (hdst : dstsOk A = true)
    (hobj : ∀ d L, ι d = some L → ∃ (k : Nat) (o : Oper), A[k]? = some o ∧ makerOf o = some d ∧ IslObj E A fin ψ (fun _ => true) w.heap (a.tmps.getD d undef) d L o)
    (hinj : ∀ d d' L, ι d = some L → ι d' = some L → d = d') (hfresh : ∀ d L, ι d = some L → ¬ B0.keep L) (hsome : ∀ d ∈ ds, (ι d).isSome = true) : ∀ (ds' : List Nat) (B : Base) (φ : Phi) (tm tm' : Tm) (h h' : Heap), nodupN ds' = true → (∀ d ∈ ds', d ∈ ds) →
    RW B φ h w → (B.ng = B0.ng ∧ B.os = B0.os ∧ B.output = B0.output) → B.orig = B0.orig → (∀ b, B.isl b ↔ B0.isl b ∨ ∃ d ∈ ds', ι d = some b) → (∀ b, B0.keep b → B.heap[b]? = B0.heap[b]?) → ψ.le φ →
    (∀ t, t ∉ ds' → VR φ ((tm.get t).getD undef) (a.tmps.getD t undef)) → evIsl E A fin ds' tm h = some (tm', h') →
    ∃ χ, φ.le χ ∧ RW B0 χ h' w ∧ ∀ t, VR χ ((tm'.get t).getD undef) (a.tmps.getD t undef)
  | [], B, φ, tm, tm', h, h', _, _, R, hng, horig, hisl, hold, hle, htm, hev => by
    injection hev with hev
    simp only [Prod.mk.injEq] at hev
    obtain ⟨rfl, rfl⟩ := hev
    have hk : ∀ b, B0.keep b ↔ B.keep b := fun b => by
      unfold Base.keep
      rw [horig, hisl]; simp
    refine ⟨φ, φ.le_refl, .mk (R.rebase hng.1.symm horig.symm (fun b hb => R.size b ((hk b).1 hb)) (fun b hb => by rw [R.old b ((hk b).1 hb)]; exact hold b hb) (fun b _ hn hb => hn ((hk b).1 hb)) (fun b _ hn hb => hn ((hisl b).2 (.inl hb))) (fun _ _ _ => rfl)) ⟨R.io.1.trans hng.2.1, R.io.2.trans hng.2.2⟩, fun t => htm t (by simp)⟩
  | d :: ds', B, φ, tm, tm', h, h', hnd, hds, R, hng, horig, hisl, hold, hle, htm, hev => by
    unfold nodupN at hnd
    rw [Bool.and_eq_true] at hnd
    have hdn : d ∉ ds' := fun hm => by rw [memN_iff.2 hm] at hnd; exact absurd hnd.1 (by simp)
    obtain ⟨L, hL⟩ := Option.isSome_iff_exists.1 (hsome d (hds d List.mem_cons_self))
    obtain ⟨k, o, ho, hmk, hI⟩ := hobj d L hL
    have hnone := R.next _ (Nat.le_refl h.next)
    have hmf : makerFor A d = some o := by
      cases hf : makerFor A d with
      | none =>
        unfold makerFor at hf
        rw [List.find?_eq_none] at hf
        have := hf o (List.mem_of_getElem? ho)
        rw [hmk] at this
        simp [Nat.beq_refl] at this
      | some o' =>
        unfold makerFor at hf
        have h1 := List.find?_some hf
        obtain ⟨k', hk'⟩ := List.getElem?_of_mem (List.mem_of_find?_eq_some hf)
        split at h1
        · rename_i d' hd'
          have := beq_eq h1; subst this
          have := dsts_uniq hdst hk' ho (makerOf_dst hd').1 (makerOf_dst hmk).1
          subst this
          rw [ho] at hk'; exact hk'.symm
        · cases h1
    have hBL : B.isl L := (hisl L).2 (.inr ⟨d, List.mem_cons_self, hL⟩)
    have step : ∀ (x : Blk) (M : Loc) (val : Value), M.blk = L →
        (∀ c b, x = .cells c b → Row { B with isl := fun b => B.isl b ∧ b ≠ L } (φ.put h.next M) (h.add x) w.heap c b M) →
        (∀ es, x = .map es → MapR (φ.put h.next M) es w.heap[M.blk]?) → (∀ s pos, x ≠ .iter s pos) → (∀ es, x = .bag es → BagR (φ.put h.next M) es w.heap[M.blk]?) →
        VR (φ.put h.next M) val (a.tmps.getD d undef) → evIsl E A fin ds' (tm.set d val) (h.add x) = some (tm', h') →
        ∃ χ, φ.le χ ∧ RW B0 χ h' w ∧ ∀ t, VR χ ((tm'.get t).getD undef) (a.tmps.getD t undef) := by
      intro x M val hM hrow hmap hiter hbag hval hev
      subst hM
      have hno : ¬ Base.keep { B with isl := fun b => B.isl b ∧ b ≠ M.blk } M.blk := by
        rintro (h1 | h1)
        · exact hfresh d _ hL (.inl (horig ▸ h1))
        · exact h1.2 rfl
      have R2 := R.adopt (B2 := { B with isl := fun b => B.isl b ∧ b ≠ M.blk }) x M hBL rfl rfl (fun b hb => hb.1) hno (fun _ _ => rfl) hrow hmap hiter hbag
      have hle2 := Phi.le_put (φ := φ) M hnone
      obtain ⟨χ, c1, c2, c3⟩ := adopt_all hE hdst hobj hinj hfresh hsome ds' _ _ (tm.set d val) tm' (h.add x) h' hnd.2 (fun d' hd' => hds d' (List.mem_cons_of_mem _ hd')) (.mk R2 R.io) hng horig (fun b => by
        show (B.isl b ∧ b ≠ M.blk) ↔ _
        rw [hisl]
        constructor
        · rintro ⟨h1 | ⟨d', hd', h1⟩, h2⟩
          · exact .inl h1
          · rcases List.mem_cons.1 hd' with rfl | hd'
            · rw [hL] at h1; injection h1 with h1; exact absurd h1.symm h2
            · exact .inr ⟨d', hd', h1⟩
        · rintro (h1 | ⟨d', hd', h1⟩)
          · exact ⟨.inl h1, fun e => hfresh d _ hL (.inr (e ▸ h1))⟩
          · exact ⟨.inr ⟨d', List.mem_cons_of_mem _ hd', h1⟩, fun e => hdn (hinj d' d _ (e ▸ h1) hL ▸ hd')⟩) hold (Phi.le_trans hle hle2) (fun t ht => by
        rw [Tm.get_set]
        by_cases e : t = d
        · subst e; rw [if_pos rfl]; exact hval
        · rw [if_neg e]
          exact (htm t (fun hm => by rcases List.mem_cons.1 hm with h | h; exact e h; exact ht h)).mono hle2) hev
      exact ⟨χ, Phi.le_trans hle2 c1, c2, c3⟩
    unfold evIsl at hev
    rw [hmf] at hev
    simp only at hev
    have hnoB : ¬ Base.keep { B with isl := fun b => B.isl b ∧ b ≠ L } L := by
      rintro (h1 | h1)
      · exact hfresh d _ hL (.inl (horig ▸ h1))
      · exact h1.2 rfl
    have hall : ∀ {β : Type} (f : Oper → Option β), entF f (fun _ => true) 0 A = A.filterMap f := fun f => entF_all f _ 0 A fun _ _ _ => rfl
    unfold IslObj at hI
    rcases (makerOf_dst hmk).2.2 with ⟨t, hop⟩ | ⟨t, hop⟩
    · rw [hop] at hI hev
      simp only at hev
      obtain ⟨hu, ti, us, e, hti, hus, hLo, hcase⟩ := hI
      rw [hti] at hev
      simp only at hev
      obtain ⟨hempty, hev⟩ := cond_some hev
      rw [hall] at hcase
      have fin_case : ∀ c, LR φ c us → evIsl E A fin ds' (tm.set d (ptr h.next 0)) (h.new c ti.size) = some (tm', h') → ∃ χ, φ.le χ ∧ RW B0 χ h' w ∧ ∀ t, VR χ ((tm'.get t).getD undef) (a.tmps.getD t undef) := by
        intro c hc hev
        refine step _ ⟨L, 0, us.length, ti.size⟩ (ptr h.next 0) rfl (fun c' b' he => ?_) (fun es he => by cases he) (fun s p he => by cases he) (fun es he => by cases he) ?_ hev
        · injection he with h1 h2
          subst h1 h2
          exact Row.taken hnone hLo hc hnoB
        · rw [hu]
          have := VR.ptr h.next 0 _ (Phi.put_same φ h.next ⟨L, 0, us.length, ti.size⟩)
          simpa [ptr] using this
      split at hev
      · rename_i hnil
        rcases hcase with ⟨_, hc⟩ | ⟨p, hp, _⟩
        · exact fin_case _ (hc.mono hle) hev
        · rw [hnil] at hp; cases hp
      · rename_i t' v hone
        obtain ⟨_, hev⟩ := cond_some hev
        rcases hcase with ⟨hn, _⟩ | ⟨p, hp, hc⟩
        · rw [hn] at hone; cases hone
        · rw [hone] at hp; injection hp with hp; subst hp
          exact fin_case _ (hc.mono hle) hev
      · cases hev
    · rw [hop] at hI hev
      simp only at hev
      obtain ⟨hu, l, fs, cl, hLo, hMR, hperm⟩ := hI
      obtain ⟨hb, hev⟩ := cond_some hev
      rw [Bool.and_eq_true, Bool.and_eq_true] at hb
      rw [hall] at hperm
      have hle2 := Phi.le_put (φ := φ) ⟨L, 0, 0, 0⟩ hnone
      refine step _ ⟨L, 0, 0, 0⟩ (.map (some h.next)) rfl (fun c b he => ?_) (fun es he => ?_) (fun s p he => ?_) (fun es he => ?_) ?_ hev
      · unfold mapBlk at he
        cases hbb : Nat.ble (List.filterMap (entryOf fin d) A).length 1 <;> rw [hbb] at he <;> cases he
      · unfold mapBlk at he
        cases hbb : Nat.ble (List.filterMap (entryOf fin d) A).length 1
        · rw [hbb] at he; cases he
        · rw [hbb] at he
          simp only [cond_true] at he
          injection he with he; subst he
          rw [hLo, ← perm_short hperm hbb]
          exact hMR.mono (Phi.le_trans hle hle2)
      · unfold mapBlk at he
        cases hbb : Nat.ble (List.filterMap (entryOf fin d) A).length 1 <;> rw [hbb] at he <;> cases he
      · unfold mapBlk at he
        cases hbb : Nat.ble (List.filterMap (entryOf fin d) A).length 1
        · rw [hbb] at he
          simp only [cond_false] at he
          injection he with he; subst he
          exact ⟨hb.2.2, l, hperm, by rw [hLo]; exact hMR.mono (Phi.le_trans hle hle2)⟩
        · rw [hbb] at he; cases he
      · rw [hu]
        exact VR.map h.next ⟨L, 0, 0, 0⟩ (Phi.put_same _ _ _)

end Go.Vd

/- A drawn region. -/
namespace Go.Vd
variable {φ : Phi} {h : Heap} {P : Program} {E : Env}

theorem coreLen_le : ∀ (l : List Oper) (k c : Nat), c ≤ k → coreLen l k c ≤ k + l.length
  | [], k, c, h => by unfold coreLen; simpa using h
  | o :: r, k, c, h => by
    unfold coreLen
    have := coreLen_le r (k + 1) (bif waitsAll k o then c else k + 1) (by cases waitsAll k o <;> simp <;> omega)
    simp only [List.length_cons]
    omega

theorem evIsl_good {A : List Oper} {fin : Tm} : ∀ (ds : List Nat) (tm : Tm) (h : Heap) (r : Tm × Heap), evIsl E A fin ds tm h = some r → ∀ d ∈ ds, ∃ (k : Nat) (o : Oper), A[k]? = some o ∧ makerOf o = some d ∧ IslGood E A fin d o
  | [], _, _, _, _, d, hd => by cases hd
  | d :: ds, tm, h, r, hev, d', hd' => by
    unfold evIsl at hev
    split at hev
    · rename_i o hmf
      have hmk : ∃ (k : Nat), A[k]? = some o ∧ makerOf o = some d := by
        unfold makerFor at hmf
        have h1 := List.find?_some hmf
        obtain ⟨k, hk⟩ := List.getElem?_of_mem (List.mem_of_find?_eq_some hmf)
        refine ⟨k, hk, ?_⟩
        split at h1
        · rename_i d2 hd2
          rw [beq_eq h1]; exact hd2
        · cases h1
      obtain ⟨k, hk, hm⟩ := hmk
      have here : ∀ {tm2 h2}, IslGood E A fin d o → evIsl E A fin ds tm2 h2 = some r → ∃ (k : Nat) (o : Oper), A[k]? = some o ∧ makerOf o = some d' ∧ IslGood E A fin d' o := by
        intro tm2 h2 hg hev2
        rcases List.mem_cons.1 hd' with rfl | hd'
        · exact ⟨k, o, hk, hm, hg⟩
        · exact evIsl_good ds tm2 h2 r hev2 d' hd'
      split at hev
      · rename_i t hop
        split at hev
        · rename_i ti hti
          obtain ⟨h1, hev⟩ := cond_some hev
          have h1' : A.filterMap (entryOf fin d) = [] := by simpa using h1
          split at hev
          · rename_i hnil
            refine here ?_ hev
            unfold IslGood; rw [hop]
            exact ⟨ti, hti, h1', .inl hnil⟩
          · rename_i t' v hone
            obtain ⟨h2, hev⟩ := cond_some hev
            rw [Bool.and_eq_true, Bool.and_eq_true] at h2
            refine here ?_ hev
            unfold IslGood; rw [hop]
            have := beq_eq h2.1; subst this
            exact ⟨ti, hti, h1', .inr ⟨v, hone, beq_eq h2.2.1, h2.2.2⟩⟩
          · cases hev
        · cases hev
      · rename_i t hop
        obtain ⟨h1, hev⟩ := cond_some hev
        rw [Bool.and_eq_true, Bool.and_eq_true] at h1
        refine here ?_ hev
        unfold IslGood; rw [hop]
        exact ⟨h1.1, by simpa using h1.2.1, h1.2.2⟩
      · cases hev
    · cases hev

theorem tailOk_spec : ∀ (l : List Oper) (k : Nat), tailOk l k = true → ∀ (i : Nat) (o : Oper), l[i]? = some o → waitsAll (k + i) o = true ∧ ∀ e ∈ o.after, Region.binds .any e = true → e.on < k + i
  | [], _, _, i, o, h => by simp at h
  | x :: l, k, h, i, o, hi => by
    unfold tailOk at h
    rw [Bool.and_eq_true, Bool.and_eq_true] at h
    cases i with
    | zero =>
      simp at hi; subst hi
      refine ⟨h.1, fun e he hb => ?_⟩
      have := h.2.1
      rw [List.all_eq_true] at this
      have := this e (by simpa using he)
      rw [hb] at this
      unfold Nat.blt at this
      exact ble_le (by simpa using this)
    | succ i =>
      have := tailOk_spec l (k + 1) h.2.2 i o (by simpa using hi)
      rw [show k + (i + 1) = k + 1 + i from by omega]
      exact this

theorem evDraw_wp (hE : TysOK P E) (hmix : P.follows .mixedOrders = true) {B : Base} {w : World} {cf : Nat → List Value → Heap → Option CR} (hcf : ∀ B2 : Base, B2.like B → CfOK B2 P cf) {nt : Nat} {ops : Array Oper} {id : Nat} {s s' : St} {a : Act} {e : Exit}
    (hd : okDraw ops.toList = true) (hok : ops.toList.all (okOper B.ng nt) = true) (hev : evDraw E cf ops s = some (e, s')) (S : SR B nt φ s a w) : (Code.region id ops true).wp P (Post B nt φ e s') a w := by
  unfold evDraw at hev
  unfold okDraw at hd
  rw [Bool.and_eq_true] at hd
  obtain ⟨hd0, htail⟩ := hd
  generalize hds : regDs (coreOf ops.toList) = ds at hev hd0
  have hcl : coreLen ops.toList 0 0 ≤ ops.toList.length := by
    have := coreLen_le ops.toList 0 0 (Nat.le_refl 0)
    omega
  generalize hc : coreLen ops.toList 0 0 = c at hev htail hcl
  have hAlen : (coreOf ops.toList).length = c := by
    unfold coreOf; rw [hc, List.length_take]; omega
  have hApre : ∀ (i : Nat) (o : Oper), (coreOf ops.toList)[i]? = some o → ops[i]? = some o := by
    intro i o hi
    unfold coreOf at hi
    rw [List.getElem?_take] at hi
    split at hi
    · simpa using hi
    · cases hi
  generalize hA : coreOf ops.toList = A at hev hd0 htail hAlen hApre
  rw [hAlen] at htail
  unfold evDraw2 at hev
  split at hev
  · rename_i fin hs ms href hms
    obtain ⟨hqs, hev⟩ := cond_some hev
    rw [Bool.and_eq_true, Bool.and_eq_true] at hqs
    obtain ⟨hqs, hnd, hstr⟩ := hqs
    split at hev
    · rename_i tm h' hisl
      unfold okMasks at hd0
      rw [hms] at hd0
      simp only [Bool.and_eq_true] at hd0
      obtain ⟨⟨hd1, hd2⟩, hd3⟩ := hd0
      have hat : ∀ (k : Nat) (o : Oper) (m : Nat), A[k]? = some o → ms[k]? = some m → okAt A ds o m = true := by
        intro k o m ho hm
        rw [List.all_eq_true] at hd1
        exact hd1 (o, m) (List.mem_of_getElem? (i := k) (by rw [List.getElem?_zip_eq_some]; exact ⟨ho, hm⟩))
      have hmasks : ∀ (k : Nat) (o : Oper), A[k]? = some o → ∃ m, ms[k]? = some m := by
        intro k o ho
        obtain ⟨m, h, _⟩ := masks_at (ops := A.toArray) (by simpa using hms) (k := k) (o := o) (by simpa using ho)
        exact ⟨m, h⟩
      have hlooks : ∀ (k : Nat) (o : Oper) (m : Nat), A[k]? = some o → ms[k]? = some m → isle ds o = false → looksOk A m o = true := by
        intro k o m ho hm hi
        have := hat k o m ho hm
        unfold okAt at this
        rw [hi] at this
        simp only [cond_false, Bool.and_eq_true] at this
        exact this.2.1.1
      obtain ⟨f1, f2, f3, f4⟩ := evRef_facts (ops := A.toArray) (by simpa using hms) (fun k o m ho hm hi => by simpa using hlooks k o m (by simpa using ho) hm hi) (by simpa using hd2) A 0 s.tm s.h hs href (by simp)
      have pl : Plan B E cf ops A ds nt ms fin (s.h :: hs) := {
        pre := hApre
        upto := by rw [hAlen]; simpa using hcl
        wait := fun i o hi ho => by
          rw [hAlen] at hi
          have := (tailOk_spec _ _ htail (i - c) o (by rw [List.getElem?_drop, show c + (i - c) = i from by omega]; simpa using ho)).1
          rw [show c + (i - c) = i from by omega] at this
          exact this
        guard := fun o ho => by
          obtain ⟨k, hk⟩ := List.getElem?_of_mem ho
          obtain ⟨m, hm⟩ := hmasks k o hk
          have := hat k o m hk hm
          unfold okAt at this
          rw [Bool.and_eq_true] at this
          exact this.1
        masks := hms
        looks := hlooks
        far := fun o ho hi => by
          obtain ⟨k, hk⟩ := List.getElem?_of_mem ho
          obtain ⟨m, hm⟩ := hmasks k o hk
          have := hat k o m hk hm
          unfold okAt at this
          rw [hi] at this
          simp only [cond_false, Bool.and_eq_true] at this
          obtain ⟨_, ⟨_, h1⟩, h2⟩ := this
          refine ⟨fun t ht hm => ?_, fun d hd hm => ?_⟩
          · rw [List.all_eq_true] at h1
            have := h1 t ht
            rw [memN_iff.2 hm] at this; cases this
          · rw [hd] at h2
            simp only [memN_iff.2 hm] at h2; cases h2
        puts := fun k o m d x ho hm hi hw => by
          have := hat k o m ho hm
          unfold okAt at this
          rw [hi, hw] at this
          simp only [cond_true, Bool.and_eq_true] at this
          obtain ⟨_, ⟨h1, h2⟩, h3⟩ := this
          refine ⟨h1, h2, ?_⟩
          rw [List.any_eq_true] at h3
          obtain ⟨⟨o', k'⟩, hmem, h3⟩ := h3
          rw [Bool.and_eq_true] at h3
          refine ⟨k', o', by rw [List.mem_zipIdx_iff_getElem?] at hmem; simpa using hmem, ?_, h3.2⟩
          have h4 := h3.1
          split at h4
          · rename_i d' hd'; rw [beq_eq h4]; exact hd'
          · cases h4
        dsts := hd2
        good := evIsl_good ds fin _ _ hisl
        strs := fun o ho => by rw [List.all_eq_true] at hstr; exact hstr o ho
        chain := hd3
        ok := fun o ho => by
          rw [List.all_eq_true] at hok
          refine hok o ?_
          rw [← hA] at ho
          exact List.mem_of_mem_take ho
        len := by simp [f2, loudOf, loudFrom]
        loud := fun p l hl => by
          obtain ⟨o, h1, h2, g1, g2, g3, g4, g5, g6⟩ := f3 p l hl
          exact ⟨o, h1, h2, by simpa using g1, g2, g3, g4, g5, g6⟩
        undef := f4
        quiet := fun i o ho hi hq hw m hm hH hb => by
          have := quietsOk_spec A 0 hqs i o (by simpa using ho) hi hq hw
          rw [Nat.zero_add] at this
          exact quietAll_spec _ 0 this m hm hH (by rw [Nat.zero_add]; exact hb) }
      refine wp_region_any hmix ?_
      have hlast : (s.h :: hs)[(loudOf ds A).length]? = some ((s.h :: hs).getLast (by simp)) := by
        have hl := pl.len
        rw [List.getLast_eq_getElem, List.getElem?_eq_getElem (by omega)]
        congr 2
        omega
      have hrep : ∀ j, (Array.replicate ops.size false).getD j false = false := by
        intro j
        rw [Array.getD_eq_getD_getElem?, Array.getElem?_replicate]
        split <;> rfl
      have M0 : Mid B B E ops A ds nt fin (s.h :: hs) s.df (Array.replicate ops.size false) φ a { w with drawn := w.drawn + 1 } 0 (fun _ => none) := {
        lsz := by simp
        clos := fun i o hi => by simp only [hrep] at hi; cases hi
        tail := fun i _ => hrep i
        tsz := S.size
        dfs := S.df
        tms := fun t _ ht => by
          rw [f1 t (fun o ho _ hd => by
            obtain ⟨j, hj⟩ := List.getElem?_of_mem ho
            have := ht j o (by simpa using hj) hd
            rw [hrep] at this; cases this)]
          exact S.tm t
        heap := ⟨s.h, rfl, .mk S.rel.toRel S.rel.io⟩
        loud := fun p l _ => by rw [hrep]; simp
        mle := Nat.zero_le _
        ng := ⟨rfl, rfl, rfl⟩
        orig := rfl
        isl := fun b => by simp
        old := fun _ _ => rfl
        inj := fun d d' L h => by cases h
        fresh := fun d L h => by cases h
        made := fun k o d _ _ _ => by rw [hrep]; simp
        obj := fun d L h => by cases h }
      refine draw_any hE hcf pl (df := s.df) ops.size _ B φ a _ 0 _ (by simp) M0 ?_
      intro fuel' listed' B' ψ' a' w' ι' hle M hall hcnt
      obtain ⟨hm, hHm, R⟩ := M.heap
      rw [hlast] at hHm
      injection hHm with hHm; subst hHm
      have hsome : ∀ d ∈ ds, (ι' d).isSome = true := by
        intro d hdd
        obtain ⟨k, o, h1, h2, _⟩ := pl.good d hdd
        exact (M.made k o d h1 h2 hdd).1 (hall k (List.getElem?_eq_some_iff.1 h1).1)
      have hobj : ∀ d L, ι' d = some L → ∃ (k : Nat) (o : Oper), A[k]? = some o ∧ makerOf o = some d ∧ IslObj E A fin ψ' (fun _ => true) w'.heap (a'.tmps.getD d undef) d L o := by
        intro d L hL
        obtain ⟨_, k, o, h1, h2, h3⟩ := M.obj d L hL
        have same : ∀ {β : Type} (f : Oper → Option β), entF f (fun _ => true) 0 A = entF f (fun i => listed'.getD i false) 0 A := fun f => by
          refine entF_same f _ _ 0 A fun i o _ hi _ => ?_
          rw [Nat.sub_zero] at hi
          exact (hall i (List.getElem?_eq_some_iff.1 hi).1).symm
        exact ⟨k, o, h1, h2, h3.keep ψ'.le_refl rfl (same _) (same _)⟩
      obtain ⟨χ, x1, x2, x3⟩ := adopt_all hE hd2 hobj M.inj M.fresh hsome ds B' ψ' fin tm _ h' hnd (fun _ h => h) R M.ng M.orig (fun b => by
        rw [M.isl]
        constructor
        · rintro (h | ⟨d, h⟩)
          · exact .inl h
          · exact .inr ⟨d, (M.obj d b h).1, h⟩
        · rintro (h | ⟨d, _, h⟩)
          · exact .inl h
          · exact .inr ⟨d, h⟩) M.old ψ'.le_refl (fun t ht => M.tms t ht fun j oj hj _ => hall j (List.getElem?_eq_some_iff.1 hj).1) hisl
      have S2 : SR B nt χ ⟨tm, s.df, h'⟩ a' w' := ⟨x2, M.tsz, x3, M.dfs.mono x1⟩
      have hrest : (ops.toList.drop c).length = ops.size - c := by simp
      have hfuel : fuel' = ops.size - c := by
        have hsz := M.lsz
        have hl1 : ∀ i, i < c → listed'.toList[i]? = some true := by
          intro i hi
          have h1 := hall i (by rw [hAlen]; exact hi)
          have h2 : i < listed'.size := by rw [hsz]; simp at hcl; omega
          rw [Array.getElem?_toList, Array.getElem?_eq_getElem h2]
          simpa [Array.getD, h2] using h1
        have hl2 : ∀ i, c ≤ i → i < ops.size → listed'.toList[i]? = some false := by
          intro i hi hlt
          have h1 := M.tail i (by rw [hAlen]; exact hi)
          have h2 : i < listed'.size := by rw [hsz]; exact hlt
          rw [Array.getElem?_toList, Array.getElem?_eq_getElem h2]
          simpa [Array.getD, h2] using h1
        have heq : listed'.toList = List.replicate c true ++ List.replicate (ops.size - c) false := by
          apply List.ext_getElem?
          intro i
          rcases Nat.lt_or_ge i c with h1 | h1
          · rw [hl1 i h1, List.getElem?_append_left (by simpa using h1), List.getElem?_replicate, if_pos h1]
          · rw [List.getElem?_append_right (by simpa using h1), List.getElem?_replicate]
            rcases Nat.lt_or_ge i ops.size with h2 | h2
            · rw [hl2 i h1 h2, if_pos (by simp; omega)]
            · rw [if_neg (by simp; omega), List.getElem?_eq_none]
              simp [hsz]; exact h2
        rw [← hcnt, heq, List.count_append, List.count_replicate, List.count_replicate]
        simp
      subst hfuel
      have hcs : c ≤ ops.size := by simpa using hcl
      refine tail_wp (ops.size - c) c listed' (by omega) M.lsz (fun i hi => hall i (by rw [hAlen]; exact hi)) (fun i hi => M.tail i (by rw [hAlen]; exact hi)) (fun i o hi ho => ?_) a' w' ?_
      · have := tailOk_spec _ _ htail (i - c) o (by rw [List.getElem?_drop, show c + (i - c) = i from by omega]; simpa using ho)
        rw [show c + (i - c) = i from by omega] at this
        exact this
      · have := evOps_wp hE (hcf B (.refl B)) ops (Q := Post B nt φ e s') (ops.toList.drop c) c χ ⟨tm, s.df, h'⟩ a' w' rfl (by
          rw [List.all_eq_true] at hok ⊢
          exact fun o ho => hok o (List.mem_of_mem_drop ho)) hev S2 (fun e' a'' w'' hp => hp.mono (Phi.le_trans hle x1))
        rw [hrest] at this
        exact this
    · cases hev
  · cases hev

end Go.Vd

/- Code. -/
namespace Go.Vd
variable {B : Base} {φ : Phi} {h : Heap} {P : Program} {w : World} {E : Env}

def okCode (ng nt : Nat) : Code → Bool
  | .region _ ops draw => ops.toList.all (okOper ng nt) && (!draw || okDraw ops.toList)
  | .seq a b => okCode ng nt a && okCode ng nt b
  | .cond c a b => okO ng c && okCode ng nt a && okCode ng nt b
  | .block _ b => okCode ng nt b
  | .loop b => okCode ng nt b
  | .scope b => okCode ng nt b
  | _ => true

theorem okCode_findLabel {ng nt : Nat} : ∀ {c rest : Code} {l : Nat}, okCode ng nt c = true → findLabel c l = some rest → okCode ng nt rest = true
  | .seq a b, rest, l, h, e => by
    unfold okCode at h
    rw [Bool.and_eq_true] at h
    unfold findLabel at e
    split at e
    · rename_i r hr
      injection e with e; subst e
      unfold okCode
      rw [okCode_findLabel h.1 hr, h.2]; rfl
    · exact okCode_findLabel h.2 e
  | .label l', rest, l, h, e => by
    unfold findLabel at e
    split at e
    · injection e with e; subst e; rfl
    · cases e
  | .skip, _, _, _, e => by cases e
  | .region .., _, _, _, e => by cases e
  | .cond .., _, _, _, e => by cases e
  | .block .., _, _, _, e => by cases e
  | .loop .., _, _, _, e => by cases e
  | .rangeFunc .., _, _, _, e => by cases e
  | .exit .., _, _, _, e => by cases e
  | .scope .., _, _, _, e => by cases e
  | .goto .., _, _, _, e => by cases e
  | .ret, _, _, _, e => by cases e
  | .refuse .., _, _, _, e => by cases e

/-- Code within a scope. -/
def ScopeWp (P : Program) (b c : Code) (Q : Exit → Act → World → Prop) (a : Act) (w : World) : Prop :=
  ∀ (fr : Frame) (k : List Item) (cs : List Frame), ∃ e a' w', Q e a' w' ∧ Arrives P (lone (fr.at a (.code c :: .inScope b :: k)) cs w) fr k cs e a' w'

theorem ExR.not_outgrown {φ : Phi} {e : Exit} (h : ExR φ e .outgrown) : False := by cases e <;> exact h

theorem evCode_sound (hE : TysOK P E) (hmix : P.follows .mixedOrders = true) {cf : Nat → List Value → Heap → Option CR} (hcf : ∀ B2 : Base, B2.like B → CfOK B2 P cf) {nt : Nat} : ∀ (n : Nat),
    (∀ (c : Code) (φ : Phi) (s : St) (a : Act) (w : World) (e : Exit) (s' : St), okCode B.ng nt c = true → evCode E cf n none c s = some (e, s') → SR B nt φ s a w → c.wp P (Post B nt φ e s') a w) ∧
    (∀ (b c : Code) (φ : Phi) (s : St) (a : Act) (w : World) (e : Exit) (s' : St), okCode B.ng nt b = true → okCode B.ng nt c = true → evCode E cf n (some b) c s = some (e, s') → SR B nt φ s a w → ScopeWp P b c (Post B nt φ e s') a w) ∧
    (∀ (b : Code) (φ : Phi) (s : St) (a : Act) (w : World) (e : Exit) (s' : St) (Q : Exit → Act → World → Prop), okCode B.ng nt b = true → evCode E cf n none (.loop b) s = some (e, s') → SR B nt φ s a w → (∀ e' a' w', Post B nt φ e s' e' a' w' → Q e' a' w') → Code.rounds P b Q n a w) := by
  intro n
  induction n with
  | zero => exact ⟨(fun _ _ _ _ _ _ _ _ h => by cases h), (fun _ _ _ _ _ _ _ _ _ _ h => by cases h), (fun _ _ _ _ _ _ _ _ _ h => by cases h)⟩
  | succ n ih =>
    obtain ⟨ihA, ihB, ihC⟩ := ih
    have C : ∀ (b : Code) (φ : Phi) (s : St) (a : Act) (w : World) (e : Exit) (s' : St) (Q : Exit → Act → World → Prop), okCode B.ng nt b = true → evCode E cf (n + 1) none (.loop b) s = some (e, s') → SR B nt φ s a w → (∀ e' a' w', Post B nt φ e s' e' a' w' → Q e' a' w') → Code.rounds P b Q (n + 1) a w := by
      intro b φ s a w e s' Q hok hev S hq
      simp only [evCode_none, evStepN] at hev
      rw [rounds_succ]
      split at hev
      · rename_i s1 h1
        refine wp_mono (ihA b φ s a w _ _ hok h1 S) ?_
        rintro e' a' w' ⟨ψ, hle, hx, S1⟩
        cases e' <;> first | exact hx.elim | skip
        exact ihC b ψ s1 a' w' e s' Q hok hev S1 (fun e' a' w' hp => hq e' a' w' (hp.mono hle))
      · rename_i hne
        refine wp_mono (ihA b φ s a w _ _ hok hev S) ?_
        rintro e' a' w' ⟨ψ, hle, hx, S1⟩
        cases e' with
        | normal => cases e <;> first | exact hx.elim | exact (hne _ hev).elim
        | exit id => exact hq _ _ _ ⟨ψ, hle, hx, S1⟩
        | goto l => exact hq _ _ _ ⟨ψ, hle, hx, S1⟩
        | ret => exact hq _ _ _ ⟨ψ, hle, hx, S1⟩
        | panic ch => exact hq _ _ _ ⟨ψ, hle, hx, S1⟩
        | outgrown => exact hx.not_outgrown.elim
    refine ⟨?_, ?_, C⟩
    · intro c φ s a w e s' hok hev S
      have here : ∀ e', some (e', s) = some (e, s') → ExR φ e' e' → Post B nt φ e s' e' a w := by
        intro e' h hx
        injection h with h
        simp only [Prod.mk.injEq] at h
        obtain ⟨rfl, rfl⟩ := h
        exact ⟨φ, φ.le_refl, hx, S⟩
      have pass : ∀ {e0 e1 : Exit} {a1 : Act} {w1 : World} {s1 : St} {ψ : Phi}, φ.le ψ → ExR ψ e0 e1 → SR B nt ψ s1 a1 w1 → some (e0, s1) = some (e, s') → Post B nt φ e s' e1 a1 w1 := by
        intro e0 e1 a1 w1 s1 ψ hle hx S1 h
        injection h with h
        simp only [Prod.mk.injEq] at h
        obtain ⟨rfl, rfl⟩ := h
        exact ⟨ψ, hle, hx, S1⟩
      cases c with
      | skip => exact wp_skip (here _ hev trivial)
      | label l => exact wp_label (here _ hev trivial)
      | exit id => exact wp_exit (here _ hev rfl)
      | goto l => exact wp_goto (here _ hev rfl)
      | ret => exact wp_ret (here _ hev trivial)
      | refuse why => simp only [evCode_none, evStepN] at hev; cases hev
      | rangeFunc f ps as b => simp only [evCode_none, evStepN] at hev; cases hev
      | region id ops draw =>
        simp only [evCode_none, evStepN] at hev
        simp only [okCode, Bool.and_eq_true] at hok
        cases draw
        · simp only [cond_false] at hev
          refine wp_region ?_
          have := evOps_wp hE (hcf B (.refl B)) ops (Q := Post B nt φ e s') ops.toList 0 φ s a w rfl hok.1 hev S (fun _ _ _ h => h)
          rw [List.range_eq_range']
          simpa using this
        · exact evDraw_wp hE hmix hcf (by simpa using hok.2) hok.1 hev S
      | seq x y =>
        simp only [evCode_none, evStepN] at hev
        simp only [okCode, Bool.and_eq_true] at hok
        refine wp_seq ?_
        split at hev
        · rename_i s1 h1
          refine wp_mono (ihA x φ s a w _ _ hok.1 h1 S) ?_
          rintro e' a' w' ⟨ψ, hle, hx, S1⟩
          cases e' <;> first | exact hx.elim | skip
          exact wp_mono (ihA y ψ s1 a' w' e s' hok.2 hev S1) (fun e' a' w' hp => hp.mono hle)
        · rename_i hne
          refine wp_mono (ihA x φ s a w _ _ hok.1 hev S) ?_
          rintro e' a' w' ⟨ψ, hle, hx, S1⟩
          cases e' with
          | normal => cases e <;> first | exact hx.elim | exact (hne _ hev).elim
          | outgrown => exact hx.not_outgrown.elim
          | _ => exact ⟨ψ, hle, hx, S1⟩
      | cond x p q =>
        simp only [evCode_none, evStepN] at hev
        simp only [okCode, Bool.and_eq_true] at hok
        have hx := evR_run S.rel S.tm x hok.1.1
        split at hev
        · rename_i t ht
          rw [ht] at hx
          have hev2 := (hx.bool_iff t).1 rfl
          refine wp_cond hev2 ?_
          cases t
          · exact ihA q φ s a w e s' hok.2 hev S
          · exact ihA p φ s a w e s' hok.1.2 hev S
        · cases hev
      | block id b =>
        simp only [evCode_none, evStepN] at hev
        refine wp_block ?_
        split at hev
        · rename_i j s1 h1
          refine wp_mono (ihA b φ s a w _ _ hok h1 S) ?_
          rintro e' a' w' ⟨ψ, hle, hx, S1⟩
          cases e' <;> first | exact hx.elim | skip
          rename_i j'
          have hjj : j = j' := hx
          subst hjj
          cases hb : Nat.beq j id
          · rw [hb] at hev
            simp only [cond_false] at hev
            have hne : j ≠ id := by intro h; rw [h, Nat.beq_refl] at hb; cases hb
            simp only [Exit.inBlock, hne, if_false]
            exact pass (e0 := .exit j) (e1 := .exit j) hle rfl S1 hev
          · rw [hb] at hev
            simp only [cond_true] at hev
            have heq := beq_eq hb
            simp only [Exit.inBlock, heq, if_true]
            exact pass (e0 := .normal) (e1 := .normal) hle trivial S1 hev
        · rename_i hne
          refine wp_mono (ihA b φ s a w _ _ hok hev S) ?_
          rintro e' a' w' ⟨ψ, hle, hx, S1⟩
          cases e' with
          | exit id' => cases e <;> first | exact hx.elim | exact (hne _ _ hev).elim
          | outgrown => exact hx.not_outgrown.elim
          | _ => exact ⟨ψ, hle, hx, S1⟩
      | loop b => exact wp_loop_rounds (n + 1) (C b φ s a w e s' _ hok hev S (fun _ _ _ h => h))
      | scope b =>
        simp only [evCode_none, evStepN] at hev
        intro fr k cs
        obtain ⟨e', a', w', hp, harr⟩ := ihB b b φ s a w e s' hok hok hev S fr k cs
        exact ⟨e', a', w', hp, .of_steps (.one step_scope) harr⟩
    · intro b c φ s a w e s' hokb hokc hev S fr k cs
      rw [evCode_some] at hev
      split at hev
      · rename_i l s1 h1
        obtain ⟨e', a', w', ⟨ψ, hle, hx, S1⟩, harr⟩ := ihA c φ s a w _ _ hokc h1 S fr (.inScope b :: k) cs
        cases e' <;> first | exact hx.elim | skip
        rename_i l'
        have hll : l = l' := hx
        subst hll
        split at hev
        · rename_i rest hf
          obtain ⟨e2, a2, w2, hp, harr2⟩ := ihB b rest ψ s1 a' w' e s' hokb (okCode_findLabel hokb hf) hev S1 fr k cs
          have hg : gotoIn l (.inScope b :: k) = some (.code rest :: .inScope b :: k) := by simp [gotoIn, hf]
          exact ⟨e2, a2, w2, hp.mono hle, .of_steps (harr _ hg) harr2⟩
        · rename_i hf
          injection hev with hev
          simp only [Prod.mk.injEq] at hev
          obtain ⟨rfl, rfl⟩ := hev
          exact ⟨.goto l, a', w', ⟨ψ, hle, rfl, S1⟩, fun k' hk => harr k' (by simp [gotoIn, hf, hk])⟩
      · rename_i hne
        obtain ⟨e', a', w', ⟨ψ, hle, hx, S1⟩, harr⟩ := ihA c φ s a w _ _ hokc hev S fr (.inScope b :: k) cs
        cases e' with
        | normal => exact ⟨.normal, a', w', ⟨ψ, hle, hx, S1⟩, Steps.trans harr (.one step_inScope)⟩
        | exit id => exact ⟨.exit id, a', w', ⟨ψ, hle, hx, S1⟩, fun k' hk => harr k' (by simp [exitTo, hk])⟩
        | goto l => cases e <;> first | exact hx.elim | exact (hne _ _ hev).elim
        | ret => exact ⟨.ret, a', w', ⟨ψ, hle, hx, S1⟩, harr⟩
        | panic ch => exact ⟨.panic ch, a', w', ⟨ψ, hle, hx, S1⟩, harr⟩
        | outgrown => exact hx.not_outgrown.elim

end Go.Vd

/- Calls. -/
namespace Go.Vd
variable {B : Base} {φ : Phi} {h : Heap} {P : Program} {w : World} {E : Env}

structure EnvOK (B : Base) (P : Program) (E : Env) : Prop where
  tys : TysOK P E
  mix : P.follows .mixedOrders = true
  fn : ∀ f fn, E.fn f = some fn → P.funcs[f]? = some fn ∧ (fn.name == "runtime.NumGoroutine") = false ∧ ∀ c, fn.body = some c → okCode B.ng fn.ntmps c = true
  sum : ∀ f g, E.sum f = some g → ∀ B2 : Base, B2.like B → CfOK B2 P fun f' args h => bif Nat.beq f' f then g args h else none

theorem EnvOK.like {B2 : Base} (hE : EnvOK B P E) (h : B2.like B) : EnvOK B2 P E :=
  ⟨hE.tys, hE.mix, by rw [h.ng]; exact hE.fn, fun f g hg B3 h3 => hE.sum f g hg B3 (h3.trans h)⟩

theorem callFunc_enter {f : Nat} {fn : Func} {c : Code} {args : Array Value} (hf : P.funcs[f]? = some fn) (hn : (fn.name == "runtime.NumGoroutine") = false) (hb : fn.body = some c) :
    (callFunc f args).run P w = .ok (.enter f args) w := by
  unfold callFunc
  have hn' : fn.name ≠ "runtime.NumGoroutine" := by simpa using hn
  simp [hf, hb, hn']

theorem loadVar_same (hE : TysOK P E) (R : RW B φ h w) {t i off : Nat} {v : Value} {L : Loc} (e : loadV E h t i off = some v) (hL : φ i = some L) :
    ∃ y, (loadVar t ⟨L.blk, L.off + off, none⟩).run P w = .ok y w ∧ VR φ v y := by
  unfold loadV at e
  split at e
  · cases e
  · rename_i ti ht
    cases ha : isAggD ti.desc
    · rw [ha] at e
      simp only [cond_false] at e
      split at e
      · rename_i v' hrd
        injection e with e; subst e
        obtain ⟨us, h1, h2, h3⟩ := R.read hrd hL
        obtain ⟨y, us', rfl, hy, hn⟩ := h2.cons_inv
        have := hn.nil_inv
        subst this
        refine ⟨y, ?_, hy⟩
        have hc : w.cell? ⟨L.blk, L.off + off, none⟩ = some y := by rw [cell_eq]; simpa using h3 0 y rfl
        unfold loadVar
        simp [run_agg hE ht, ha, hc]
      · cases e
    · rw [ha] at e
      simp only [cond_true] at e
      split at e
      · rename_i l hrd
        injection e with e; subst e
        obtain ⟨us, h1, h2, h3⟩ := R.read hrd hL
        refine ⟨.agg us.toArray, ?_, VR.agg_of (by simpa using h2)⟩
        have hl := run_loads (P := P) (w := w) (b := L.blk) (o := L.off + off) (us := us) h3
        rw [h1] at hl
        unfold loadVar
        simp [run_agg hE ht, ha, run_size hE ht, hl]
      · cases e

theorem resV_run (hE : TysOK P E) {nt : Nat} {s : St} {a : Act} (S : SR B nt φ s a w) : ∀ {rs : List ResultVar} {vs : List Value}, resV E s rs = some vs →
    ∃ us, (∀ (f : ResultVar → Sem Value) (_ : ∀ u, f (.tmp u) = pure (a.tmps.getD u undef))
    (_ : ∀ b t, f (.cell b t) = (do loadVar t (← asAddr (a.tmps.getD b undef)))), (rs.mapM f).run P w = .ok us w) ∧ LR φ vs us
  | [], vs, e => by
    injection e with e; subst e
    exact ⟨[], fun _ _ _ => by simp, LR.nil φ⟩
  | .tmp t :: r, vs, e => by
    unfold resV at e
    split at e
    · rename_i l hl
      injection e with e; subst e
      obtain ⟨us, h1, h2⟩ := resV_run hE S hl
      exact ⟨_ :: us, fun f hf hc => by simp [List.mapM_cons, hf, h1 f hf hc], LR.cons (S.tm t) h2⟩
    · cases e
  | .cell b t :: r, vs, e => by
    unfold resV at e
    split at e
    · rename_i ad l hg hl
      split at e
      · rename_i v hv
        injection e with e; subst e
        obtain ⟨us, h1, h2⟩ := resV_run hE S hl
        have ht := S.tm b
        rw [hg] at ht
        simp only [Option.getD_some] at ht
        generalize hu : a.tmps.getD b undef = u at ht
        cases ht with
        | ptr i off L hL =>
          obtain ⟨y, h3, h4⟩ := loadVar_same hE S.rel hv hL
          refine ⟨y :: us, fun f hf hc => ?_, LR.cons h4 h2⟩
          rw [List.mapM_cons, hc, hu]
          simp [asAddr, h3, h1 f hf hc]
      · cases e
    · cases e

theorem resultV_run (hE : TysOK P E) {nt : Nat} {s : St} {a : Act} (S : SR B nt φ s a w) {fn : Func} {v : Value} (e : resultV E fn s = some v) :
    ∃ u, (results fn a.tmps).run P w = .ok u w ∧ VR φ v u := by
  unfold resultV at e
  have key : ∀ vs, resV E s fn.results.toList = some vs → ∃ us, (results fn a.tmps).run P w = .ok (if h : us.toArray.size = 1 then us.toArray[0] else .tuple us.toArray) w ∧ LR φ vs us := by
    intro vs hvs
    obtain ⟨us, h1, h2⟩ := resV_run hE S hvs
    refine ⟨us, ?_, h2⟩
    unfold results
    rw [show fn.results = fn.results.toList.toArray from rfl, List.mapM_toArray]
    simp only [Sem.run_bind, Sem.run_map]
    rw [h1 _ (fun _ => rfl) (fun _ _ => rfl)]
    simp
  split at e
  · rename_i x hx
    injection e with e; subst e
    obtain ⟨us, h1, h2⟩ := key _ hx
    obtain ⟨u, us', rfl, hu, hn⟩ := h2.cons_inv
    rw [hn.nil_inv] at h1
    exact ⟨u, by simpa using h1, hu⟩
  · rename_i l hne hx
    injection e with e; subst e
    obtain ⟨us, h1, h2⟩ := key _ hx
    have hl : us.toArray.size ≠ 1 := by
      intro h
      have h3 : l.length = 1 := by rw [h2.1]; simpa using h
      match l, h3 with
      | [x], _ => exact hne x rfl
    rw [dif_neg hl] at h1
    exact ⟨_, h1, VR.tuple_of (by simpa using h2)⟩
  · cases e

theorem start_SR (R : RW B φ h w) {args : List Value} {args' : Array Value} (ha : LR φ args args'.toList) (nt : Nat) :
    SR B nt φ ⟨Tm.ofList args, [], h⟩ { tmps := args' ++ Array.replicate (nt - args'.size) undef, defers := [] } w := by
  refine ⟨R, by simp; omega, fun t => ?_, .nil⟩
  show VR φ (((Tm.ofList args).get t).getD undef) _
  rw [Tm.get_ofList]
  have hl : args.length = args'.size := by simpa using ha.1
  by_cases ht : t < args'.size
  · rw [List.getElem?_eq_getElem (by omega)]
    have : (args' ++ Array.replicate (nt - args'.size) undef).getD t undef = args'[t] := by
      rw [Array.getD_eq_getD_getElem?, Array.getElem?_append_left ht]; simp [ht]
    rw [this]
    exact ha.2 t _ _ (List.getElem?_eq_getElem (by omega)) (by simp [ht])
  · rw [List.getElem?_eq_none (by omega)]
    have : (args' ++ Array.replicate (nt - args'.size) undef).getD t undef = undef := by
      rw [Array.getD_eq_getD_getElem?, Array.getElem?_append_right (by omega), Array.getElem?_replicate]
      split <;> rfl
    rw [this]
    exact VR.undef φ

end Go.Vd

/- Calls: deferred ones, bodies. -/
namespace Go.Vd
variable {B : Base} {φ : Phi} {h : Heap} {P : Program} {w : World} {E : Env}

def MoodR (φ : Phi) : Mood → FrameMode → Prop
  | .calm, u => u = .returning
  | .alarm v b, u => ∃ x, u = .panicking [{ v := x, recovered := b }] ∧ VR φ v x

theorem MoodR.mono {φ ψ : Phi} (hle : φ.le ψ) {m : Mood} {u : FrameMode} (h : MoodR φ m u) : MoodR ψ m u := by
  cases m with
  | calm => exact h
  | alarm v b => obtain ⟨x, h1, h2⟩ := h; exact ⟨x, h1, h2.mono hle⟩

theorem evOpsD_wpS (hE : TysOK P E) {cf : Nat → List Value → Heap → Option CR} {nt : Nat} (ops : Array Oper) {Q : Exit → Act → List Frame → World → Prop} {m' : Mood} {s' : St} (cs : List Frame) : ∀ (l : List Oper) (k : Nat) (φ : Phi) (m : Mood) (s : St) (a : Act) (c₀ : Frame) (w : World),
    ops.toList.drop k = l → l.all (okOper B.ng nt) = true → evOpsD E cf ops l m s = some (m', s') → SR B nt φ s a w → MoodR φ m c₀.mode →
    (∀ ψ u' a' w', φ.le ψ → MoodR ψ m' u' → SR B nt ψ s' a' w' → Q .normal a' ({ c₀ with mode := u' } :: cs) w') →
    wpOpsS P ops Q (List.range' k l.length) a (c₀ :: cs) w
  | [], k, φ, m, s, a, c₀, w, hl, hok, hev, S, hm, hq => by
    injection hev with hev
    simp only [Prod.mk.injEq] at hev
    obtain ⟨rfl, rfl⟩ := hev
    exact hq φ c₀.mode a w φ.le_refl hm S
  | o :: rest, k, φ, m, s, a, c₀, w, hl, hok, hev, S, hm, hq => by
    have hko : ops[k]? = some o := by
      have : (ops.toList.drop k)[0]? = some o := by rw [hl]; rfl
      rw [List.getElem?_drop] at this
      simpa using this
    have hrest : ops.toList.drop (k + 1) = rest := by
      rw [← List.tail_drop, hl]; rfl
    rw [List.all_cons, Bool.and_eq_true] at hok
    have hd := okOper_dst hok.1
    have ih := fun φ' m1 s1 a1 c1 w1 (h1 : evOpsD E cf ops rest m1 s1 = some (m', s')) (S1 : SR B nt φ' s1 a1 w1) (hm1 : MoodR φ' m1 c1.mode) hq1 => evOpsD_wpS hE ops (Q := Q) cs rest (k + 1) φ' m1 s1 a1 c1 w1 hrest hok.2 h1 S1 hm1 hq1
    simp only [List.length_cons, List.range'_succ, wpOpsS, hko]
    unfold evOpsD at hev
    split at hev
    · rename_i at1 ty1 args1 hg hop
      have hw : Region.wanted o (yielded ops a.tmps) = true := by unfold Region.wanted; rw [hg]
      have hrun : (execOp a.eval o).run P w = .ok .recover w := by
        unfold execOp
        rw [hop]
        simp [resolve, invoke, builtin]
      rw [hw, hrun]
      simp only [if_true]
      split at hev
      · rename_i v
        obtain ⟨x, hx, hv⟩ := hm
        have hrec : recoverD (c₀ :: cs) = some (x, { c₀ with mode := .panicking [{ v := x, recovered := true }] } :: cs) := by
          simp [recoverD, hx]
        rw [hrec]
        exact ih φ _ _ _ _ _ hev (S.put φ.le_refl hd hv S.rel) ⟨x, rfl, hv⟩ (fun ψ u' a' w' => hq ψ u' a' w')
      · rename_i hne
        have hrec : recoverD (c₀ :: cs) = none := by
          cases m with
          | calm => have : c₀.mode = .returning := hm
                    simp [recoverD, this]
          | alarm v b =>
            obtain ⟨x, hx, hv⟩ := hm
            cases b with
            | false => exact (hne v rfl).elim
            | true => simp [recoverD, hx]
        rw [hrec]
        exact ih φ _ _ _ _ _ hev (S.put φ.le_refl hd .nilIface S.rel) hm hq
    · rename_i hg hnr
      have hw : Region.wanted o (yielded ops a.tmps) = true := by unfold Region.wanted; rw [hg]
      rw [hw]
      simp only [if_true]
      split at hev
      · rename_i v h1 hev1
        obtain ⟨ψ, w', hle, R, hr⟩ := evOp_goes hE S.rel hev1 (evR_act S hok.1)
        rcases hr with ⟨u, hr, hv⟩ | ⟨hr, rfl⟩
        · rw [hr]
          simp only
          rw [Oper.upon_value]
          exact ih ψ _ _ _ _ _ hev (S.put hle hd hv R) (hm.mono hle) (fun χ u' a' w'' h => hq χ u' a' w'' (Phi.le_trans hle h))
        · rw [hr]
          simp only
          rw [Oper.upon_skip]
          exact ih ψ _ _ _ _ _ hev (S.put hle hd (VR.undef ψ) R) (hm.mono hle) (fun χ u' a' w'' h => hq χ u' a' w'' (Phi.le_trans hle h))
      · cases hev
    · cases hev

theorem DR.nil_inv {φ : Phi} {ds : List Deferred} (h : DR φ [] ds) : ds = [] := by cases h; rfl

theorem results_nil {fn : Func} {tmps : Array Value} (h : fn.results.toList = []) : (results fn tmps).run P w = .ok (.tuple #[]) w := by
  unfold results
  have : fn.results = #[] := by simpa using h
  rw [this]
  simp

theorem evDeferred_sound (hE : EnvOK B P E) {cf : Nat → List Value → Heap → Option CR} (hcf : ∀ B2 : Base, B2.like B → CfOK B2 P cf) {n : Nat} {m m' : Mood} {f : Nat} {args : List Value} {h' : Heap} {u : FrameMode} {args' : Array Value}
    (hev : evDeferred E cf n m f args h = some (m', h')) (R : RW B φ h w) (hm : MoodR φ m u) (ha : LR φ args args'.toList) :
    (callFunc f args').run P w = .ok (.enter f args') w ∧
    CallsD P f args' u w fun e u' w' => ∃ ψ v, φ.le ψ ∧ e = .returned v ∧ RW B ψ h' w' ∧ MoodR ψ m' (settle u') := by
  unfold evDeferred at hev
  split at hev
  · cases hev
  · rename_i fn hfn
    obtain ⟨hf, hn, hok⟩ := hE.fn f fn hfn
    split at hev
    · rename_i id ops rest hb
      have hok := hok _ hb
      simp only [okCode, Bool.and_eq_true] at hok
      refine ⟨callFunc_enter hf hn hb, callsD_of_wpS hf hb fun c₀ cs hc => wpS_seq (wpS_region ?_)⟩
      split at hev
      · cases hev
      · rename_i m1 s1 hd1
        have hlen : List.range ops.size = List.range' 0 ops.toList.length := by simp [List.range_eq_range']
        rw [hlen]
        refine evOpsD_wpS hE.tys ops cs ops.toList 0 φ m _ _ c₀ w rfl hok.1.1 hd1 (start_SR R ha fn.ntmps) (hc ▸ hm) ?_
        intro ψ u' a' w' hle hm1 S1
        refine wpS_of_wp ?_
        have fin : ∀ (s2 : St) (e : Exit), (e = .normal ∨ e = .ret) → evCode E cf n none rest s1 = some (e, s2) →
            (match s2.df, fn.results.toList with
              | [], [] => some ((match (generalizing := false) m1 with | .alarm _ true => .calm | _ => m1), s2.h)
              | _, _ => none) = some (m', h') → rest.wp P (fun e a' w' => bodyPostS P fn c₀ cs (fun e u' w' => ∃ ψ v, φ.le ψ ∧ e = .returned v ∧ RW B ψ h' w' ∧ MoodR ψ m' (settle u')) e a' ({ c₀ with mode := u' } :: cs) w') a' w' := by
          intro s2 e he h2 h3
          refine wp_mono ((evCode_sound hE.tys hE.mix hcf n).1 rest ψ s1 a' w' e s2 hok.2 h2 S1) ?_
          rintro e' a2 w2 ⟨χ, hle2, hx, S2⟩
          split at h3
          · rename_i hdf hres
            injection h3 with h3
            simp only [Prod.mk.injEq] at h3
            obtain ⟨h4, h5⟩ := h3
            have hnil : a2.defers = [] := by
              have := S2.df
              rw [hdf] at this
              exact this.nil_inv
            have hR : ∃ ψ v, φ.le ψ ∧ Ending.returned (.tuple #[]) = .returned v ∧ RW B ψ h' w2 ∧ MoodR ψ m' (settle u') := by
              refine ⟨χ, _, Phi.le_trans hle hle2, rfl, h5 ▸ S2.rel, ?_⟩
              have hm2 := hm1.mono hle2
              subst h4
              cases m1 with
              | calm =>
                have hu : u' = .returning := hm2
                subst hu
                rfl
              | alarm v b =>
                obtain ⟨x, hx, hv⟩ := hm2
                subst hx
                cases b with
                | false => exact ⟨x, rfl, hv⟩
                | true => rfl
            rcases he with rfl | rfl
            · cases e' <;> first | exact hx.elim | skip
              exact ⟨hnil, u', rfl, _, results_nil hres, hR⟩
            · cases e' <;> first | exact hx.elim | skip
              exact ⟨hnil, u', rfl, _, results_nil hres, hR⟩
          · cases h3
        split at hev
        · rename_i s2 h2
          exact fin s2 _ (.inl rfl) h2 hev
        · rename_i s2 h2
          exact fin s2 _ (.inr rfl) h2 hev
        · cases hev
    · cases hev

theorem evDefers_sound (hE : EnvOK B P E) {cf : Nat → List Value → Heap → Option CR} (hcf : ∀ B2 : Base, B2.like B → CfOK B2 P cf) {n : Nat} {fn : Func} {tmps : Array Value} {R : Ending → World → Prop} {m' : Mood} {h' : Heap} : ∀ {ds ds' : List Deferred} {φ : Phi} {m : Mood} {h : Heap} {u : FrameMode} {w : World},
    evDefers E cf n ds m h = some (m', h') → RW B φ h w → MoodR φ m u → DR φ ds ds' →
    (∀ ψ u' w', φ.le ψ → RW B ψ h' w' → MoodR ψ m' u' → Leaves P fn tmps R [] u' w') → Leaves P fn tmps R ds' u w
  | [], ds', φ, m, h, u, w, hev, Re, hm, hd, hq => by
    injection hev with hev
    simp only [Prod.mk.injEq] at hev
    obtain ⟨rfl, rfl⟩ := hev
    rw [hd.nil_inv]
    exact hq φ u w φ.le_refl Re hm
  | d :: ds, ds', φ, m, h, u, w, hev, Re, hm, hd, hq => by
    cases hd with
    | cons h1 t1 =>
      rename_i d' ds'
      obtain ⟨f, xs, xs', e1, e2, e3, e4⟩ := h1
      unfold evDefers at hev
      rw [e1] at hev
      simp only at hev
      split at hev
      · rename_i m1 h1 hd1
        have ha : LR φ (d.args.toList ++ xs.toList) (d'.args ++ xs').toList := by
          rw [Array.toList_append]; exact e4.append e3
        obtain ⟨c1, c2⟩ := evDeferred_sound hE hcf hd1 Re hm ha
        have hu : u ≠ .run := by
          cases m with
          | calm => have : u = .returning := hm
                    rw [this]; intro h; cases h
          | alarm v b => obtain ⟨x, hx, _⟩ := hm; rw [hx]; intro h; cases h
        obtain ⟨tg, dargs⟩ := d'
        simp only at e2 c1 c2
        subst e2
        refine leaves_cons hu (by simpa [invoke] using c1) (c2.mono ?_)
        rintro e u' w' ⟨ψ, v, hle, rfl, R', hm'⟩
        exact evDefers_sound hE hcf hev R' hm' (t1.mono hle) (fun χ u' w' h => hq χ u' w' (Phi.le_trans hle h))
      · cases hev

end Go.Vd

/- Bodies and calls. -/
namespace Go.Vd
variable {B : Base} {φ : Phi} {h : Heap} {P : Program} {w : World} {E : Env}

theorem leave_fin {nt : Nat} (hE : EnvOK B P E) {fn : Func} {s : St} {a : Act} {m : Mood} {h' : Heap} {r : CR} {φ₀ ψ : Phi} {u : FrameMode} {w w' : World} (S : SR B nt φ s a w) (h0 : φ₀.le φ)
    (hev : (match m, h' with
      | .calm, h' => match resultV E fn { s with h := h' } with
          | some v => some (CR.ret v h')
          | none => none
      | .alarm v false, h' => some (.pan v h')
      | .alarm _ true, _ => none) = some r) (hle : φ.le ψ) (R : RW B ψ h' w') (hm : MoodR ψ m u) : Leaves P fn a.tmps (CRPost B φ₀ r) [] u w' := by
  cases m with
  | calm =>
    have hu : u = .returning := hm
    subst hu
    simp only at hev
    split at hev
    · rename_i v hv
      injection hev with hev; subst hev
      have S' : SR B nt ψ { s with h := h' } a w' := ⟨R, S.size, fun t => (S.tm t).mono hle, S.df.mono hle⟩
      obtain ⟨y, h1, h2⟩ := resultV_run hE.tys S' hv
      exact ⟨y, h1, ψ, y, Phi.le_trans h0 hle, rfl, h2, R⟩
    · cases hev
  | alarm v b =>
    obtain ⟨x, hx, hv⟩ := hm
    subst hx
    cases b with
    | true => cases hev
    | false =>
      injection hev with hev; subst hev
      exact ⟨ψ, x, Phi.le_trans h0 hle, rfl, hv, R⟩

theorem evBody_sound (hE : EnvOK B P E) {cf : Nat → List Value → Heap → Option CR} (hcf : ∀ B2 : Base, B2.like B → CfOK B2 P cf) {n f : Nat} {fn : Func} {args : List Value} {args' : Array Value} {r : CR}
    (hfn : E.fn f = some fn) (hev : evBody E cf n fn args h = some r) (R : RW B φ h w) (ha : LR φ args args'.toList) : CallsF P f args' w (CRPost B φ r) := by
  obtain ⟨hf, hn, hok⟩ := hE.fn f fn hfn
  unfold evBody at hev
  split at hev
  · cases hev
  · rename_i c hb
    have hok := hok c hb
    unfold CallsF
    rw [callFunc_enter hf hn hb]
    refine calls_of_wp_defers hf hb ?_
    split at hev
    · cases hev
    · rename_i e s h1
      have fin : ∀ (m : Mood) (u : FrameMode) (ψ : Phi) (a' : Act) (w' : World), φ.le ψ → MoodR ψ m u → SR B fn.ntmps ψ s a' w' → (match evDefers E cf n s.df m s.h with
        | none => none
        | some (.calm, h') => match resultV E fn { s with h := h' } with
          | some v => some (CR.ret v h')
          | none => none
        | some (.alarm v false, h') => some (.pan v h')
        | some (.alarm _ true, _) => none) = some r → Leaves P fn a'.tmps (CRPost B φ r) a'.defers u w' := by
        intro m u ψ a' w' hle hm S hev
        cases hd : evDefers E cf n s.df m s.h with
        | none => rw [hd] at hev; cases hev
        | some p =>
          obtain ⟨m', h'⟩ := p
          rw [hd] at hev
          refine evDefers_sound hE hcf hd S.rel hm S.df ?_
          intro χ u' w'' hle2 R2 hm2
          refine leave_fin hE S hle (m := m') (h' := h') ?_ hle2 R2 hm2
          cases m' with
          | calm => exact hev
          | alarm v b => cases b <;> exact hev
      refine wp_mono ((evCode_sound hE.tys hE.mix hcf n).1 c φ _ _ w e s hok h1 (start_SR R ha fn.ntmps)) ?_
      rintro e' a' w' ⟨ψ, hle, hx, S⟩
      split at hev
      · cases hev
      · rename_i m hm
        cases e with
        | normal =>
          injection hm with hm; subst hm
          cases e' <;> first | exact hx.elim | skip
          exact fin .calm .returning ψ a' w' hle rfl S hev
        | ret =>
          injection hm with hm; subst hm
          cases e' <;> first | exact hx.elim | skip
          exact fin .calm .returning ψ a' w' hle rfl S hev
        | panic ch =>
          cases e' <;> first | exact hx.elim | skip
          obtain ⟨v, v', rfl, rfl, hv⟩ := hx
          injection hm with hm; subst hm
          exact fin (.alarm v false) _ ψ a' w' hle ⟨v', rfl, hv⟩ S hev
        | exit id => cases hm
        | goto l => cases hm
        | outgrown => cases hm

theorem evCall_sound {B0 : Base} (hE : EnvOK B0 P E) : ∀ n (B : Base), B.like B0 → CfOK B P (evCall E n) := by
  intro n
  induction n with
  | zero => intro B hB f args h r φ w args' hev; cases hev
  | succ n ih =>
    intro B hB f args h r φ w args' hev R ha
    rw [evCall_succ] at hev
    unfold evCallStep at hev
    split at hev
    · rename_i g hg
      exact hE.sum f g hg B hB f args h r φ w args' (by simp [Nat.beq_refl, hev]) R ha
    · split at hev
      · rename_i fn hfn
        exact evBody_sound (hE.like hB) (fun B2 h2 => ih B2 (h2.trans hB)) hfn hev R ha
      · cases hev

end Go.Vd

/- Summaries of functions: out of a contract, or out of a run from an empty memory. -/
namespace Go.Vd
open Go.RowKit
variable {B : Base} {φ : Phi} {h : Heap} {P : Program} {w : World} {E : Env}

theorem Rel.below {H H' : Array Obj} (R : Rel B φ h H) (hs : H.size ≤ H'.size) (hb : ∀ b, b < H.size → H'[b]? = H[b]?) : Rel B φ h H' where
  next := R.next
  size := fun b hk => Nat.lt_of_lt_of_le (R.size b hk) hs
  nglob := R.nglob
  old := fun b hk => (hb b (R.size b hk)).trans (R.old b hk)
  dom := R.dom
  glob := R.glob
  row := fun i c b L hi hL => by
    have W := R.row i c b L hi hL
    exact { W with
      vals := fun hok j x hx => by
        obtain ⟨y, hy, hv⟩ := W.vals hok j x hx
        have hlt := cellH_lt hy
        exact ⟨y, by unfold cellH at hy ⊢; rw [hb _ hlt]; exact hy, hv⟩
      mine := fun hro => by
        obtain ⟨h1, c', e, fz, h2, h3⟩ := W.mine hro
        exact ⟨h1, c', e, fz, by rw [hb _ (lt_of_get h2)]; exact h2, h3⟩ }
  map := fun i es L hi hL => by
    obtain ⟨h1, h2⟩ := R.map i es L hi hL
    refine ⟨h1, ?_⟩
    cases hx : H[L.blk]? with
    | none => rw [hx] at h2; exact h2.elim
    | some x => rw [hb _ (lt_of_get hx)]; exact h2
  iter := fun i s pos L hi hL => by
    obtain ⟨h1, h2, h3⟩ := R.iter i s pos L hi hL
    exact ⟨h1, h2, by rw [hb _ (lt_of_get h3)]; exact h3⟩
  bag := fun i es L hi hL => by
    obtain ⟨h1, h2⟩ := R.bag i es L hi hL
    refine ⟨h1, ?_⟩
    obtain ⟨x, hx⟩ := h2.some
    rw [hb _ (lt_of_get hx)]; exact h2
  apart := R.apart

theorem RW.below {w' : World} (R : RW B φ h w) (hw : Below w.heap.size w w') : RW B φ h w' :=
  .mk (Rel.below R.toRel hw.size hw.block) ⟨hw.os.trans R.io.1, hw.output.trans R.io.2⟩

/-- No address in it, however deep (two deep). -/
def dataV : Value → Bool
  | .tuple a => a.toList.all plainV
  | .agg a => a.toList.all plainV
  | v => plainV v

theorem VR.plain_eq {v u : Value} (h : VR φ v u) (hp : plainV v = true) : u = v := by
  cases h <;> simp_all [plainV]

theorem LR.plain_eq : ∀ {xs us : List Value}, LR φ xs us → xs.all plainV = true → us = xs
  | [], us, h, _ => h.nil_inv
  | x :: xs, us, h, hp => by
    obtain ⟨u, vs, rfl, h1, h2⟩ := h.cons_inv
    rw [List.all_cons, Bool.and_eq_true] at hp
    rw [VR.plain_eq h1 hp.1, LR.plain_eq h2 hp.2]

theorem LR.plainL (φ : Phi) : ∀ {xs : List Value}, xs.all plainV = true → LR φ xs xs
  | [], _ => LR.nil φ
  | x :: xs, hp => by
    rw [List.all_cons, Bool.and_eq_true] at hp
    exact LR.cons (VR.plain hp.1) (LR.plainL φ hp.2)

theorem VR.data_eq {v u : Value} (h : VR φ v u) (hp : dataV v = true) : u = v := by
  unfold dataV at hp
  split at hp
  · cases h with
    | tuple xs us hs hx =>
      have := LR.plain_eq (LR.of_arrays hs hx) hp
      rw [Array.toList_inj] at this
      rw [this]
  · cases h with
    | agg xs us hs hx =>
      have := LR.plain_eq (LR.of_arrays hs hx) hp
      rw [Array.toList_inj] at this
      rw [this]
  · exact VR.plain_eq h hp

theorem VR.data {v : Value} (hp : dataV v = true) : VR φ v v := by
  unfold dataV at hp
  split at hp
  · exact VR.tuple_of (LR.plainL φ hp)
  · exact VR.agg_of (LR.plainL φ hp)
  · exact VR.plain hp

/-- A summary of one function. -/
abbrev oneF (f : Nat) (g : List Value → Heap → Option CR) : Nat → List Value → Heap → Option CR :=
  fun f' args h => bif Nat.beq f' f then g args h else none

/-- Out of a contract: the memory of before stays. -/
theorem sum_of_calls {f : Nat} {g : List Value → Heap → Option CR}
    (hg : ∀ args h r φ (w : World) args', g args h = some r → RW B φ h w → LR φ args args'.toList →
      ∃ v, r = .ret v h ∧ CallsF P f args' w fun e w' => (∃ u, e = .returned u ∧ VR φ v u) ∧ Below w.heap.size w w') :
    CfOK B P (oneF f g) := by
  intro f' args h r φ w args' hev R ha
  unfold oneF at hev
  cases hb : Nat.beq f' f with
  | false => rw [hb] at hev; cases hev
  | true =>
    rw [hb] at hev
    have hf := beq_eq hb
    subst hf
    obtain ⟨v, rfl, hc⟩ := hg args h r φ w args' hev R ha
    unfold CallsF at hc ⊢
    split at hc
    · refine hc.mono ?_
      rintro e w' ⟨⟨u, he, hu⟩, hw⟩
      exact ⟨φ, u, φ.le_refl, he, hu, R.below hw⟩
    · obtain ⟨⟨u, he, hu⟩, hw⟩ := hc
      exact ⟨φ, u, φ.le_refl, he, hu, R.below hw⟩
    · exact hc

/-- All that a world has is of before. -/
def Base.all (ng : Nat) (w : World) : Base := { ng := ng, orig := fun b => b < w.heap.size, isl := fun _ => False, heap := w.heap, os := w.os, output := w.output }
def phi0 (ng : Nat) : Phi := fun i => if i < ng then some ⟨i, 0, 0, 0⟩ else none
def heap0 (ng : Nat) : Heap := ⟨ng, .nil⟩

theorem RW.empty (ng : Nat) (w : World) : RW (Base.all ng w) (phi0 ng) (heap0 ng) w where
  io := ⟨rfl, rfl⟩
  next := fun i hi => if_neg (Nat.not_lt.2 hi)
  size := fun b hk => by rcases hk with h | h; exact h; exact h.elim
  nglob := Nat.le_refl _
  old := fun b _ => rfl
  dom := fun i b hi => by cases hi
  glob := fun g hg => ⟨⟨g, 0, 0, 0⟩, if_pos hg, rfl, rfl⟩
  row := fun i c b L hi => by cases hi
  map := fun i c L hi => by cases hi
  iter := fun i c b L hi => by cases hi
  bag := fun i c L hi => by cases hi
  apart := fun i j L M r s hi => by simp [rootOf, heap0, T.get_nil] at hi

theorem Rel.keepH {H : Array Obj} (R : Rel B φ h H) : ∀ b, B.orig b → b < H.size ∧ H[b]? = B.heap[b]? :=
  fun b hb => ⟨R.size b (.inl hb), R.old b (.inl hb)⟩

/-- Out of a run from an empty memory: what is handed and what comes back have no address in them. -/
theorem sum_of_ev {f : Nat} {g : List Value → Heap → Option CR} (hE : ∀ (φ : Phi) (h : Heap) (w : World), RW B φ h w → EnvOK (Base.all B.ng w) P E)
    (hg : ∀ args h r, g args h = some r → args.all plainV = true ∧ ∃ v h', r = .ret v h ∧ dataV v = true ∧ ∃ n, evCall E n f args (heap0 B.ng) = some (.ret v h')) :
    CfOK B P (oneF f g) := by
  intro f' args h r φ w args' hev R ha
  unfold oneF at hev
  cases hb : Nat.beq f' f with
  | false => rw [hb] at hev; cases hev
  | true =>
    rw [hb] at hev
    have hf := beq_eq hb
    subst hf
    obtain ⟨hp, v, h', rfl, hv, n, hr⟩ := hg args h r hev
    have hargs := LR.plain_eq ha hp
    have := evCall_sound (hE φ h w R) n _ (Base.like.refl _) f' args _ _ (phi0 B.ng) w args' hr (RW.empty _ _) (by rw [hargs]; exact LR.plainL _ hp)
    have fin : ∀ e w', CRPost (Base.all B.ng w) (phi0 B.ng) (.ret v h') e w' → CRPost B φ (.ret v h) e w' := by
      rintro e w' ⟨ψ, u, hle, he, hu, R'⟩
      have hu' := VR.data_eq hu hv
      subst hu'
      have hs : w.heap.size ≤ w'.heap.size := by
        by_cases h0 : w.heap.size = 0
        · omega
        · have := R'.size (w.heap.size - 1) (.inl (by show _ < w.heap.size; omega))
          omega
      exact ⟨φ, _, φ.le_refl, he, VR.data hv, .mk (R.toRel.below hs fun b hb => R'.old b (.inl hb)) ⟨R'.io.1.trans R.io.1, R'.io.2.trans R.io.2⟩⟩
    unfold CallsF at this ⊢
    split at this
    · exact this.mono fin
    · exact fin _ _ this
    · exact this

/-- All that stands in a tree. -/
def T.AllF {α : Type} (Q : Nat → α → Prop) : T α → (Nat → Nat) → Prop
  | .nil, _ => True
  | .node v l r, f => (∀ x, v = some x → Q (f 0) x) ∧ T.AllF Q l (fun k => f (2 * k + 1)) ∧ T.AllF Q r (fun k => f (2 * k + 2))

theorem T.allF_nil {α : Type} (Q : Nat → α → Prop) (f : Nat → Nat) : T.AllF Q .nil f := trivial
theorem T.allF_node {α : Type} {Q : Nat → α → Prop} {v : Option α} {l r : T α} {f : Nat → Nat} (h1 : ∀ x, v = some x → Q (f 0) x) (h2 : T.AllF Q l (fun k => f (2 * k + 1))) (h3 : T.AllF Q r (fun k => f (2 * k + 2))) : T.AllF Q (.node v l r) f := ⟨h1, h2, h3⟩

theorem T.allF_at {α : Type} {Q : Nat → α → Prop} : ∀ {t : T α} {f : Nat → Nat}, T.AllF Q t f → ∀ {k : Nat} {x : α}, t.get k = some x → Q (f k) x
  | .nil, _, _, _, _, h => nomatch h
  | .node v l r, f, hq, k, x, h => by
    obtain ⟨h1, h2, h3⟩ := hq
    rcases Nat.eq_zero_or_pos k with rfl | hk
    · exact h1 x h
    · rcases Nat.mod_two_eq_zero_or_one k with hm | hm
      · rw [T.get_even _ hm (by omega)] at h
        have := T.allF_at h3 h
        rw [show 2 * (k / 2 - 1) + 2 = k by omega] at this
        exact this
      · rw [T.get_odd _ hm] at h
        have := T.allF_at h2 h
        rw [show 2 * (k / 2) + 1 = k by omega] at this
        exact this
theorem T.allF_get {α : Type} {Q : Nat → α → Prop} {t : T α} (hq : T.AllF Q t (fun k => k)) {k : Nat} {x : α} (h : t.get k = some x) : Q k x := T.allF_at hq h

end Go.Vd

/- What a run must come to: rules for the reckoner's runs with values that are not known. -/
namespace Go.Vd
variable {E : Env}

/-- A call comes to 'r'. -/
def Ev (E : Env) (f : Nat) (args : List Value) (h : Heap) (r : CR) : Prop := ∃ N, ∀ m, N ≤ m → evCall E m f args h = some r
/-- Code comes to what 'Q' holds of. -/
def WP (E : Env) (c : Code) (s : St) (Q : Exit × St → Prop) : Prop := ∃ r N, (∀ n m, N ≤ n → N ≤ m → evCode E (evCall E m) n none c s = some r) ∧ Q r
/-- A scope's code. -/
def WPS (E : Env) (j c : Code) (s : St) (Q : Exit × St → Prop) : Prop := ∃ r N, (∀ n m, N ≤ n → N ≤ m → evCode E (evCall E m) n (some j) c s = some r) ∧ Q r
/-- Operations come to what 'Q' holds of. -/
def WPO (E : Env) (ops : Array Oper) (l : List Oper) (s : St) (Q : Exit × St → Prop) : Prop := ∃ r N, (∀ m, N ≤ m → evOps E (evCall E m) ops l s = some r) ∧ Q r

theorem WP.of {c : Code} {s : St} {Q : Exit × St → Prop} {r : Exit × St} (N : Nat) (h : ∀ n m, N ≤ n → N ≤ m → evCode E (evCall E m) (n + 1) none c s = some r) (hq : Q r) : WP E c s Q :=
  ⟨r, N + 1, fun n m hn hm => by
    obtain ⟨n, rfl⟩ : ∃ k, n = k + 1 := ⟨n - 1, by omega⟩
    exact h n m (by omega) (by omega), hq⟩

theorem WP.mono {c : Code} {s : St} {Q Q' : Exit × St → Prop} (h : WP E c s Q) (hq : ∀ r, Q r → Q' r) : WP E c s Q' := by
  obtain ⟨r, N, h1, h2⟩ := h; exact ⟨r, N, h1, hq r h2⟩

theorem WP.skip {s : St} {Q : Exit × St → Prop} (h : Q (.normal, s)) : WP E .skip s Q := WP.of 0 (fun _ _ _ _ => rfl) h
theorem WP.label {l : _} {s : St} {Q : Exit × St → Prop} (h : Q (.normal, s)) : WP E (.label l) s Q := WP.of 0 (fun _ _ _ _ => rfl) h
theorem WP.exit {i : Nat} {s : St} {Q : Exit × St → Prop} (h : Q (.exit i, s)) : WP E (.exit i) s Q := WP.of 0 (fun _ _ _ _ => rfl) h
theorem WP.goto {l : _} {s : St} {Q : Exit × St → Prop} (h : Q (.goto l, s)) : WP E (.goto l) s Q := WP.of 0 (fun _ _ _ _ => rfl) h
theorem WP.ret {s : St} {Q : Exit × St → Prop} (h : Q (.ret, s)) : WP E .ret s Q := WP.of 0 (fun _ _ _ _ => rfl) h

theorem WP.seq {a b : Code} {s : St} {Q : Exit × St → Prop} (h : WP E a s fun r => match r with
    | (.normal, s') => WP E b s' Q
    | r => Q r) : WP E (.seq a b) s Q := by
  obtain ⟨r, N, h1, h2⟩ := h
  have key : ∀ n m, N ≤ n → N ≤ m → evCode E (evCall E m) (n + 1) none (.seq a b) s = (match some r with
      | some (.normal, s') => evCode E (evCall E m) n none b s'
      | r => r) := by
    intro n m hn hm
    rw [evCode_none]
    show (match evCode E (evCall E m) n none a s with
      | some (.normal, s') => evCode E (evCall E m) n none b s'
      | r => r) = _
    rw [h1 n m hn hm]
  obtain ⟨e, s'⟩ := r
  cases e
  case normal =>
    obtain ⟨r', N', h3, h4⟩ := h2
    exact WP.of (N + N') (fun n m hn hm => by rw [key n m (by omega) (by omega)]; exact h3 n m (by omega) (by omega)) h4
  all_goals exact WP.of N (fun n m hn hm => by rw [key n m hn hm]) h2

theorem WP.cond {x : Operand} {a b : Code} {s : St} {Q : Exit × St → Prop} {t : Bool} (hx : evR s.tm x = .bool t) (h : WP E (bif t then a else b) s Q) : WP E (.cond x a b) s Q := by
  obtain ⟨r, N, h1, h2⟩ := h
  refine WP.of N (fun n m hn hm => ?_) h2
  rw [evCode_none]
  show (match evR s.tm x with
    | .bool t => bif t then evCode E (evCall E m) n none a s else evCode E (evCall E m) n none b s
    | _ => none) = _
  rw [hx]
  have := h1 n m hn hm
  cases t <;> exact this
theorem WP.cond_true {x : Operand} {a b : Code} {s : St} {Q : Exit × St → Prop} (hx : evR s.tm x = .bool true) (h : WP E a s Q) : WP E (.cond x a b) s Q := WP.cond hx h
theorem WP.cond_false {x : Operand} {a b : Code} {s : St} {Q : Exit × St → Prop} (hx : evR s.tm x = .bool false) (h : WP E b s Q) : WP E (.cond x a b) s Q := WP.cond hx h

/-- What a block makes of an exit. -/
def outOf (id : Nat) : Exit → Exit
  | .exit j => bif Nat.beq j id then Exit.normal else Exit.exit j
  | e => e

theorem WP.block {id : Nat} {b : Code} {s : St} {Q : Exit × St → Prop} (h : WP E b s fun r => Q (outOf id r.1, r.2)) : WP E (.block id b) s Q := by
  obtain ⟨r, N, h1, h2⟩ := h
  refine WP.of N (fun n m hn hm => ?_) h2
  rw [evCode_none]
  show (match evCode E (evCall E m) n none b s with
    | some (.exit j, s') => bif Nat.beq j id then some (Exit.normal, s') else some (Exit.exit j, s')
    | r => r) = _
  rw [h1 n m hn hm]
  obtain ⟨e, s'⟩ := r
  cases e with
  | exit j => cases hb : Nat.beq j id <;> simp [outOf, hb]
  | _ => rfl

theorem WP.loop {b : Code} {s : St} {Q : Exit × St → Prop} (I : Nat → St → Prop) (d : Nat) (h0 : I d s)
    (hstep : ∀ d s, I d s → WP E b s fun r => match r with
      | (.normal, s') => ∃ d', d' < d ∧ I d' s'
      | r => Q r) : WP E (.loop b) s Q := by
  have key : ∀ k d s, d < k → I d s → WP E (.loop b) s Q := by
    intro k
    induction k with
    | zero => intro d s hd; omega
    | succ k ih =>
      intro d s hd hi
      obtain ⟨r, N, h1, h2⟩ := hstep d s hi
      have eq : ∀ n m, N ≤ n → N ≤ m → evCode E (evCall E m) (n + 1) none (.loop b) s = (match some r with
          | some (.normal, s') => evCode E (evCall E m) n none (.loop b) s'
          | r => r) := by
        intro n m hn hm
        rw [evCode_none]
        show (match evCode E (evCall E m) n none b s with
          | some (.normal, s') => evCode E (evCall E m) n none (.loop b) s'
          | r => r) = _
        rw [h1 n m hn hm]
      obtain ⟨e, s'⟩ := r
      cases e
      case normal =>
        obtain ⟨d', hd', hi'⟩ := h2
        obtain ⟨r', N', h3, h4⟩ := ih d' s' (by omega) hi'
        exact WP.of (N + N') (fun n m hn hm => by rw [eq n m (by omega) (by omega)]; exact h3 n m (by omega) (by omega)) h4
      all_goals exact WP.of N (fun n m hn hm => by rw [eq n m hn hm]) h2
  exact key (d + 1) d s (Nat.lt_succ_self _) h0

theorem WP.region {id : _} {ops : Array Oper} {s : St} {Q : Exit × St → Prop} (h : WPO E ops ops.toList s Q) : WP E (.region id ops false) s Q := by
  obtain ⟨r, N, h1, h2⟩ := h
  refine WP.of N (fun n m hn hm => ?_) h2
  rw [evCode_none]
  exact h1 m hm

/-- A drawn region. -/
theorem WP.draw {id : _} {ops : Array Oper} {s : St} {Q : Exit × St → Prop} {r : Exit × St} (N : Nat) (h : ∀ m, N ≤ m → evDraw E (evCall E m) ops s = some r) (hq : Q r) : WP E (.region id ops true) s Q := by
  refine WP.of N (fun n m hn hm => ?_) hq
  rw [evCode_none]
  exact h m hm

theorem WP.scope {b : Code} {s : St} {Q : Exit × St → Prop} (h : WPS E b b s Q) : WP E (.scope b) s Q := by
  obtain ⟨r, N, h1, h2⟩ := h
  refine WP.of N (fun n m hn hm => ?_) h2
  rw [evCode_none]
  exact h1 n m hn hm

theorem WPS.of_wp {j c : Code} {s : St} {Q : Exit × St → Prop} (h : WP E c s fun r => match r with
    | (.goto l, s') => match findLabel j l with
      | some rest => WPS E j rest s' Q
      | none => Q (.goto l, s')
    | r => Q r) : WPS E j c s Q := by
  obtain ⟨r, N, h1, h2⟩ := h
  have key : ∀ n m, N ≤ n → N ≤ m → evCode E (evCall E m) (n + 1) (some j) c s = (match some r with
      | some (.goto l, s') => match findLabel j l with
        | some rest => evCode E (evCall E m) n (some j) rest s'
        | none => some (.goto l, s')
      | r => r) := by
    intro n m hn hm
    rw [evCode_some, h1 n m hn hm]
    rcases r with ⟨e, s'⟩
    cases e <;> rfl
  have fin : ∀ r' N', (∀ n m, N' ≤ n → N' ≤ m → evCode E (evCall E m) (n + 1) (some j) c s = some r') → Q r' → WPS E j c s Q := by
    intro r' N' h3 h4
    exact ⟨r', N' + 1, fun n m hn hm => by
      obtain ⟨n, rfl⟩ : ∃ k, n = k + 1 := ⟨n - 1, by omega⟩
      exact h3 n m (by omega) (by omega), h4⟩
  obtain ⟨e, s'⟩ := r
  cases e
  case goto l =>
    simp only at h2 key
    cases hl : findLabel j l with
    | none =>
      rw [hl] at h2
      exact fin _ N (fun n m hn hm => by rw [key n m hn hm, hl]) h2
    | some rest =>
      rw [hl] at h2
      obtain ⟨r', N', h3, h4⟩ := h2
      exact fin r' (N + N') (fun n m hn hm => by rw [key n m (by omega) (by omega), hl]; exact h3 n m (by omega) (by omega)) h4
  all_goals exact fin _ N (fun n m hn hm => by rw [key n m hn hm]) h2

theorem WPO.nil {ops : Array Oper} {s : St} {Q : Exit × St → Prop} (h : Q (.normal, s)) : WPO E ops [] s Q := ⟨_, 0, fun _ _ => rfl, h⟩

theorem evOpsStep_eq (cf : Nat → List Value → Heap → Option CR) (ops : Array Oper) (o : Oper) (next : St → Option (Exit × St)) (s : St) : evOpsStep E cf ops o next s = bif wantedV ops s o then
    match evOp E s.h (evR s.tm) o.op with
    | some (.val v h) => next (s.put o.dst v h)
    | some (.call f args h) => match cf f args h with
      | some (.ret v h') => next (s.put o.dst v h')
      | some (.pan v h') => some (.panic [{ v, recovered := false }], { s with h := h' })
      | none => none
    | some (.defer d) => next ((⟨s.tm, d :: s.df, s.h⟩ : St).put o.dst undef s.h)
    | some (.panic v) => some (.panic [{ v, recovered := false }], s)
    | none => none
  else next (s.put o.dst undef s.h) := rfl

theorem WPO.op {ops : Array Oper} {o : Oper} {rest : List Oper} {s : St} {Q : Exit × St → Prop} {v : Value} {h : Heap} (hw : wantedV ops s o = true) (he : evOp E s.h (evR s.tm) o.op = some (.val v h))
    (hn : WPO E ops rest (s.put o.dst v h) Q) : WPO E ops (o :: rest) s Q := by
  obtain ⟨r, N, h1, h2⟩ := hn
  refine ⟨r, N, fun m hm => ?_, h2⟩
  rw [evOps_cons, evOpsStep_eq, hw, he]
  exact h1 m hm

theorem WPO.skip {ops : Array Oper} {o : Oper} {rest : List Oper} {s : St} {Q : Exit × St → Prop} (hw : wantedV ops s o = false)
    (hn : WPO E ops rest (s.put o.dst undef s.h) Q) : WPO E ops (o :: rest) s Q := by
  obtain ⟨r, N, h1, h2⟩ := hn
  refine ⟨r, N, fun m hm => ?_, h2⟩
  rw [evOps_cons, evOpsStep_eq, hw]
  exact h1 m hm

theorem WPO.call {ops : Array Oper} {o : Oper} {rest : List Oper} {s : St} {Q : Exit × St → Prop} {f : Nat} {args : List Value} {h h' : Heap} {v : Value} (hw : wantedV ops s o = true) (he : evOp E s.h (evR s.tm) o.op = some (.call f args h))
    (hc : Ev E f args h (.ret v h')) (hn : WPO E ops rest (s.put o.dst v h') Q) : WPO E ops (o :: rest) s Q := by
  obtain ⟨r, N, h1, h2⟩ := hn
  obtain ⟨M, hM⟩ := hc
  refine ⟨r, N + M, fun m hm => ?_, h2⟩
  rw [evOps_cons, evOpsStep_eq, hw, he]
  simp only [cond_true, hM m (show M ≤ m by omega)]
  exact h1 m (by omega)

theorem WPO.callPanic {ops : Array Oper} {o : Oper} {rest : List Oper} {s : St} {Q : Exit × St → Prop} {f : Nat} {args : List Value} {h h' : Heap} {v : Value} (hw : wantedV ops s o = true) (he : evOp E s.h (evR s.tm) o.op = some (.call f args h))
    (hc : Ev E f args h (.pan v h')) (hq : Q (.panic [{ v, recovered := false }], { s with h := h' })) : WPO E ops (o :: rest) s Q := by
  obtain ⟨M, hM⟩ := hc
  refine ⟨_, M, fun m hm => ?_, hq⟩
  rw [evOps_cons, evOpsStep_eq, hw, he]
  simp only [cond_true, hM m hm]

theorem WPO.panic {ops : Array Oper} {o : Oper} {rest : List Oper} {s : St} {Q : Exit × St → Prop} {v : Value} (hw : wantedV ops s o = true) (he : evOp E s.h (evR s.tm) o.op = some (.panic v))
    (hq : Q (.panic [{ v, recovered := false }], s)) : WPO E ops (o :: rest) s Q := by
  refine ⟨_, 0, fun m hm => ?_, hq⟩
  rw [evOps_cons, evOpsStep_eq, hw, he]
  rfl

theorem Ev.sum {f : Nat} {g : List Value → Heap → Option CR} {args : List Value} {h : Heap} {r : CR} (hs : E.sum f = some g) (hg : g args h = some r) : Ev E f args h r :=
  ⟨1, fun m hm => by
    obtain ⟨m, rfl⟩ : ∃ k, m = k + 1 := ⟨m - 1, by omega⟩
    rw [evCall_succ]; unfold evCallStep; rw [hs]; exact hg⟩

/-- A call whose body comes to its end with nothing deferred. -/
theorem Ev.body {f : Nat} {fn : Func} {c : Code} {args : List Value} {h : Heap} {r : CR} (hs : E.sum f = none) (hf : E.fn f = some fn) (hb : fn.body = some c)
    (hw : WP E c ⟨Tm.ofList args, [], h⟩ fun p => (p.1 = .normal ∨ p.1 = .ret) ∧ p.2.df = [] ∧ ∃ v, resultV E fn p.2 = some v ∧ r = .ret v p.2.h) : Ev E f args h r := by
  obtain ⟨⟨e, s⟩, N, h1, hx, hdf, v, hv, rfl⟩ := hw
  refine ⟨N + 2, fun m hm => ?_⟩
  obtain ⟨m, rfl⟩ : ∃ k, m = k + 1 := ⟨m - 1, by omega⟩
  rw [evCall_succ]; unfold evCallStep; rw [hs]; simp only [hf]
  unfold evBody; simp only [hb]; rw [h1 m m (by omega) (by omega)]
  simp only at hx hdf hv
  rcases hx with rfl | rfl
  · obtain ⟨tm, df, h⟩ := s; simp only at hdf hv; subst hdf; simp only [evDefers, hv]
  · obtain ⟨tm, df, h⟩ := s; simp only at hdf hv; subst hdf; simp only [evDefers, hv]

/-- A call comes to what 'Q' holds of. -/
def EvQ (E : Env) (f : Nat) (args : List Value) (h : Heap) (Q : CR → Prop) : Prop := ∃ r, Ev E f args h r ∧ Q r

theorem EvQ.body {f : Nat} {fn : Func} {c : Code} {args : List Value} {h : Heap} {Q : CR → Prop} (hs : E.sum f = none) (hf : E.fn f = some fn) (hb : fn.body = some c)
    (hw : WP E c ⟨Tm.ofList args, [], h⟩ fun p => (p.1 = .normal ∨ p.1 = .ret) ∧ p.2.df = [] ∧ ∃ v, resultV E fn p.2 = some v ∧ Q (.ret v p.2.h)) : EvQ E f args h Q := by
  obtain ⟨r, N, h1, hx, hdf, v, hv, hq⟩ := hw
  exact ⟨_, Ev.body hs hf hb ⟨r, N, h1, hx, hdf, v, hv, rfl⟩, hq⟩

theorem Ev.exists {f : Nat} {args : List Value} {h : Heap} {r : CR} (he : Ev E f args h r) : ∃ n, evCall E n f args h = some r := by
  obtain ⟨N, h1⟩ := he; exact ⟨N, h1 N (Nat.le_refl _)⟩

theorem Tm.set_self {t : Tm} {k : Nat} {v : Value} (h : t.get k = some v) : t.set k v = t := by
  funext j
  have := Tm.get_set t k v j
  unfold Tm.get at this h
  rw [this]
  split
  · rename_i e; rw [e, h]
  · rfl

theorem evR_tmp (tm : Tm) (t : Nat) : evR tm (.tmp t) = (tm.get t).getD undef := rfl
theorem St.put_some (s : St) (d : Nat) (v : Value) (h : Heap) : s.put (some d) v h = ⟨s.tm.set d v, s.df, h⟩ := rfl
theorem St.put_none (s : St) (v : Value) (h : Heap) : s.put none v h = ⟨s.tm, s.df, h⟩ := rfl

end Go.Vd

/- More fuel gives the same. -/
namespace Go.Vd
variable {E : Env}

def Sub (cf cf' : Nat → List Value → Heap → Option CR) : Prop := ∀ f a h r, cf f a h = some r → cf' f a h = some r

theorem ops_mono {cf cf' : Nat → List Value → Heap → Option CR} (hc : Sub cf cf') (ops : Array Oper) : ∀ (l : List Oper) (s : St) (r : Exit × St), evOps E cf ops l s = some r → evOps E cf' ops l s = some r
  | [], s, r, h => h
  | o :: rest, s, r, h => by
    rw [evOps_cons, evOpsStep_eq] at h ⊢
    cases hw : wantedV ops s o with
    | false => rw [hw] at h; exact ops_mono hc ops rest _ r h
    | true =>
      rw [hw] at h
      simp only [cond_true] at h ⊢
      split at h
      · rename_i v h1 he; exact ops_mono hc ops rest _ r h
      · rename_i f args h1 he
        split at h
        · rename_i v h' hcf; simp only [hc _ _ _ _ hcf]; exact ops_mono hc ops rest _ r h
        · rename_i v h' hcf; simp only [hc _ _ _ _ hcf]; exact h
        · cases h
      · rename_i d he; exact ops_mono hc ops rest _ r h
      · exact h
      · cases h

theorem ref_mono {cf cf' : Nat → List Value → Heap → Option CR} (hc : Sub cf cf') (ops : Array Oper) (ds : List Nat) : ∀ (l : List Oper) (tm : Tm) (h : Heap) (r : Tm × List Heap), evRef E cf ops ds l tm h = some r → evRef E cf' ops ds l tm h = some r
  | [], tm, h, r, e => e
  | o :: rest, tm, h, r, e => by
    have ih := ref_mono hc ops ds rest
    unfold evRef at e ⊢
    cases hi : isle ds o with
    | true => rw [hi] at e; simp only [cond_true] at e ⊢; exact ih _ _ _ e
    | false =>
      rw [hi] at e
      simp only [cond_false] at e ⊢
      cases hw : wantedT ops tm o with
      | true =>
        rw [hw] at e
        simp only [cond_true] at e ⊢
        split at e
        · rename_i v h' he
          cases hq : quietOp o.op with
          | true => rw [hq] at e; simp only [cond_true] at e ⊢; exact ih _ _ _ e
          | false =>
            rw [hq] at e
            simp only [cond_false] at e ⊢
            split at e
            · rename_i t l hl; rw [ih _ _ _ hl]; exact e
            · cases e
        · rename_i f args h1 he
          cases hq : quietOp o.op with
          | true => rw [hq] at e; cases e
          | false =>
            rw [hq] at e
            simp only [cond_false] at e ⊢
            split at e
            · rename_i v h' hcf
              simp only [hc _ _ _ _ hcf]
              split at e
              · rename_i t l hl; rw [ih _ _ _ hl]; exact e
              · cases e
            · cases e
        · cases e
      | false =>
        rw [hw] at e
        simp only [cond_false] at e ⊢
        cases hq : quietOp o.op with
        | true => rw [hq] at e; simp only [cond_true] at e ⊢; exact ih _ _ _ e
        | false =>
          rw [hq] at e
          simp only [cond_false] at e ⊢
          split at e
          · rename_i t l hl; rw [ih _ _ _ hl]; exact e
          · cases e

theorem draw_mono {cf cf' : Nat → List Value → Heap → Option CR} (hc : Sub cf cf') (ops : Array Oper) (s : St) (r : Exit × St) (h : evDraw E cf ops s = some r) : evDraw E cf' ops s = some r := by
  unfold evDraw evDraw2 at h ⊢
  split at h
  · rename_i fin hs ms e1 e2
    rw [ref_mono hc _ _ _ _ _ _ e1]
    simp only [e2]
    obtain ⟨h1, h2⟩ := cond_some h
    rw [h1]
    simp only [cond_true]
    split at h2
    · rename_i tm h3 e3
      (try simp only [e3])
      exact ops_mono hc ops _ _ r h2
    · cases h2
  · cases h

theorem code_mono {cf cf' : Nat → List Value → Heap → Option CR} (hc : Sub cf cf') : ∀ (n n' : Nat), n ≤ n' → ∀ (j : Option Code) (c : Code) (s : St) (r : Exit × St), evCode E cf n j c s = some r → evCode E cf' n' j c s = some r := by
  intro n
  induction n with
  | zero => intro n' _ j c s r h; cases h
  | succ n ih =>
    intro n' hn j c s r h
    obtain ⟨n', rfl⟩ : ∃ k, n' = k + 1 := ⟨n' - 1, by omega⟩
    have ih := ih n' (by omega)
    cases j with
    | some b =>
      rw [evCode_some] at h ⊢
      split at h
      · rename_i l s' e1
        rw [ih _ _ _ _ e1]
        simp only
        split at h
        · rename_i rest e2; (try simp only [e2]); exact ih _ _ _ _ h
        · rename_i e2; (try simp only [e2]); exact h
      · rename_i e1
        cases hx : evCode E cf n none c s with
        | none => rw [hx] at h; cases h
        | some p =>
          rw [hx] at h
          rw [ih _ _ _ _ hx]
          obtain ⟨e, s'⟩ := p
          cases e with
          | goto l => exact absurd hx (e1 l s')
          | _ => exact h
    | none =>
      rw [evCode_none] at h ⊢
      cases c with
      | seq a b =>
        unfold evStepN at h ⊢
        simp only at h ⊢
        cases hx : evCode E cf n none a s with
        | none => rw [hx] at h; cases h
        | some p =>
          rw [hx] at h
          rw [ih _ _ _ _ hx]
          obtain ⟨e, s'⟩ := p
          cases e with
          | normal => exact ih _ _ _ _ h
          | _ => exact h
      | cond x a b =>
        unfold evStepN at h ⊢
        simp only at h ⊢
        split at h
        · rename_i t ht
          (try simp only [ht])
          cases t with
          | true => exact ih _ _ _ _ h
          | false => exact ih _ _ _ _ h
        · cases h
      | block id b =>
        unfold evStepN at h ⊢
        simp only at h ⊢
        cases hx : evCode E cf n none b s with
        | none => rw [hx] at h; cases h
        | some p =>
          rw [hx] at h
          rw [ih _ _ _ _ hx]
          obtain ⟨e, s'⟩ := p
          cases e <;> exact h
      | loop b =>
        unfold evStepN at h ⊢
        simp only at h ⊢
        cases hx : evCode E cf n none b s with
        | none => rw [hx] at h; cases h
        | some p =>
          rw [hx] at h
          rw [ih _ _ _ _ hx]
          obtain ⟨e, s'⟩ := p
          cases e with
          | normal => exact ih _ _ _ _ h
          | _ => exact h
      | scope b => exact ih _ _ _ _ h
      | region id ops draw =>
        unfold evStepN at h ⊢
        simp only at h ⊢
        cases draw with
        | true => exact draw_mono hc ops s r h
        | false => exact ops_mono hc ops _ s r h
      | skip => exact h
      | label l => exact h
      | exit i => exact h
      | goto l => exact h
      | ret => exact h
      | _ => unfold evStepN at h; cases h

theorem defers_mono {cf cf' : Nat → List Value → Heap → Option CR} (hc : Sub cf cf') {n n' : Nat} (hn : n ≤ n') : ∀ (ds : List Deferred) (m : Mood) (h : Heap) (r : Mood × Heap), evDefers E cf n ds m h = some r → evDefers E cf' n' ds m h = some r
  | [], m, h, r, e => e
  | d :: ds, m, h, r, e => by
    have opsD : ∀ (ops : Array Oper) (l : List Oper) (m : Mood) (s : St), evOpsD E cf ops l m s = evOpsD E cf' ops l m s := by
      intro ops l
      induction l with
      | nil => intro m s; rfl
      | cons o rest ih => intro m s; unfold evOpsD; simp only [ih]
    have one : ∀ f args m h r, evDeferred E cf n m f args h = some r → evDeferred E cf' n' m f args h = some r := by
      intro f args m h r e
      unfold evDeferred at e ⊢
      split at e
      · cases e
      · rename_i fn hf
        (try simp only [hf])
        split at e
        · rename_i ops rest hb
          (try simp only [hb])
          rw [← opsD]
          split at e
          · cases e
          · rename_i m' s hm
            (try simp only [hm])
            split at e
            · rename_i s' hx; rw [code_mono hc n n' hn _ _ _ _ hx]; exact e
            · rename_i s' hx; rw [code_mono hc n n' hn _ _ _ _ hx]; exact e
            · cases e
        · cases e
    unfold evDefers at e ⊢
    split at e
    · rename_i f cap ht
      (try simp only [ht])
      split at e
      · rename_i m' h' h1
        simp only [one _ _ _ _ _ h1]
        exact defers_mono hc hn ds m' h' r e
      · cases e
    · cases e

theorem body_mono {cf cf' : Nat → List Value → Heap → Option CR} (hc : Sub cf cf') {n n' : Nat} (hn : n ≤ n') (fn : Func) (args : List Value) (h : Heap) (r : CR) (e : evBody E cf n fn args h = some r) : evBody E cf' n' fn args h = some r := by
  unfold evBody at e ⊢
  split at e
  · cases e
  · rename_i c hb
    (try simp only [hb])
    split at e
    · cases e
    · rename_i x s hx
      simp only [code_mono hc n n' hn _ _ _ _ hx]
      split at e
      · cases e
      · rename_i m hm
        (try simp only [hm])
        split at e
        · cases e
        · rename_i h' hd
          simp only [defers_mono hc hn _ _ _ _ hd]; exact e
        · rename_i v h' hd
          simp only [defers_mono hc hn _ _ _ _ hd]; exact e
        · cases e

theorem call_mono : ∀ (n n' : Nat), n ≤ n' → ∀ f args h r, evCall E n f args h = some r → evCall E n' f args h = some r := by
  intro n
  induction n with
  | zero => intro n' _ f args h r e; cases e
  | succ n ih =>
    intro n' hn f args h r e
    obtain ⟨n', rfl⟩ : ∃ k, n' = k + 1 := ⟨n' - 1, by omega⟩
    rw [evCall_succ] at e ⊢
    unfold evCallStep at e ⊢
    split at e
    · rename_i g hg; (try simp only [hg]); exact e
    · rename_i hg
      (try simp only [hg])
      split at e
      · rename_i fn hf; (try simp only [hf])
        exact body_mono (fun f a h r => ih n' (by omega) f a h r) (by omega) fn args h r e
      · cases e

/-- A call that has been run. -/
theorem Ev.of_run {n f : Nat} {args : List Value} {h : Heap} {r : CR} (e : evCall E n f args h = some r) : Ev E f args h r := ⟨n, fun m hm => call_mono n m hm f args h r e⟩

/-- Code that has been run. -/
theorem WP.of_run {n m : Nat} {c : Code} {s : St} {r : Exit × St} {Q : Exit × St → Prop} (e : evCode E (evCall E m) n none c s = some r) (hq : Q r) : WP E c s Q :=
  ⟨r, n + m, fun n' m' hn hm => code_mono (fun f a h r => call_mono m m' (by omega) f a h r) n n' (by omega) _ _ _ _ e, hq⟩

end Go.Vd

/- The operations where something is asked of the values. -/
namespace Go.Vd
variable {E : Env} {h : Heap} {ρ : Operand → Value}

theorem blt_true {a b : Nat} (h : a < b) : Nat.blt a b = true := by
  unfold Nat.blt; exact Nat.ble_eq_true_of_le h
theorem blt_false {a b : Nat} (h : b ≤ a) : Nat.blt a b = false := by
  cases hb : Nat.blt a b
  · rfl
  · unfold Nat.blt at hb; have := Nat.le_of_ble_eq_true hb; omega
theorem ble_true {a b : Nat} (h : a ≤ b) : Nat.ble a b = true := Nat.ble_eq_true_of_le h
theorem ble_false {a b : Nat} (h : b < a) : Nat.ble a b = false := by
  cases hb : Nat.ble a b
  · rfl
  · have := Nat.le_of_ble_eq_true hb; omega
theorem ltI_true {a b : Nat} (h : a < b) : ltI (.ofNat a) (.ofNat b) = true := blt_true h
theorem ltI_false {a b : Nat} (h : b ≤ a) : ltI (.ofNat a) (.ofNat b) = false := blt_false h
theorem eqI_true (a : Nat) : eqI (.ofNat a) (.ofNat a) = true := Nat.beq_refl a
theorem eqI_false {a b : Nat} (h : a ≠ b) : eqI (.ofNat a) (.ofNat b) = false := T.beq_false_of_ne h
/-- Whole numbers that fit. -/
theorem add_fits {k : IntKind} {a b : Nat} (h : a + b < halfOf k) : wrapI k (.ofNat a + .ofNat b) = .ofNat (a + b) := by
  show (bif Nat.blt (a + b) (halfOf k) then Int.ofNat (a + b) else _) = _
  rw [blt_true h]; rfl

theorem op_indexAddr {t e len c2 k i off z : Nat} {x y : Operand} {ti te : TI} {kd : IntKind} (ht : E.ty t = some ti) (hd : ti.desc = .slice e) (he : E.ty e = some te)
    (hx : ρ x = slc i off len c2 z) (hy : ρ y = .int kd (.ofNat k)) (hk : k < len) : evOp E h ρ (.indexAddr t x y) = some (.val (ptr i (off + k * te.size)) h) := by
  show oIndexAddr E h (ρ x) (natV (ρ y)) (E.ty t) = _
  rw [hx, hy, ht]
  unfold oIndexAddr slc
  simp only [natV, hd, rPtr, he, blt_true hk, cond_true]

theorem loadV_cell {t i off : Nat} {ti : TI} {c : List Value} {b : BI} {v : Value} (ht : E.ty t = some ti) (ha : isAggD ti.desc = false) (hg : h.t.get i = some (.cells c b)) (hok : h.ok b = true) (hc : c[off]? = some v) :
    loadV E h t i off = some v := by
  unfold loadV
  simp only [ht, ha, cond_false, Heap.rd_def, hg, hok, Bool.true_and]
  have hlt : off < c.length := (List.getElem?_eq_some_iff.1 hc).1
  rw [ble_true (show off + 1 ≤ c.length by omega)]
  simp only [cond_true]
  rw [List.drop_eq_getElem_cons hlt]
  have : c[off] = v := (List.getElem?_eq_some_iff.1 hc).2
  simp [this]

theorem op_load {t i off : Nat} {x : Operand} {ti : TI} {c : List Value} {b : BI} {v : Value} (ht : E.ty t = some ti) (ha : isAggD ti.desc = false) (hx : ρ x = ptr i off) (hg : h.t.get i = some (.cells c b)) (hok : h.ok b = true) (hc : c[off]? = some v) :
    evOp E h ρ (.load t x) = some (.val v h) := by
  show oLoad E h t (ρ x) = _
  rw [hx]
  show rV h (loadV E h t i off) = _
  rw [loadV_cell ht ha hg hok hc]; rfl

theorem ok_self {i : Nat} {c : List Value} {b : BI} (hg : h.t.get i = some (.cells c b)) (hr : b.root = i) (hw : b.writes = b.gen) : h.ok b = true := by
  unfold Heap.ok
  rw [hr, hg]; simp only [hw, Nat.beq_refl]

theorem wr_self {i off : Nat} {c : List Value} {b : BI} {v : Value} (hg : h.t.get i = some (.cells c b)) (hr : b.root = i) (hw : b.writes = b.gen) (hro : b.ro = false) (hwl : b.wlo ≤ off) (hlt : off < c.length) (ho : oneV v = true) :
    h.wr i off [v] = some ⟨h.next, h.t.set i (.cells (c.set off v) { b with gen := b.gen + 1, writes := b.gen + 1 })⟩ := by
  rw [Heap.wr_def]
  simp only [hg, ok_self hg hr hw, hro, List.length_cons, List.length_nil, ble_true (show off + (0 + 1) ≤ c.length by omega), ble_true hwl, List.all_cons, List.all_nil, ho, Bool.not_false, Bool.and_true, cond_true, hr, Nat.beq_refl]
  have e : c.take off ++ ([v] ++ c.drop (off + 1)) = c.set off v := by
    rw [List.set_eq_take_append_cons_drop, if_pos hlt]; rfl
  rw [e]

theorem op_store {t i off : Nat} {x y : Operand} {ti : TI} {v : Value} {h' : Heap} (ht : E.ty t = some ti) (hx : ρ x = ptr i off) (hy : ρ y = v) (hs : Nat.beq v.cells.size ti.size = true) (hw : h.wr i off v.cells.toList = some h') :
    evOp E h ρ (.store t x y) = some (.val undef h') := by
  show oStore E h t (ρ y) (ρ x) = _
  rw [hx, hy]
  show rH (storeV E h t i off v) = _
  unfold storeV
  simp only [ht, hs, cond_true, hw, rH]

theorem rd_all {i n : Nat} {c : List Value} {b : BI} (hg : h.t.get i = some (.cells c b)) (hok : h.ok b = true) (hn : n = c.length) : h.rd i 0 n = some c := by
  rw [Heap.rd_def]
  subst hn
  simp only [hg, hok, Nat.zero_add, ble_true (Nat.le_refl _), Bool.true_and, cond_true, List.drop_zero, List.take_length]

theorem bytesOf_byteVals : ∀ (l : List UInt8), bytesOf (byteVals l) = some l
  | [] => rfl
  | b :: l => by
    show (match bytesOf (byteVals l) with | some l => some (UInt8.ofNat (Int.ofNat b.toNat).toNat :: l) | none => none) = _
    rw [bytesOf_byteVals l]
    simp

theorem wanted_yes {ops : Array Oper} {s : St} {o : Oper} {j d : Nat} {want : Bool} (hg : o.guard = some (j, want)) (hd : (ops[j]?).bind (·.dst) = some d) (ht : s.tm.get d = some (.bool want)) : wantedV ops s o = true := by
  unfold wantedV
  simp only [hg, hd, ht]
  cases want <;> rfl
theorem wanted_no {ops : Array Oper} {s : St} {o : Oper} {j d : Nat} {want : Bool} (hg : o.guard = some (j, want)) (hd : (ops[j]?).bind (·.dst) = some d) (ht : s.tm.get d = some (.bool (!want))) : wantedV ops s o = false := by
  unfold wantedV
  simp only [hg, hd, ht]
  cases want <;> rfl

end Go.Vd
