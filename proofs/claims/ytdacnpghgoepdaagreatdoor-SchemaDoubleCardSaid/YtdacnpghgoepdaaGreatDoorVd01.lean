/- The reckoner and what it is asked: part 2. -/
import Derived.Laws.Tables
import Derived.Laws.StructEq
import Derived.Great.BuildSlice
import Derived.Deep.AppendLies
import Derived.Laws.BytesString
import Derived.Laws.IdiomStrings
import Derived.LoopN
import Derived.Scope
import Derived.Defers
import Derived.Orders
import Derived.Test.YtdacnpghgoepdaaGreatDoorVd00
/- Copies, literals, makes. -/
namespace Go.Vd
variable {B : Base} {φ : Phi} {h : Heap} {P : Program} {w : World} {E : Env}

theorem firstV_all (R : RW B φ h w) {esz n : Nat} {x u : Value} {l : List Value} (e : firstV h esz n x = some l) (hn : ∀ m, lenV x = some m → n ≤ m) (hu : VR φ x u) :
    ∃ us : List Value, (Builtin.firstCells esz n u).run P w = .ok us.toArray w ∧ LR φ l us := by
  obtain ⟨us, h1, h2⟩ := firstV_run (P := P) R e hn hu
  exact ⟨us, h1 w rfl, h2⟩

theorem tyAt_inv {o : Option Nat} {ti : TI} (e : tyAt E o = some ti) : ∃ t, o = some t ∧ E.ty t = some ti := by
  unfold tyAt at e
  split at e
  · exact ⟨_, rfl, e⟩
  · cases e

theorem rHI_inv {m : Nat} {o : Option Heap} {r : OpR} (e : rHI m o = some r) : ∃ h', o = some h' ∧ r = .val (goInt m) h' := by
  unfold rHI at e
  split at e
  · injection e with e; exact ⟨_, rfl, e.symm⟩
  · cases e

theorem rHT_inv {o : Option Heap} {r : OpR} (e : rHT o = some r) : ∃ h', o = some h' ∧ r = .val (.tuple #[]) h' := by
  unfold rHT at e
  split at e
  · injection e with e; exact ⟨_, rfl, e.symm⟩
  · cases e

theorem copy_goes (hE : TysOK P E) (R : RW B φ h w) {d x d' x' : Value} {r : OpR} {ats : Array Nat} {ty : Nat} (e : oCopy E h d x (tyAt E ats[0]?) = some r) (hd : VR φ d d') (hx : VR φ x x') :
    Goes B P (do pure (.value (← Builtin.copy_ ats ty #[d', x']))) w φ r := by
  unfold oCopy at e
  split at e
  · rename_i e0 _ _ _ _ hst
    obtain ⟨t, ht', hst⟩ := tyAt_inv hst
    have hst' := (hE.ty t _ hst).desc
    simp only at hst'
    have hrs := run_underlying hst' w
    split at e
    · rename_i base dl c2
      split at e
      · rename_i n hlen
        split at e
        · rename_i te hte
          have fl := lenV_run (P := P) hlen hx w
          unfold oCopy2 at e
          split at e
          · cases e
          · rename_i cs hcs
            obtain ⟨us, f1, f2⟩ := firstV_all (P := P) R hcs (fun m hm => by rw [hlen] at hm; injection hm with hm; subst hm; exact Nat.min_le_left _ _) hx
            have fl2 := firstV_len hcs (fun m hm => by rw [hlen] at hm; injection hm with hm; subst hm; exact Nat.min_le_left _ _)
            rw [f2.1] at fl2
            split at e
            · injection e with e; subst e
              cases hd
              have hz0 : Nat.min n 0 = 0 := Nat.min_zero n
              rw [hz0] at f1 ⊢
              refine (VGoes.same R (u := goInt (0 : Nat)) ?_ (.int _ _)).goes
              unfold Builtin.copy_
              simp [ht', hrs, fl, run_size hE hte, f1]
            · rename_i a
              cases hm : Nat.beq (Nat.min n dl) 0
              · rw [hm] at e
                simp only [cond_false] at e
                obtain ⟨hh, hwr, rfl⟩ := rHI_inv e
                cases hd with
                | slc i off z _ _ L cap hL hc hxx hl hrr =>
                  obtain ⟨w', s1, s2⟩ := R.run_store (P := P) hwr hL f2
                  refine ⟨φ, w', φ.le_refl, s2, .inl ⟨goInt (Nat.min n dl : Nat), ?_, .int _ _⟩⟩
                  unfold Builtin.copy_
                  simp [ht', hrs, fl, run_size hE hte, f1, s1]
                | slcEnd i off z _ a' h00 =>
                  have : Nat.min n 0 = 0 := Nat.min_zero n
                  rw [this] at hm; cases hm
              · rw [hm] at e
                simp only [cond_true] at e
                injection e with e; subst e
                have hm := beq_eq hm
                rw [hm] at f1 fl2
                have hus : us = [] := by cases us with
                  | nil => rfl
                  | cons a b => simp at fl2
                subst hus
                cases hd with
                | slc i off z _ _ L cap hL hc hxx hl hrr =>
                  refine (VGoes.same R (u := goInt (0 : Nat)) ?_ (.int _ _)).goes
                  unfold Builtin.copy_
                  simp [ht', hrs, fl, run_size hE hte, hm, f1, storeCells]
                | slcEnd i off z _ a' h00 =>
                  refine (VGoes.same R (u := goInt (0 : Nat)) ?_ (.int _ _)).goes
                  unfold Builtin.copy_
                  simp [ht', hrs, fl, run_size hE hte, f1, storeCells]
        · cases e
      · cases e
    · cases e
  · cases e

theorem repCells_get {z : List Value} (hz : z ≠ []) : ∀ (n j : Nat), j < n * z.length → (repCells z n)[j]? = z[j % z.length]?
  | 0, j, h => by simp at h
  | n + 1, j, h => by
    unfold repCells
    have hp : 0 < z.length := List.length_pos_iff.2 hz
    by_cases hj : j < z.length
    · rw [List.getElem?_append_left hj, Nat.mod_eq_of_lt hj]
    · rw [List.getElem?_append_right (by omega), repCells_get hz n (j - z.length) (by rw [Nat.add_mul] at h; omega)]
      rw [← Nat.mod_eq_sub_mod (Nat.le_of_not_lt hj)]

theorem repCells_len (z : List Value) : ∀ n, (repCells z n).length = n * z.length
  | 0 => by simp [repCells]
  | n + 1 => by simp [repCells, repCells_len z n, Nat.add_mul]; omega

theorem zeros_eq (z : Array Value) (n : Nat) (hz : z.size ≠ 0) : ((Array.range (n * z.size)).map fun i => z[i % z.size]!).toList = repCells z.toList n := by
  have hz' : z.toList ≠ [] := by intro h; apply hz; simpa using congrArg List.length h
  apply List.ext_getElem?
  intro j
  simp only [Array.toList_map, Array.toList_range, List.getElem?_map]
  by_cases hj : j < n * z.size
  · rw [List.getElem?_range hj, repCells_get hz' n j (by simpa using hj)]
    have hlt : j % z.size < z.size := Nat.mod_lt _ (by omega)
    simp [hlt]
  · rw [List.getElem?_eq_none (by simpa using hj), List.getElem?_eq_none (by rw [repCells_len]; simpa using hj)]; rfl

theorem repCells_plain {z : List Value} (hz : plainCells z = true) : ∀ n, plainCells (repCells z n) = true
  | 0 => rfl
  | n + 1 => by
    unfold repCells plainCells
    rw [List.all_append]
    have := repCells_plain hz n
    unfold plainCells at this hz
    rw [hz, this]; rfl

theorem makeSlice_goes (hE : TysOK P E) (R : RW B φ h w) {t : Nat} {l c l' c' : Value} {r : OpR} (e : oMakeSlice E h (natV l) (natV c) (E.ty t) = some r) (hl : VR φ l l') (hc : VR φ c c') :
    Goes B P (do pure (.value (← Instr.makeSlice t l' c'))) w φ r := by
  unfold oMakeSlice at e
  split at e
  · rename_i e0 _ _ _ _ hst
    split at e
    · rename_i te n m hte hn hm
      obtain ⟨e1, e2⟩ := cond_some e
      simp only [Bool.and_eq_true, Bool.not_eq_true'] at e1
      obtain ⟨⟨⟨a1, a2⟩, a3⟩, a4⟩ := e1
      injection e2 with e2; subst e2
      have a1 := ble_le a1
      have a2 := ble_le a2
      have a3 := ble_le a3
      rw [most_lt] at a2 a3
      obtain ⟨k1, rfl⟩ := natV_run hn hl
      obtain ⟨k2, rfl⟩ := natV_run hm hc
      have hst' := (hE.ty t _ hst).desc
      simp only at hst'
      have hrs := run_underlying hst' w
      obtain ⟨inf, i1, i2, i3, i4⟩ := (hE.ty e0 te hte).info
      have T := hE.ty e0 te hte
      have hsz : te.size ≠ 0 := by intro hz; rw [hz] at a4; cases a4
      have wn : ∀ q : Nat, q ≤ 1099511627776 → IntKind.i64.wrap (q : Int) = (q : Int) := by
        intro q hq
        unfold IntKind.wrap IntKind.bits IntKind.signed
        simp
        omega
      have hbm : te.bytes * m ≤ 1099511627776 := by rw [Nat.mul_comm]; exact a2
      have hcells : ((Array.range (m * te.size)).map fun i => te.zero.cells[i % te.zero.cells.size]!).toList = repCells te.zero.cells.toList m := by
        rw [← T.size]; exact zeros_eq _ _ (by rw [T.size]; exact hsz)
      let cells : Array Value := (Array.range (m * te.size)).map fun i => te.zero.cells[i % te.zero.cells.size]!
      have hfr := R.fresh (c := repCells te.zero.cells.toList m) (us := repCells te.zero.cells.toList m) (rest := []) (LR.plain (repCells_plain T.plain m)) e0 te.size
      have hce : (repCells te.zero.cells.toList m ++ []).toArray = cells := by
        rw [List.append_nil, ← hcells]
      rw [hce] at hfr
      have hlen : (repCells te.zero.cells.toList m ++ []).length = m * te.size := by
        rw [List.append_nil, repCells_len, Array.length_toList, T.size]
      rw [hlen] at hfr
      refine (show VGoes B P _ w φ _ _ from ⟨_, .slice (some ⟨w.heap.size, 0, none⟩) n m, w.alloc (.cells cells e0), ?_, Phi.le_put _ (R.next _ (Nat.le_refl _)), ?_, .mk hfr R.io⟩).goes
      · have c1 : ¬ ((m : Int) < (n : Int)) := by omega
        have c2 : ¬ ((m : Int) < 0) := by omega
        have c3 : ¬ ((281474976710656 : Int) < te.bytes * m) := by omega
        unfold Instr.makeSlice
        have c4 : ¬ ((n : Int) < 0) := by omega
        simp [hrs, asInt, asIntOf, run_info i1, i3, wn n (by omega), wn m (by omega), c1, c2, c3, run_size hE hte, run_zero hE hte, newRow]
        rw [if_neg c4]
        by_cases hz : m * te.size = 0
        · rw [if_pos hz]
          have : Array.map (fun _ => default) (Array.range (m * te.size)) = cells := by simp [cells, hz]
          rw [this]
        · rw [if_neg hz]
      · exact VR.slc h.next 0 te.size _ _ ⟨w.heap.size, 0, m * te.size, te.size⟩ m (Phi.put_same _ _ _) (by omega) (by omega) (by omega) (by simp)
    · cases e
  · cases e

/-- Parts laid into cells. -/
theorem setCells_len : ∀ (vs c : List Value) (off : Nat), (setCells c off vs).length = c.length
  | [], _, _ => rfl
  | v :: r, c, off => by unfold setCells; rw [setCells_len r]; simp

theorem setCells_LR : ∀ (vs us c d : List Value) (off : Nat), LR φ vs us → LR φ c d → LR φ (setCells c off vs) (setCells d off us)
  | [], us, c, d, off, h, hc => by rw [h.nil_inv]; exact hc
  | v :: r, us, c, d, off, h, hc => by
    obtain ⟨u, us', rfl, h1, h2⟩ := h.cons_inv
    unfold setCells
    refine setCells_LR r us' _ _ _ h2 ⟨by simp [hc.1], fun i x y hx hy => ?_⟩
    rw [List.getElem?_set] at hx hy
    by_cases e : off = i
    · subst e
      rw [if_pos rfl] at hx hy
      split at hx <;> split at hy <;> simp_all
    · rw [if_neg e] at hx hy
      exact hc.2 i x y hx hy

theorem fold_setCells (vs : List Value) : ∀ (off k : Nat) (c : Array Value), ((vs.zipIdx k).foldl (fun cs p => cs.setIfInBounds (off + p.2) p.1) c).toList = setCells c.toList (off + k) vs := by
  induction vs with
  | nil => intro off k c; rfl
  | cons v r ih =>
    intro off k c
    simp only [List.zipIdx_cons, List.foldl_cons]
    rw [ih]
    rw [Array.toList_setIfInBounds, ← Nat.add_assoc]
    rfl

theorem fold_arr (cells : Array Value) (off : Nat) (c : Array Value) :
    (cells.zipIdx.foldl (fun cs p => cs.setIfInBounds (off + p.2) p.1) c).toList = setCells c.toList off cells.toList := by
  have := fold_setCells cells.toList off 0 c
  rw [← Array.foldl_toList, Array.toList_zipIdx]
  exact this

def PR (φ : Phi) (ps qs : List (Nat × Value)) : Prop := ps.length = qs.length ∧ ∀ (i : Nat) (p q : Nat × Value), ps[i]? = some p → qs[i]? = some q → p.1 = q.1 ∧ VR φ p.2 q.2

theorem PR.cons_inv {p : Nat × Value} {ps qs : List (Nat × Value)} (h : PR φ (p :: ps) qs) : ∃ q qs', qs = q :: qs' ∧ p.1 = q.1 ∧ VR φ p.2 q.2 ∧ PR φ ps qs' := by
  cases qs with
  | nil => exact absurd h.1 (by simp)
  | cons q r => exact ⟨q, r, rfl, (h.2 0 p q rfl rfl).1, (h.2 0 p q rfl rfl).2, by simpa using h.1, fun i a b ha hb => h.2 (i + 1) a b (by simpa using ha) (by simpa using hb)⟩

theorem fill_run {place : Nat → Option (Nat × Nat)} : ∀ (ps qs : List (Nat × Value)) (c c' : List Value) (d : Array Value), fillV place c ps = some c' → PR φ ps qs → LR φ c d.toList →
    ∃ d', Instr.fill place d qs = some d' ∧ LR φ c' d'.toList
  | [], qs, c, c', d, e, hp, hc => by
    cases qs with
    | nil => injection e with e; subst e; exact ⟨d, rfl, hc⟩
    | cons q r => exact absurd hp.1 (by simp)
  | (i, v) :: rest, qs, c, c', d, e, hp, hc => by
    obtain ⟨q, qs', rfl, h1, h2, h3⟩ := hp.cons_inv
    obtain ⟨j, u⟩ := q
    simp only at h1 h2
    subst h1
    unfold fillV at e
    split at e
    · cases e
    · rename_i off size hpl
      obtain ⟨e1, e2⟩ := cond_some e
      rw [Bool.and_eq_true] at e1
      have s1 := beq_eq e1.1
      have s2 := ble_le e1.2
      have hsz : u.cells.size = v.cells.size := by have := h2.cells.1; simpa using this.symm
      have hds : d.size = c.length := by have := hc.1; simpa using this.symm
      have hnew : LR φ (setCells c off v.cells.toList) (u.cells.zipIdx.foldl (fun cs p => cs.setIfInBounds (off + p.2) p.1) d).toList := by
        rw [fold_arr]; exact setCells_LR _ _ _ _ _ h2.cells hc
      obtain ⟨d', g1, g2⟩ := fill_run rest qs' _ c' _ e2 h3 hnew
      refine ⟨d', ?_, g2⟩
      unfold Instr.fill
      rw [hpl]
      simp only
      rw [if_neg (by rw [hsz, s1, hds]; simp; omega)]
      exact g1

end Go.Vd

/- Literals of structs, arrays and slices; what is equal. -/
namespace Go.Vd
variable {B : Base} {φ : Phi} {h : Heap} {P : Program} {w : World} {E : Env}

theorem places_map (hE : TysOK P E) : ∀ (fs : List Field) (ps : List (Nat × Nat)), placesOf E fs = some ps → fs.mapM (fun f => (P.info? f.type).map fun i => (f.offset, i.size)) = some ps
  | [], ps, e => by injection e with e; subst e; rfl
  | f :: r, ps, e => by
    unfold placesOf at e
    split at e
    · rename_i ti l hti hl
      injection e with e; subst e
      obtain ⟨i, i1, i2, _⟩ := (hE.ty _ ti hti).info
      simp only [List.mapM_cons, i1, places_map hE r l hl]
      simp [i2]
    · cases e

theorem build_goes (hE : TysOK P E) (R : RW B φ h w) {t : Nat} {ps qs : List (Nat × Value)} {v : Value} (e : buildV E t ps = some v) (hp : PR φ ps qs) :
    VGoes B P (Instr.build t qs.toArray) w φ v h := by
  unfold buildV at e
  split at e
  · cases e
  · rename_i ti ht
    have T := hE.ty t ti ht
    obtain ⟨i, i1, i2, i3, i4⟩ := T.info
    split at e
    · rename_i fs hd
      split at e
      · cases e
      · rename_i pl hpl
        split at e
        · rename_i cs hf
          injection e with e; subst e
          obtain ⟨d', g1, g2⟩ := fill_run ps qs _ cs ti.zero.cells hf hp (zeroLR hE ht)
          refine VGoes.same R (u := .agg d') ?_ (VR.agg_of (by simpa using g2))
          refine run_build w t qs.toArray d' ?_
          unfold Program.built
          have hm := places_map hE fs.toList pl hpl
          rw [i1, T.desc, hd]
          simp only [i4, hm]
          simpa using g1
        · cases e
    · rename_i n e0 hd
      split at e
      · cases e
      · rename_i te hte
        split at e
        · rename_i cs hf
          injection e with e; subst e
          obtain ⟨d', g1, g2⟩ := fill_run ps qs _ cs ti.zero.cells hf hp (zeroLR hE ht)
          refine VGoes.same R (u := .agg d') ?_ (VR.agg_of (by simpa using g2))
          refine run_build w t qs.toArray d' ?_
          obtain ⟨ie, j1, j2, _⟩ := (hE.ty e0 te hte).info
          unfold Program.built
          rw [i1, T.desc, hd]
          simp only [i4, j1, j2]
          simpa using g1
        · cases e
    · cases e

theorem buildSlice_goes (hE : TysOK P E) (R : RW B φ h w) {t n : Nat} {ps qs : List (Nat × Value)} {r : OpR} (e : oBuildSlice E h n ps (E.ty t) = some r) (hp : PR φ ps qs) :
    Goes B P (do pure (.value (← Instr.buildSlice t n qs.toArray))) w φ r := by
  unfold oBuildSlice at e
  split at e
  · rename_i e0 _ _ _ _ hst
    split at e
    · rename_i te hte
      obtain ⟨e1, e2⟩ := cond_some e
      simp only [Bool.and_eq_true, Bool.not_eq_true'] at e1
      have hsz : te.size ≠ 0 := by intro hz; have := e1.2; rw [hz] at this; cases this
      have hle := ble_le e1.1
      split at e2
      · rename_i cs hf
        injection e2 with e2; subst e2
        have T := hE.ty e0 te hte
        have hst' := (hE.ty t _ hst).desc
        simp only at hst'
        let z : Array Value := (Array.range (n * te.size)).map fun i => te.zero.cells[i % te.zero.cells.size]!
        have hz : z.toList = repCells te.zero.cells.toList n := by
          show ((Array.range (n * te.size)).map fun i => te.zero.cells[i % te.zero.cells.size]!).toList = _
          rw [← T.size]; exact zeros_eq _ _ (by rw [T.size]; exact hsz)
        obtain ⟨d', g1, g2⟩ := fill_run (φ := φ) ps qs _ cs z hf hp (by rw [hz]; exact LR.plain (repCells_plain T.plain n))
        have hfr := R.fresh (rest := []) g2 e0 te.size
        have hlen : ∀ (ps : List (Nat × Value)) (c c' : List Value) (pl : Nat → Option (Nat × Nat)), fillV pl c ps = some c' → c'.length = c.length := by
          intro ps
          induction ps with
          | nil => intro c c' pl e; injection e with e; rw [e]
          | cons p ps ih =>
            intro c c' pl e
            obtain ⟨i, v⟩ := p
            unfold fillV at e
            split at e
            · cases e
            · obtain ⟨_, e⟩ := cond_some e
              rw [ih _ _ _ e, setCells_len]
        have hcl : cs.length = n * te.size := by rw [hlen _ _ _ _ hf, repCells_len]; simp [T.size]
        have hdl : (d'.toList ++ []).length = n * te.size := by rw [List.append_nil, ← g2.1, hcl]
        rw [hdl] at hfr
        have hda : (d'.toList ++ []).toArray = d' := by simp
        rw [hda] at hfr
        refine (show VGoes B P _ w φ _ _ from ⟨_, .slice (some ⟨w.heap.size, 0, none⟩) n n, w.alloc (.cells d' e0), ?_, Phi.le_put _ (R.next _ (Nat.le_refl _)), ?_, .mk hfr R.io⟩).goes
        · have hrs := run_underlying hst' w
          have c1 : ¬ (n * te.size > 2 ^ 24) := by simp; omega
          have g1' : Instr.fill (fun i => some (i * te.size, te.size)) z qs = some d' := g1
          obtain ⟨ie, j1, j2, _, j4⟩ := T.info
          by_cases hz0 : n * te.size = 0
          · have hn0 : n = 0 := by
              rcases Nat.mul_eq_zero.1 hz0 with h | h
              · exact h
              · exact absurd h hsz
            subst hn0
            have hze : z = #[] := by show (Array.range (0 * te.size)).map _ = _; simp
            rw [hze] at g1'
            have hm : Array.map (fun _ => (default : Value)) (Array.range 0) = #[] := by simp
            simp [Instr.buildSlice, hrs, run_size hE hte, newRow]
            rw [hm, g1']
            simp
          · exact run_buildSlice w t e0 n qs.toArray d' ie te.zero hst' j1 j4 (by rw [j2]; exact c1) (by rw [j2]; exact hz0) (by rw [j2]; simpa using g1')
        · exact VR.slc h.next 0 te.size _ _ ⟨w.heap.size, 0, n * te.size, te.size⟩ n (Phi.put_same _ _ _) (by omega) (by omega) (by omega) (by simp)
      · cases e2
    · cases e
  · cases e

theorem sameK_eq {j k : IntKind} (e : sameK j k = true) : j = k := by cases j <;> cases k <;> first | rfl | cases e
theorem sameK_ne {j k : IntKind} (e : sameK j k = false) : j ≠ k := by intro h; subst h; cases j <;> cases e

theorem eqI_eq (a b : Int) : eqI a b = (a == b) := by
  cases a with
  | ofNat a => cases b with
    | ofNat b =>
      show Nat.beq a b = _
      cases hb : Nat.beq a b
      · have : a ≠ b := fun e => by rw [e, Nat.beq_refl] at hb; cases hb
        symm; simp; omega
      · have := beq_eq hb; subst this; simp
    | negSucc b => rfl
  | negSucc a => cases b with
    | ofNat b => rfl
    | negSucc b =>
      show Nat.beq a b = _
      cases hb : Nat.beq a b
      · have : a ≠ b := fun e => by rw [e, Nat.beq_refl] at hb; cases hb
        symm; simp; omega
      · have := beq_eq hb; subst this; simp

theorem ltI_eq (a b : Int) : ltI a b = decide (a < b) := by
  have key : ∀ m n : Nat, Nat.blt m n = decide (m < n) := by
    intro m n
    by_cases h : m < n
    · rw [decide_eq_true h]; exact Nat.ble_eq_true_of_le h
    · rw [decide_eq_false h]
      cases hb : Nat.blt m n
      · rfl
      · exact absurd (ble_le hb) h
  cases a with
  | ofNat a => cases b with
    | ofNat b => show Nat.blt a b = _; rw [key]; simp
    | negSucc b =>
      show false = _
      symm; rw [decide_eq_false_iff_not]; simp only [Int.ofNat_eq_natCast]; omega
  | negSucc a => cases b with
    | ofNat b =>
      show true = _
      symm; rw [decide_eq_true_iff]; simp only [Int.ofNat_eq_natCast]; omega
    | negSucc b =>
      show Nat.blt b a = _
      rw [key, Bool.eq_iff_iff, decide_eq_true_iff, decide_eq_true_iff]; omega

theorem eqBytes_eq (a b : ByteArray) : eqBytes a b = (a.toList == b.toList) := by
  rw [eqBytes_def]
  rw [ByteArray.toList_eq, ByteArray.toList_eq]

theorem wrapI_eq (k : IntKind) (n : Int) : wrapI k n = k.wrap n := by
  cases n with
  | ofNat a =>
    show (bif Nat.blt a (halfOf k) then Int.ofNat a else k.wrap (Int.ofNat a)) = _
    cases hb : Nat.blt a (halfOf k)
    · rfl
    · have := ble_le hb
      rw [cond_true]
      cases k <;> simp only [halfOf] at this <;> (unfold IntKind.wrap IntKind.bits IntKind.signed; simp; omega)
  | negSucc a =>
    show (bif k.signed && Nat.blt a (halfOf k) then Int.negSucc a else k.wrap (Int.negSucc a)) = _
    cases hb : (k.signed && Nat.blt a (halfOf k))
    · rfl
    · rw [Bool.and_eq_true] at hb
      have := ble_le hb.2
      have hs := hb.1
      rw [cond_true]
      cases k <;> simp only [halfOf] at this <;> first
        | (exact absurd hs (by decide))
        | (unfold IntKind.wrap IntKind.bits IntKind.signed; simp; omega)

end Go.Vd

/- What is equal. -/
namespace Go.Vd
variable {B : Base} {φ : Phi} {h : Heap} {P : Program} {w : World} {E : Env}

theorem rooted_inv {i off r : Nat} (e : h.rooted i off = some r) : ∃ c b, h.t.get i = some (.cells c b) ∧ h.ok b = true ∧ b.ro = false ∧ b.wlo = 0 ∧ b.st = false ∧ off < c.length ∧ r = b.root := by
  unfold Heap.rooted at e
  split at e
  · rename_i c b hg
    obtain ⟨e1, e2⟩ := cond_some e
    simp only [Bool.and_eq_true, Bool.not_eq_true'] at e1
    obtain ⟨⟨⟨⟨a1, a2⟩, a3⟩, a4⟩, a5⟩ := e1
    injection e2 with e2
    exact ⟨c, b, hg, a1, a2, beq_eq a3, a4, by unfold Nat.blt at a5; exact ble_le a5, e2.symm⟩
  · cases e

theorem RW.notStringish (R : RW B φ h w) {i off r : Nat} {L : Loc} (e : h.rooted i off = some r) (hL : φ i = some L) :
    w.frozen? ⟨L.blk, L.off + off, none⟩ = false ∧ (∃ c' t fz, w.heap[L.blk]? = some (.cells c' t fz) ∧ w.frozen? ⟨L.blk, c'.size, none⟩ = false) := by
  obtain ⟨c, b, hg, hok, hro, hw, hs, hlt, rfl⟩ := rooted_inv e
  have W := R.row i c b L hg hL
  obtain ⟨m1, c', t, fz, m2, m3, m4, m5⟩ := W.mine hro
  have room := R.row_room (off := off) (n := 1) hg hL hok hro (by omega) (by omega)
  refine ⟨frozen_eq w _ _ m2 (m4 _ (by omega) (by omega)), c', t, fz, m2, frozen_eq w _ _ m2 (by rw [m3]; exact m5 hs)⟩

theorem run_stringish {b o : Nat} (hf : w.frozen? ⟨b, o, none⟩ = false) {c' : Array Value} {t : TypeId} {fz : Nat × Nat} (hb : w.heap[b]? = some (.cells c' t fz)) (hn : w.frozen? ⟨b, c'.size, none⟩ = false) :
    (stringish ⟨b, o, none⟩).run P w = .ok false w := by
  have hs : w.shape? b = some (t, c'.size) := by unfold World.shape?; rw [hb]
  unfold stringish
  simp [hf, hs, hn]

theorem run_noView {b o : Nat} {c' : Array Value} {t : TypeId} {fz : Nat × Nat} (hb : w.heap[b]? = some (.cells c' t fz)) : (noView ⟨b, o, none⟩).run P w = .ok () w := by
  have hs : w.shape? b = some (t, c'.size) := by unfold World.shape?; rw [hb]
  unfold noView viewAt
  simp [hs]

theorem run_sameAddr_ne {a b o o' : Nat} (hne : a ≠ b) (h1 : w.frozen? ⟨a, o, none⟩ = false) {c1 : Array Value} {t1 : TypeId} {f1 : Nat × Nat} (b1 : w.heap[a]? = some (.cells c1 t1 f1)) (n1 : w.frozen? ⟨a, c1.size, none⟩ = false)
    (h2 : w.frozen? ⟨b, o', none⟩ = false) {c2 : Array Value} {t2 : TypeId} {f2 : Nat × Nat} (b2 : w.heap[b]? = some (.cells c2 t2 f2)) (n2 : w.frozen? ⟨b, c2.size, none⟩ = false) :
    (sameAddr ⟨a, o, none⟩ ⟨b, o', none⟩).run P w = .ok false w := by
  have s1 := run_stringish (P := P) h1 b1 n1
  have s2 := run_stringish (P := P) h2 b2 n2
  have v1 := run_noView (P := P) (o := o) b1
  have v2 := run_noView (P := P) (o := o') b2
  unfold sameAddr mayBeOne
  simp [hne, h1, h2, s1, s2, v1, v2]

theorem eqPtr_run (hE : TysOK P E) (R : RW B φ h w) {e0 : Nat} {x y x' y' : Value} {b : Bool} (e : eqPtr h (E.ty e0) x y = some b) (hx : VR φ x x') (hy : VR φ y y') {t D : Nat} (ht : P.underlying t = some (.pointer e0)) :
    (Op.equalIn (D + 1) t x' y').run P w = .ok b w := by
  have hr := run_underlying ht w
  unfold eqPtr at e
  split at e
  · injection e with e; subst e
    cases hx
    cases hy <;> simp [Op.equalIn, hr]
  · injection e with e; subst e
    cases hx; cases hy
    simp [Op.equalIn, hr]
  · rename_i a c
    split at e
    · cases e
    · rename_i te hte
      cases hsz : Nat.beq te.size 0
      · rw [hsz] at e
        simp only [cond_false] at e
        have hne0 : te.size ≠ 0 := by intro hz; rw [hz] at hsz; cases hsz
        cases hx with
        | ptr i off L hL =>
          cases hy with
          | ptr j off' M hM =>
            have hs := run_size hE hte w
            have base : (Op.equalIn (D + 1) t (.pointer (some ⟨L.blk, L.off + off, none⟩)) (.pointer (some ⟨M.blk, M.off + off', none⟩))).run P w = (sameAddr ⟨L.blk, L.off + off, none⟩ ⟨M.blk, M.off + off', none⟩).run P w := by
              simp [Op.equalIn, hr, hs, hne0]
            rw [base]
            cases hb : Nat.beq i j
            · simp only [hb, cond_false] at e
              unfold eqRoots at e
              split at e
              · rename_i r s hr1 hr2
                cases hrs : Nat.beq r s
                · rw [hrs] at e
                  simp only [cond_false] at e
                  injection e with e; subst e
                  obtain ⟨q1, c1, t1, f1, q2, q3⟩ := R.notStringish hr1 hL
                  obtain ⟨p1, c2, t2, f2, p2, p3⟩ := R.notStringish hr2 hM
                  obtain ⟨_, bi, gi, _, roi, _, _, _, er⟩ := rooted_inv hr1
                  obtain ⟨_, bj, gj, _, roj, _, _, _, es⟩ := rooted_inv hr2
                  have hne : L.blk ≠ M.blk := R.apart i j L M bi.root bj.root (rootOf_cells gi roi) (rootOf_cells gj roj) (by intro h; rw [er, es, h, Nat.beq_refl] at hrs; cases hrs) hL hM
                  exact run_sameAddr_ne hne q1 q2 q3 p1 p2 p3
                · rw [hrs] at e; cases e
              · cases e
            · simp only [hb, cond_true] at e
              injection e with e; subst e
              have := beq_eq hb
              subst this
              rw [hL] at hM; injection hM with hM; subst hM
              unfold sameAddr
              simp only [beq_self_eq_true, if_true, Sem.run_pure]
              congr 1
              rw [Bool.eq_iff_iff]
              constructor
              · intro h; have := eq_of_beq h; simp at this; rw [this]; exact Nat.beq_refl _
              · intro h; rw [beq_eq h]; simp
      · rw [hsz] at e; cases e
  · cases e

theorem eqNil_run {d : TypeDesc} {x y x' y' : Value} {b : Bool} (e : eqNil d x y = some b) (hx : VR φ x x') (hy : VR φ y y') {t D : Nat} (ht : P.underlying t = some d) :
    (Op.equalIn (D + 1) t x' y').run P w = .ok b w := by
  have hr := run_underlying ht w
  unfold eqNil at e
  split at e
  all_goals first
    | (injection e with e; subst e; cases hx <;> cases hy <;> (simp [Op.equalIn, hr]; done))
    | exact absurd e (by simp)

mutual
theorem eqV_run (hE : TysOK P E) (R : RW B φ h w) : ∀ (d D t : Nat) (x y x' y' : Value) (b : Bool), eqV E h d t x y = some b → d ≤ D → VR φ x x' → VR φ y y' →
    (Op.equalIn D t x' y').run P w = .ok b w
  | 0, _, _, _, _, _, _, _, e, _, _, _ => by cases e
  | d + 1, 0, _, _, _, _, _, _, _, hd, _, _ => by omega
  | d + 1, D + 1, t, x, y, x', y', b, e, hd, hx, hy => by
    unfold eqV at e
    split at e
    · cases e
    · rename_i ti hti
      have T := hE.ty t ti hti
      have hr := run_underlying T.desc w
      split at e
      · rename_i hdd
        rw [hdd] at hr
        unfold eqBool at e
        split at e
        · injection e with e; subst e; cases hx; cases hy; simp [Op.equalIn, hr]
        · cases e
      · rename_i k hdd
        rw [hdd] at hr
        unfold eqInt at e
        split at e
        · obtain ⟨e1, e2⟩ := cond_some e
          have := sameK_eq e1
          subst this
          injection e2 with e2; subst e2; cases hx; cases hy
          simp [Op.equalIn, hr, eqI_eq]
        · cases e
      · rename_i hdd
        rw [hdd] at hr
        unfold eqStr at e
        split at e
        · injection e with e; subst e; cases hx; cases hy
          simp [Op.equalIn, hr, eqBytes_eq, beq_toListBytes]
        · cases e
      · rename_i e0 hdd
        exact eqPtr_run hE R e hx hy (by rw [T.desc, hdd])
      · rename_i fs hdd
        split at e
        · rename_i xs ys
          obtain ⟨e1, e2⟩ := cond_some e
          obtain ⟨p1, p2, p3⟩ := T.peq e1
          cases hx with
          | agg _ xs' hs hx =>
            cases hy with
            | agg _ ys' ht hy =>
              have hf : P.fieldsOf t = fs := by unfold Program.fieldsOf; rw [T.desc, hdd]
              rw [run_equalIn_struct w D t xs' ys' (by rw [hf, T.desc, hdd]) p2, hf]
              exact eqFields_run hE R d D fs.toList xs ys xs' ys' b e2 (by omega) (LR.of_arrays hs hx) (LR.of_arrays ht hy) (p3 fs hdd)
        · cases e
      · rename_i dd _ _ _ _ _ hdd
        exact eqNil_run e hx hy T.desc
theorem eqFields_run (hE : TysOK P E) (R : RW B φ h w) : ∀ (d D : Nat) (fs : List Field) (xs ys xs' ys' : Array Value) (b : Bool), eqFields E h d fs xs ys = some b → d ≤ D → LR φ xs.toList xs'.toList → LR φ ys.toList ys'.toList →
    (∀ f ∈ fs, f.name ≠ "_") → (Op.eqFields D xs' ys' fs).run P w = .ok b w
  | 0, _, _, _, _, _, _, _, e, _, _, _, _ => by cases e
  | d + 1, D, [], xs, ys, xs', ys', b, e, hd, hx, hy, hn => by
    unfold eqFields at e
    injection e with e; subst e
    simp [Op.eqFields]
  | d + 1, D, f :: rest, xs, ys, xs', ys', b, e, hd, hx, hy, hn => by
    unfold eqFields at e
    simp only at e
    split at e
    · cases e
    · rename_i tf htf
      cases ha : isAggD tf.desc
      · rw [ha] at e
        simp only [cond_false] at e
        split at e
        · rename_i u v hu hv
          obtain ⟨u', g1, g2⟩ := hx.getElem? hu
          obtain ⟨v', g3, g4⟩ := hy.getElem? hv
          have q1 : (part f.type xs' f.offset).run P w = .ok u' w := by
            unfold part
            have : xs'[f.offset]? = some u' := by simpa using g1
            simp [run_agg hE htf, ha, this]
          have q2 : (part f.type ys' f.offset).run P w = .ok v' w := by
            unfold part
            have : ys'[f.offset]? = some v' := by simpa using g3
            simp [run_agg hE htf, ha, this]
          have hname := hn f (List.mem_cons_self ..)
          split at e
          · rename_i he
            have q3 := eqV_run hE R d D f.type u v u' v' true he (by omega) g2 g4
            have q4 := eqFields_run hE R d D rest xs ys xs' ys' b e (by omega) hx hy (fun g hg => hn g (List.mem_cons_of_mem _ hg))
            simp [Op.eqFields, hname, q1, q2, q3, q4]
          · rename_i he
            have hb : b = false := by
              cases b
              · rfl
              · exact (he e).elim
            subst hb
            have q3 := eqV_run hE R d D f.type u v u' v' false e (by omega) g2 g4
            simp [Op.eqFields, hname, q1, q2, q3]
        · cases e
      · rw [ha] at e; cases e
end

end Go.Vd

/- Maps. -/
namespace Go.Vd
variable {B : Base} {φ : Phi} {h : Heap} {P : Program} {w : World} {E : Env}

/-- What is found. -/
def FoundR (φ : Phi) : Option (Nat × Value × Value) → Option (Nat × Value) → Prop
  | none, none => True
  | some (i, _, v), some (j, u) => i = j ∧ VR φ v u
  | _, _ => False

/-- Entries, place by place. -/
def ER (φ : Phi) (es : List (Value × Value)) (fs : List MapEntry) : Prop :=
  es.length = fs.length ∧ ∀ (i : Nat) (k v : Value) (e : MapEntry), es[i]? = some (k, v) → fs[i]? = some e → VR φ k e.key ∧ VR φ v e.val

theorem ER.cons_inv {p : Value × Value} {es : List (Value × Value)} {fs : List MapEntry} (h : ER φ (p :: es) fs) : ∃ e fs', fs = e :: fs' ∧ VR φ p.1 e.key ∧ VR φ p.2 e.val ∧ ER φ es fs' := by
  cases fs with
  | nil => exact absurd h.1 (by simp)
  | cons e fs =>
    have := h.2 0 p.1 p.2 e rfl rfl
    exact ⟨e, fs, rfl, this.1, this.2, by simpa using h.1, fun i k v e ha hb => h.2 (i + 1) k v e (by simpa using ha) (by simpa using hb)⟩

theorem simple_checkKey {t : Nat} {d : TypeDesc} (hd : P.underlying t = some d) (hs : simpleD d = true) (b : Bool) (n : Nat) (v : Value) (w : World) : (Instr.checkKey b (n + 1) t v).run P w = .ok () w := by
  have hr := run_underlying hd w
  unfold Instr.checkKey
  cases d <;> first | (cases hs; done) | (simp [hr]; done) | (cases v <;> simp [hr])

theorem forIn_run {α : Type} (f : α → PUnit → Sem (ForInStep PUnit)) (w : World) : ∀ l : List α, (∀ x ∈ l, (f x ⟨⟩).run P w = .ok (.yield ⟨⟩) w) → (forIn l PUnit.unit f).run P w = .ok ⟨⟩ w
  | [], _ => by simp
  | x :: r, h => by
    have ih := forIn_run f w r (fun y hy => h y (List.mem_cons_of_mem _ hy))
    have h1 := h x (List.mem_cons_self ..)
    simp only [List.forIn_cons, Sem.run_bind, h1, Result.andThen_ok]
    exact ih

theorem checkField_run (hE : TysOK P E) {cs cs' : Array Value} (hc : LR φ cs.toList cs'.toList) (b : Bool) (n : Nat) (w : World) (f : Field) (h1 : okFieldKey E cs f = true) :
    ∃ u, (part f.type cs' f.offset).run P w = .ok u w ∧ (Instr.checkKey b (n + 1) f.type u).run P w = .ok () w := by
  unfold okFieldKey at h1
  split at h1
  · rename_i tf htf
    rw [Bool.and_eq_true] at h1
    have hlt : f.offset < cs.size := by have := h1.2; unfold Nat.blt at this; exact ble_le this
    have hag : isAggD tf.desc = false := by have := h1.1; cases hd : tf.desc <;> rw [hd] at this <;> first | rfl | cases this
    have hlt' : f.offset < cs'.size := by have := hc.1; simp at this; omega
    refine ⟨cs'[f.offset], ?_, simple_checkKey (hE.ty _ tf htf).desc h1.1 b n cs'[f.offset] w⟩
    unfold part
    simp [run_agg hE htf, hag, hlt']
  · cases h1

theorem checkKey_run (hE : TysOK P E) {kt : Nat} {k k' : Value} (e : okKey E kt k = true) (hk : VR φ k k') (b : Bool) (w : World) : (Instr.checkKey b 10000 kt k').run P w = .ok () w := by
  unfold okKey at e
  split at e
  · cases e
  · rename_i ti hti
    have T := hE.ty kt ti hti
    split at e
    · rename_i fs hd
      split at e
      · rename_i cs
        rw [Bool.and_eq_true] at e
        cases hk with
        | agg _ cs' hs hx =>
          have hr := run_underlying T.desc w
          rw [hd] at hr
          show (Instr.checkKey b (9999 + 1) kt (.agg cs')).run P w = _
          unfold Instr.checkKey
          simp only [Sem.run_bind, hr, Result.andThen_ok]
          rw [← Array.forIn_toList]
          rw [forIn_run _ w fs.toList fun f hf => ?_]
          · rfl
          obtain ⟨u, g1, g2⟩ := checkField_run hE (LR.of_arrays hs hx) b 9998 w f (List.all_eq_true.1 e.2 f hf)
          by_cases hn : f.name = "_"
          · simp [hn]
          · simp [hn, g1, g2]
      · cases e
    · exact simple_checkKey T.desc e b 9999 k' w

theorem findAsking_run (hE : TysOK P E) (R : RW B φ h w) {kt : Nat} {k k' : Value} (hk : VR φ k k') : ∀ (es : List (Value × Value)) (fs : List MapEntry) (i : Nat) (r : Option (Nat × Value × Value)),
    findV E h kt k es i = some r → ER φ es fs → ∃ r', (Instr.findAsking kt k' fs i).run P w = .ok r' w ∧
      FoundR φ r r'
  | [], fs, i, r, e, he => by
    cases fs with
    | nil => injection e with e; subst e; exact ⟨none, by simp [Instr.findAsking], trivial⟩
    | cons => exact absurd he.1 (by simp)
  | (a, v) :: es, fs, i, r, e, he => by
    obtain ⟨f, fs', rfl, h1, h2, h3⟩ := he.cons_inv
    unfold findV at e
    split at e
    · rename_i hq
      injection e with e; subst e
      have := eqV_run hE R _ _ kt k a k' f.key true hq (show eqDepth ≤ Op.maxDepth by decide) hk h1
      refine ⟨some (i, f.val), ?_, rfl, h2⟩
      unfold Instr.findAsking Op.equal
      simp [this]
    · rename_i hq
      have := eqV_run hE R _ _ kt k a k' f.key false hq (show eqDepth ≤ Op.maxDepth by decide) hk h1
      obtain ⟨r', g1, g2⟩ := findAsking_run hE R hk es fs' (i + 1) r e h3
      refine ⟨r', ?_, g2⟩
      unfold Instr.findAsking Op.equal
      simp [this, g1]
    · cases e

theorem sameNow_eq (hE : TysOK P E) (R : RW B φ h w) {kt : Nat} {d : TypeDesc} (hd : P.underlying kt = some d) {k a k' a' : Value} {b c : Bool} (e : eqV E h eqDepth kt k a = some b) (hk : VR φ k k') (ha : VR φ a a')
    (e2 : Instr.sameNow d k' a' = some c) : b = c := by
  obtain ⟨D, hD⟩ : ∃ D, eqDepth ≤ D + 1 := ⟨eqDepth, Nat.le_succ _⟩
  have hrun := eqV_run hE R eqDepth (D + 1) kt k a k' a' b e hD hk ha
  clear e hk ha hD
  have hr := run_underlying hd w
  unfold Instr.sameNow at e2
  split at e2
  · rename_i j x j' y
    split at e2
    · rename_i hj
      subst hj
      injection e2 with e2; subst e2
      rw [run_equalIn_int w D kt _ _ _ _ hd] at hrun
      injection hrun with h1; exact h1.symm
    · cases e2
  · injection e2 with e2; subst e2
    rw [run_equalIn_string w D kt _ _ hd, ← beq_toListBytes] at hrun
    injection hrun with h1; exact h1.symm
  · injection e2 with e2; subst e2
    rw [run_equalIn_bool' w D kt _ _ hd] at hrun
    injection hrun with h1; exact h1.symm
  · cases e2

theorem findNow_run (hE : TysOK P E) (R : RW B φ h w) {kt : Nat} {d : TypeDesc} (hd : P.underlying kt = some d) {k k' : Value} (hk : VR φ k k') : ∀ (es : List (Value × Value)) (fs : List MapEntry) (i : Nat) (r : Option (Nat × Value × Value)) (r' : Option (Nat × Value)),
    findV E h kt k es i = some r → ER φ es fs → Instr.findNow d k' fs i = some r' →
      FoundR φ r r'
  | [], fs, i, r, r', e, he, e2 => by
    cases fs with
    | nil => injection e with e; subst e; injection e2 with e2; subst e2; trivial
    | cons => exact absurd he.1 (by simp)
  | (a, v) :: es, fs, i, r, r', e, he, e2 => by
    obtain ⟨f, fs', rfl, h1, h2, h3⟩ := he.cons_inv
    unfold findV at e
    unfold Instr.findNow at e2
    split at e
    · rename_i hq
      injection e with e; subst e
      split at e2
      · injection e2 with e2; subst e2; exact ⟨rfl, h2⟩
      · rename_i hs
        have := sameNow_eq hE R hd hq hk h1 hs
        cases this
      · cases e2
    · rename_i hq
      split at e2
      · rename_i hs
        have := sameNow_eq hE R hd hq hk h1 hs
        cases this
      · exact findNow_run hE R hd hk es fs' (i + 1) r r' e h3 e2
      · cases e2
    · cases e

theorem findKey_run (hE : TysOK P E) (R : RW B φ h w) {kt : Nat} {ti : TI} (hti : E.ty kt = some ti) {k k' : Value} (hk : VR φ k k') {es : List (Value × Value)} {fs : List MapEntry} {r : Option (Nat × Value × Value)}
    (e : findV E h kt k es 0 = some r) (he : ER φ es fs) : ∃ r', (Instr.findKey kt k' fs).run P w = .ok r' w ∧
      FoundR φ r r' := by
  have hr := runT hE hti w
  unfold Instr.findKey
  simp only [Sem.run_bind, hr, Result.andThen_ok]
  split
  · rename_i r' hn
    exact ⟨r', rfl, findNow_run hE R (hE.ty _ _ hti).desc hk es fs 0 r r' e he hn⟩
  · exact findAsking_run hE R hk es fs 0 r e he

theorem findV_some {kt : Nat} {k : Value} : ∀ (es : List (Value × Value)) (n : Nat) {i : Nat} {a v : Value}, findV E h kt k es n = some (some (i, a, v)) → n ≤ i ∧ es[i - n]? = some (a, v)
  | [], n, i, a, v, e => by injection e with e; cases e
  | (b, u) :: r, n, i, a, v, e => by
    unfold findV at e
    split at e
    · injection e with e; injection e with e
      simp only [Prod.mk.injEq] at e
      obtain ⟨rfl, rfl, rfl⟩ := e
      simp
    · obtain ⟨h1, h2⟩ := findV_some r (n + 1) e
      refine ⟨by omega, ?_⟩
      rw [show i - n = (i - (n + 1)) + 1 from by omega]; simpa using h2
    · cases e

/-- Keys that are the same in the numbered memory are the same bits. -/
theorem sameS_bits (n : Nat) {a k a' k' : Value} (e : sameS a k = true) (ha : VR φ a a') (hk : VR φ k k') : Instr.sameBits n a' k' = true := by
  unfold sameS at e
  split at e
  · rename_i x
    cases k <;> simp only [sameBool] at e <;> first | (cases e; done) | skip
    cases ha; cases hk; simpa [Instr.sameBits] using e
  · rename_i j x
    cases k <;> simp only [sameInt] at e <;> first | (cases e; done) | skip
    rw [Bool.and_eq_true] at e
    have := sameK_eq e.1
    subst this
    have h2 := e.2
    rw [eqI_eq] at h2
    cases ha; cases hk; simp only [Instr.sameBits, beq_self_eq_true, Bool.true_and]; exact h2
  · rename_i x
    cases k <;> simp only [sameStr] at e <;> first | (cases e; done) | skip
    rw [eqBytes_eq] at e
    cases ha; cases hk; simp only [Instr.sameBits]; rw [beq_toListBytes]; exact e
  · rename_i x
    cases k <;> simp only [samePtr] at e <;> first | (cases e; done) | skip
    rename_i y
    cases x <;> cases y <;> simp only at e <;> first | (cases e; done) | skip
    · cases ha; cases hk; simp [Instr.sameBits]
    · rw [Bool.and_eq_true] at e
      cases ha with
      | ptr i off L hL =>
        cases hk with
        | ptr j off' M hM =>
          have h1 := beq_eq e.1
          have h2 := beq_eq e.2
          simp only at h1 h2
          subst h1 h2
          rw [hL] at hM; injection hM with hM; subst hM
          simp [Instr.sameBits]
  · cases e

theorem sameL_bits (n : Nat) : ∀ {xs ys us vs : List Value}, sameL xs ys = true → LR φ xs us → LR φ ys vs → us.length = vs.length ∧ ((us.zip vs).all fun (x, y) => Instr.sameBits n x y) = true
  | [], [], us, vs, _, h1, h2 => by rw [h1.nil_inv, h2.nil_inv]; exact ⟨rfl, rfl⟩
  | [], _ :: _, _, _, e, _, _ => by cases e
  | _ :: _, [], _, _, e, _, _ => by cases e
  | x :: xs, y :: ys, us, vs, e, h1, h2 => by
    unfold sameL at e
    rw [Bool.and_eq_true] at e
    obtain ⟨u, us', rfl, a1, a2⟩ := h1.cons_inv
    obtain ⟨v, vs', rfl, b1, b2⟩ := h2.cons_inv
    obtain ⟨c1, c2⟩ := sameL_bits n e.2 a2 b2
    refine ⟨by simp [c1], ?_⟩
    simp only [List.zip_cons_cons, List.all_cons, sameS_bits n e.1 a1 b1, Bool.true_and]
    exact c2

theorem sameV_bits (n : Nat) {a k a' k' : Value} (e : sameV a k = true) (ha : VR φ a a') (hk : VR φ k k') : Instr.sameBits (n + 1) a' k' = true := by
  unfold sameV at e
  split at e
  · rename_i xs
    cases k <;> simp only [sameAgg] at e <;> first | (cases e; done) | skip
    cases ha with
    | agg _ us hs hx =>
      cases hk with
      | agg _ vs ht hy =>
        obtain ⟨c1, c2⟩ := sameL_bits n e (LR.of_arrays hs hx) (LR.of_arrays ht hy)
        simp only [Array.length_toList] at c1
        simp only [Instr.sameBits, c1, beq_self_eq_true, Bool.true_and]
        exact c2
  · exact sameS_bits (n + 1) e ha hk

end Go.Vd

/- Maps looked into and written. -/
namespace Go.Vd
variable {B : Base} {φ : Phi} {h : Heap} {P : Program} {w : World} {E : Env}

theorem MapR.er {es : List (Value × Value)} {fs : Array MapEntry} {c : Nat} (m : MapR φ es (some (.map fs c))) : ER φ es fs.toList :=
  ⟨by rw [Array.length_toList]; exact m.1.symm, fun i k v e h1 h2 => let ⟨a, b, _⟩ := m.2.2 i k v e h1 (by simpa using h2); ⟨a, b⟩⟩

theorem MapR.obj {es : List (Value × Value)} {o : Option Obj} (m : MapR φ es o) : ∃ fs c, o = some (.map fs c) := by
  cases o with
  | none => exact m.elim
  | some o => cases o <;> first | exact m.elim | exact ⟨_, _, rfl⟩

theorem MapR.set {es : List (Value × Value)} {fs : Array MapEntry} {c : Nat} (m : MapR φ es (some (.map fs c))) {i : Nat} {k v k' v' : Value} (hk : VR φ k k') (hv : VR φ v v') :
    MapR φ (es.set i (k, v)) (some (.map (fs.modify i fun e => { e with key := k', val := v' }) c)) := by
  refine ⟨by simp [m.1], by simp [m.2.1], fun j a b e h1 h2 => ?_⟩
  rw [List.getElem?_set] at h1
  rw [Array.getElem?_modify] at h2
  by_cases hij : i = j
  · subst hij
    rw [if_pos rfl] at h1 h2
    split at h1
    · injection h1 with h1
      simp only [Prod.mk.injEq] at h1
      obtain ⟨rfl, rfl⟩ := h1
      cases hf : fs[i]? with
      | none => rw [hf] at h2; cases h2
      | some f =>
        rw [hf] at h2
        injection h2 with h2; subst h2
        have hi : i < es.length := by assumption
        obtain ⟨_, _, h3⟩ := m.2.2 i es[i].1 es[i].2 f (List.getElem?_eq_getElem hi) hf
        exact ⟨hk, hv, h3⟩
    · cases h1
  · rw [if_neg hij] at h1 h2
    exact m.2.2 j a b e h1 h2

theorem MapR.push {es : List (Value × Value)} {fs : Array MapEntry} {c : Nat} (m : MapR φ es (some (.map fs c))) {k v k' v' : Value} (hk : VR φ k k') (hv : VR φ v v') :
    MapR φ (es ++ [(k, v)]) (some (.map (fs.push { key := k', val := v', born := c }) (c + 1))) := by
  refine ⟨by simp [m.1], by simp [m.2.1], fun j a b e h1 h2 => ?_⟩
  by_cases hj : j < es.length
  · rw [List.getElem?_append_left hj] at h1
    rw [Array.getElem?_push, if_neg (by rw [m.1]; omega)] at h2
    exact m.2.2 j a b e h1 h2
  · rw [List.getElem?_append_right (by omega)] at h1
    have hj2 : j = es.length := by
      have := (List.getElem?_eq_some_iff.1 h1).1
      simp at this; omega
    subst hj2
    rw [Nat.sub_self] at h1
    injection h1 with h1
    simp only [Prod.mk.injEq] at h1
    obtain ⟨rfl, rfl⟩ := h1
    rw [Array.getElem?_push, if_pos m.1.symm] at h2
    injection h2 with h2; subst h2
    exact ⟨hk, hv, m.2.1⟩

theorem run_getMap {r : Nat} {fs : Array MapEntry} {c : Nat} (hr : w.heap[r]? = some (.map fs c)) : (getObj r).run P w = .ok (.map fs c) w := by
  unfold getObj; simp [Sem.run, hr]

theorem run_setMap {r : Nat} {fs : Array MapEntry} {c : Nat} (hr : w.heap[r]? = some (.map fs c)) (o : Obj) : (setObj r o).run P w = .ok () { w with heap := w.heap.setIfInBounds r o } := by
  unfold setObj; simp [Sem.run, hr]

theorem RW.mapAt (R : RW B φ h w) {r : Nat} {es : List (Value × Value)} {u : Value} (hg : h.t.get r = some (.map es)) (hu : VR φ (.map (some r)) u) :
    ∃ L fs c, φ r = some L ∧ u = .map (some L.blk) ∧ w.heap[L.blk]? = some (.map fs c) ∧ MapR φ es (some (.map fs c)) := by
  cases hu with
  | map _ L hL =>
    obtain ⟨_, m⟩ := R.map r es L hg hL
    obtain ⟨fs, c, hfc⟩ := m.obj
    exact ⟨L, fs, c, hL, rfl, hfc, hfc ▸ m⟩

theorem lookV_inv {kt : Nat} {k : Value} {es : List (Value × Value)} {r : Option Value} (e : lookV E h kt k es = some r) : okKey E kt k = true ∧ ∃ q, findV E h kt k es 0 = some q ∧ r = q.map fun x => x.2.2 := by
  unfold lookV at e
  obtain ⟨e1, e2⟩ := cond_some e
  refine ⟨e1, ?_⟩
  split at e2
  · cases e2
  · rename_i hq; injection e2 with e2; exact ⟨_, hq, e2.symm⟩
  · rename_i hq; injection e2 with e2; exact ⟨_, hq, e2.symm⟩

theorem okKey_ty {kt : Nat} {k : Value} (e : okKey E kt k = true) : ∃ ti, E.ty kt = some ti := by
  unfold okKey at e
  split at e
  · cases e
  · exact ⟨_, by assumption⟩

theorem bagKeys_pairs : ∀ {es : List (Value × Value)}, bagKeys es = true → (∀ p ∈ es, ∃ s, p.1 = .string s) ∧ es.Pairwise fun p q => ∀ s t, p.1 = .string s → q.1 = .string t → s.data.toList ≠ t.data.toList
  | [], _ => ⟨fun p hp => (by cases hp), List.Pairwise.nil⟩
  | (k, v) :: r, h => by
    cases k with
    | string s =>
      unfold bagKeys at h
      rw [Bool.and_eq_true, List.all_eq_true] at h
      obtain ⟨h1, h2⟩ := bagKeys_pairs h.2
      refine ⟨fun p hp => ?_, .cons (fun q hq s' t e1 e2 e => ?_) h2⟩
      · rcases List.mem_cons.1 hp with rfl | hp
        · exact ⟨s, rfl⟩
        · exact h1 p hp
      · have := h.1 q hq
        injection e1 with e1; subst e1
        rw [e2] at this
        simp only [eqBytes_def, Bool.not_eq_true'] at this
        rw [e] at this
        simp at this
    | _ => cases h

theorem findV_string {kt : Nat} {ti : TI} (ht : E.ty kt = some ti) (hd : ti.desc = .string) (s : ByteArray) : ∀ (l : List (Value × Value)) (i : Nat), (∀ p ∈ l, ∃ t, p.1 = .string t) →
    ∃ q, findV E h kt (.string s) l i = some q ∧ (∀ x, q.map (fun x => x.2.2) = some x → ∃ t, (.string t, x) ∈ l ∧ s.data.toList = t.data.toList) ∧ (q = none → ∀ p ∈ l, ∀ t, p.1 = .string t → s.data.toList ≠ t.data.toList)
  | [], i, _ => ⟨none, rfl, fun x hx => (by cases hx), fun _ p hp => (by cases hp)⟩
  | (k, v) :: r, i, hs => by
    obtain ⟨t, rfl⟩ := hs (k, v) List.mem_cons_self
    obtain ⟨q, q1, q2, q3⟩ := findV_string ht hd s r (i + 1) (fun p hp => hs p (List.mem_cons_of_mem _ hp))
    have he : eqV E h eqDepth kt (.string s) (.string t) = some (eqBytes s t) := by
      show eqV E h (299 + 1) kt _ _ = _
      unfold eqV
      simp only [ht, hd, eqStr]
    unfold findV
    rw [he]
    cases hb : eqBytes s t with
    | true =>
      refine ⟨some (i, .string t, v), rfl, fun x hx => ?_, fun hx => (by cases hx)⟩
      simp at hx; subst hx
      exact ⟨t, List.mem_cons_self, by simpa [eqBytes_def] using hb⟩
    | false =>
      refine ⟨q, q1, fun x hx => ?_, fun hx p hp t' ht' => ?_⟩
      · obtain ⟨t', h1, h2⟩ := q2 x hx
        exact ⟨t', List.mem_cons_of_mem _ h1, h2⟩
      · rcases List.mem_cons.1 hp with rfl | hp
        · injection ht' with ht'; subst ht'
          intro e; simp [eqBytes_def, e] at hb
        · exact q3 hx p hp t' ht'

theorem pairwise_ne {α : Type} {R : α → α → Prop} (hs : ∀ a b, R a b → R b a) : ∀ {l : List α}, l.Pairwise R → ∀ {a b : α}, a ∈ l → b ∈ l → a ≠ b → R a b
  | [], _, a, b, ha, _, _ => by cases ha
  | x :: l, h, a, b, ha, hb, hne => by
    cases h with
    | cons h1 h2 =>
      rcases List.mem_cons.1 ha with ha' | ha'
      · rcases List.mem_cons.1 hb with hb' | hb'
        · exact absurd (ha'.trans hb'.symm) hne
        · rw [ha']; exact h1 b hb'
      · rcases List.mem_cons.1 hb with hb' | hb'
        · rw [hb']; exact hs _ _ (h1 a ha')
        · exact pairwise_ne hs h2 ha' hb' hne

theorem lookV_perm {kt : Nat} {s : ByteArray} {es l : List (Value × Value)} {q : Option Value} (hb : bagKeys es = true) (hp : l.Perm es) (e : lookV E h kt (.string s) es = some q) : lookV E h kt (.string s) l = some q := by
  obtain ⟨b1, b2⟩ := bagKeys_pairs hb
  unfold lookV at e ⊢
  obtain ⟨e1, e2⟩ := cond_some e
  rw [e1]
  simp only [cond_true]
  have e1' := e1
  unfold okKey at e1'
  split at e1'
  · cases e1'
  rename_i ti hti
  cases hes : es with
  | nil =>
    subst hes
    rw [hp.eq_nil]
    exact e2
  | cons p r =>
    have hd : ti.desc = .string := by
      obtain ⟨t, ht⟩ := b1 p (by rw [hes]; exact List.mem_cons_self)
      obtain ⟨k, v⟩ := p
      simp only at ht; subst ht
      rw [hes] at e2
      unfold findV at e2
      have hq : eqV E h eqDepth kt (.string s) (.string t) ≠ none := by
        intro hq; rw [hq] at e2; cases e2
      have : eqV E h (299 + 1) kt (.string s) (.string t) ≠ none := hq
      unfold eqV at this
      simp only [hti] at this
      cases hdd : ti.desc <;> rw [hdd] at this e1' <;> first | rfl | (exact absurd rfl this) | (cases e1'; done) | (simp [eqBool, eqInt, eqPtr] at this)
    have b1' : ∀ p ∈ l, ∃ s, p.1 = .string s := fun p hpl => b1 p (hp.mem_iff.1 hpl)
    have b2' : es.Pairwise fun p q => ∀ s t, p.1 = .string s → q.1 = .string t → s.data.toList ≠ t.data.toList := b2
    obtain ⟨q1, f1, f2, f3⟩ := findV_string (h := h) hti hd s es 0 b1
    obtain ⟨q2, g1, g2, g3⟩ := findV_string (h := h) hti hd s l 0 b1'
    rw [f1] at e2
    rw [g1]
    cases q1 with
    | none =>
      cases q2 with
      | none => exact e2
      | some y =>
        obtain ⟨t, h1, h2⟩ := g2 _ rfl
        exact absurd h2 (f3 rfl _ (hp.mem_iff.1 h1) t rfl)
    | some x =>
      obtain ⟨i, a, v⟩ := x
      obtain ⟨t, h1, h2⟩ := f2 _ rfl
      cases q2 with
      | none => exact absurd h2 (g3 rfl _ (hp.mem_iff.2 h1) t rfl)
      | some y =>
        obtain ⟨i', a', v'⟩ := y
        obtain ⟨t', h1', h2'⟩ := g2 _ rfl
        have h1' := hp.mem_iff.1 h1'
        simp only at h1 h1'
        have : v = v' := by
          refine Classical.byContradiction fun hne => ?_
          have hpq : ((Value.string t, v) : Value × Value) ≠ (.string t', v') := by intro e; injection e with _ e; exact hne e
          exact pairwise_ne (fun p q h s t e1 e2 e => h t s e2 e1 e.symm) b2' h1 h1' hpq t t' rfl rfl (h2.symm.trans h2')
        subst this
        exact e2

theorem lookup_goes (hE : TysOK P E) (R : RW B φ h w) {t : Nat} {x u k k' : Value} {ok : Bool} {r : OpR} (e : oLookup E h k ok (mapAt2 h k x) (E.ty t) = some r) (hu : VR φ x u) (hk : VR φ k k') :
    Goes B P (do pure (.value (← Instr.lookup t u k' ok))) w φ r := by
  unfold oLookup at e
  split at e
  · rename_i kt et _ _ _ _ hst
    split at e
    · rename_i te es hte hes
      have hst' := (hE.ty t _ hst).desc
      simp only at hst'
      have hr := run_underlying hst' w
      -- the entries
      have ents : ∃ (es1 : List (Value × Value)) (fs : Array MapEntry), ER φ es1 fs.toList ∧ (∀ q, lookV E h kt k es = some q → lookV E h kt k es1 = some q) ∧ ((u = .map none ∧ fs = #[]) ∨ ∃ b c, u = .map (some b) ∧ (getObj b).run P w = .ok (.map fs c) w) := by
        unfold Go.Vd.mapAt2 at hes
        split at hes
        · injection hes with hes; subst hes
          cases hu
          exact ⟨[], #[], ⟨rfl, fun i k v e h1 => by simp at h1⟩, fun _ h => h, .inl ⟨rfl, rfl⟩⟩
        · rename_i q
          split at hes
          · rename_i es0 hg
            injection hes with hes; subst hes
            obtain ⟨L, fs, c, h1, rfl, h3, h4⟩ := R.mapAt hg hu
            exact ⟨_, fs, h4.er, fun _ h => h, .inr ⟨_, c, rfl, run_getMap h3⟩⟩
          · rename_i es0 hg
            obtain ⟨hs, hes⟩ := cond_some hes
            injection hes with hes; subst hes
            cases hu with
            | map _ L hL =>
              obtain ⟨_, hb, l, hp, hm⟩ := R.bag q es0 L hg hL
              obtain ⟨fs, c, hfc⟩ := hm.obj
              refine ⟨l, fs, (hfc ▸ hm).er, fun q hq => ?_, .inr ⟨_, c, rfl, run_getMap hfc⟩⟩
              cases k with
              | string s => exact lookV_perm hb hp hq
              | _ => cases hs
          · cases hes
        · cases hes
      obtain ⟨es1, fs, her, hsame, hfs⟩ := ents
      have fin : ∀ q, lookV E h kt k es = some q → VGoes B P (Instr.lookup t u k' ok) w φ (match q with | some v => (bif ok then .tuple #[v, .bool true] else v) | none => (bif ok then .tuple #[te.zero, .bool false] else te.zero)) h := by
        intro q hq
        obtain ⟨hok, q0, hq0, rfl⟩ := lookV_inv (hsame q hq)
        obtain ⟨ti, hti⟩ := okKey_ty hok
        have hck := fun b => checkKey_run (P := P) hE hok hk b w
        obtain ⟨r', g1, g2⟩ := findKey_run hE R hti hk hq0 her
        have tup : ∀ {a a' : Value} (b : Bool), VR φ a a' → VR φ (.tuple #[a, .bool b]) (.tuple #[a', .bool b]) := fun b ha => VR.tuple_of (LR.cons ha (LR.cons (.bool b) (LR.nil φ)))
        have hz := run_zero hE hte w
        cases q0 with
        | none =>
          cases r' with
          | some p => exact g2.elim
          | none =>
            rcases hfs with ⟨rfl, rfl⟩ | ⟨b, c, rfl, hg⟩
            · cases ok
              · exact VGoes.same R (u := te.zero) (by unfold Instr.lookup; simp at g1; simp [hr, hck, g1, hz]) (zeroVR hE hte)
              · exact VGoes.same R (u := .tuple #[te.zero, .bool false]) (by unfold Instr.lookup; simp at g1; simp [hr, hck, g1, hz]) (tup false (zeroVR hE hte))
            · cases ok
              · exact VGoes.same R (u := te.zero) (by unfold Instr.lookup; simp [hr, hg, hck, g1, hz]) (zeroVR hE hte)
              · exact VGoes.same R (u := .tuple #[te.zero, .bool false]) (by unfold Instr.lookup; simp [hr, hg, hck, g1, hz]) (tup false (zeroVR hE hte))
        | some p =>
          obtain ⟨i, a, v⟩ := p
          cases r' with
          | none => exact g2.elim
          | some p' =>
            obtain ⟨j, v'⟩ := p'
            rcases hfs with ⟨rfl, rfl⟩ | ⟨b, c, rfl, hg⟩
            · cases ok
              · exact VGoes.same R (u := v') (by unfold Instr.lookup; simp at g1; simp [hr, hck, g1]) g2.2
              · exact VGoes.same R (u := .tuple #[v', .bool true]) (by unfold Instr.lookup; simp at g1; simp [hr, hck, g1]) (tup true g2.2)
            · cases ok
              · exact VGoes.same R (u := v') (by unfold Instr.lookup; simp [hr, hg, hck, g1]) g2.2
              · exact VGoes.same R (u := .tuple #[v', .bool true]) (by unfold Instr.lookup; simp [hr, hg, hck, g1]) (tup true g2.2)
      unfold rLook at e
      split at e
      · cases e
      · rename_i v hq
        injection e with e; subst e
        exact (fin _ hq).goes
      · rename_i hq
        injection e with e; subst e
        exact (fin _ hq).goes
    · cases e
  · cases e

theorem rMap_inv {h : Heap} {r : Nat} {o : Option (List (Value × Value))} {q : OpR} (e : rMap h r o = some q) : ∃ es, o = some es ∧ q = .val undef ⟨h.next, h.t.set r (.map es)⟩ := by
  unfold rMap at e
  split at e
  · injection e with e; exact ⟨_, rfl, e.symm⟩
  · cases e

/-- Behind a key found, or not found: the entries put in. -/
theorem put_run (hE : TysOK P E) (R : RW B φ h w) {kt : Nat} {k k' : Value} {es : List (Value × Value)} {fs : Array MapEntry} {c : Nat} {q : Option (Nat × Value × Value)} (hok : okKey E kt k = true) (hq : findV E h kt k es 0 = some q)
    (hsame : ∀ i a v, q = some (i, a, v) → sameV a k = true) (hk : VR φ k k') (m : MapR φ es (some (.map fs c))) (b : Bool) :
    (Instr.checkKey b 10000 kt k').run P w = .ok () w ∧ ∃ r', (Instr.findKey kt k' fs.toList).run P w = .ok r' w ∧ FoundR φ q r' ∧
      ∀ i v', r' = some (i, v') → (Instr.keyThatStays (((fs[i]?).map (·.key)).getD k') k').run P w = .ok k' w ∧ ∃ e, fs[i]? = some e ∧ e.born = i := by
  obtain ⟨ti, hti⟩ := okKey_ty hok
  obtain ⟨r', g1, g2⟩ := findKey_run hE R hti hk hq m.er
  refine ⟨checkKey_run hE hok hk b w, r', g1, g2, fun i v' hr => ?_⟩
  subst hr
  cases q with
  | none => exact g2.elim
  | some p =>
    obtain ⟨j, a, v⟩ := p
    obtain ⟨rfl, _⟩ := g2
    have hs := hsame j a v rfl
    obtain ⟨_, hget⟩ := findV_some es 0 hq
    rw [Nat.sub_zero] at hget
    have hj : j < fs.size := by rw [m.1]; exact (List.getElem?_eq_some_iff.1 hget).1
    have hf : fs[j]? = some fs[j] := Array.getElem?_eq_getElem hj
    obtain ⟨ka, _, hb⟩ := m.2.2 j a v fs[j] hget hf
    refine ⟨?_, fs[j], hf, hb⟩
    rw [hf]
    have := sameV_bits 9999 hs ka hk
    unfold Instr.keyThatStays
    simp [this]

theorem mapUpdate_goes (hE : TysOK P E) (R : RW B φ h w) {t : Nat} {m k x m' k' x' : Value} {r : OpR} (e : oMapUpdate E h m k x (E.ty t) = some r) (hm : VR φ m m') (hk : VR φ k k') (hx : VR φ x x') :
    Goes B P (do Instr.mapUpdate t m' k' x'; pure .skip) w φ r := by
  unfold oMapUpdate at e
  split at e
  · rename_i kt et _ _ _ _ hst
    split at e
    · rename_i q
      split at e
      · rename_i es hg
        obtain ⟨es2, hput, rfl⟩ := rMap_inv e
        obtain ⟨L, fs, c, hL, rfl, h3, h4⟩ := R.mapAt hg hm
        have hst' := (hE.ty t _ hst).desc
        simp only at hst'
        have hr := run_underlying hst' w
        unfold putV at hput
        obtain ⟨hok, hput⟩ := cond_some hput
        have fin : ∀ (es2 : List (Value × Value)) (fs2 : Array MapEntry) (c2 : Nat), MapR φ es2 (some (.map fs2 c2)) → (Instr.mapUpdate t (.map (some L.blk)) k' x').run P w = .ok () { w with heap := w.heap.setIfInBounds L.blk (.map fs2 c2) } →
            Goes B P (do Instr.mapUpdate t (.map (some L.blk)) k' x'; pure .skip) w φ (.val undef ⟨h.next, h.t.set q (.map es2)⟩) := by
          intro es2 fs2 c2 hm2 hrun
          refine ⟨φ, { w with heap := w.heap.setIfInBounds L.blk (.map fs2 c2) }, φ.le_refl, .mk (R.setObj (x0 := .map es) (x := .map es2) hg trivial trivial hL (fun es he => by injection he with he; subst he; exact hm2) (fun s p he => by cases he)) R.io, .inr ⟨by simp [hrun], rfl⟩⟩
        split at hput
        · cases hput
        · rename_i hq
          injection hput with hput; subst hput
          obtain ⟨p1, r', p2, p3, p4⟩ := put_run (P := P) hE R hok hq (fun i a v h => by cases h) hk h4 false
          cases r' with
          | some p => exact p3.elim
          | none =>
            refine fin _ _ _ (h4.push hk hx) ?_
            unfold Instr.mapUpdate
            simp [hr, run_getMap h3, p1, p2, run_setMap h3]
        · rename_i i a v hq
          obtain ⟨hs, hput⟩ := cond_some hput
          injection hput with hput; subst hput
          obtain ⟨p1, r', p2, p3, p4⟩ := put_run (P := P) hE R hok hq (fun i' a' v' h => by injection h with h; simp only [Prod.mk.injEq] at h; obtain ⟨_, rfl, _⟩ := h; exact hs) hk h4 false
          cases r' with
          | none => exact p3.elim
          | some p =>
            obtain ⟨j, v'⟩ := p
            obtain ⟨rfl, _⟩ := p3
            obtain ⟨p5, _⟩ := p4 i v' rfl
            refine fin _ _ _ (h4.set (i := i) hk hx) ?_
            unfold Instr.mapUpdate
            simp [hr, run_getMap h3, p1, p2, p5, run_setMap h3]
      · cases e
    · cases e
  · cases e

end Go.Vd

/- The other operations. -/
namespace Go.Vd
variable {B : Base} {φ : Phi} {h : Heap} {P : Program} {w : World} {E : Env}

theorem MapR.setKey {es : List (Value × Value)} {fs : Array MapEntry} {c : Nat} (m : MapR φ es (some (.map fs c))) {i : Nat} {a k v k' : Value} (hget : es[i]? = some (a, v)) (hk : VR φ k k') :
    MapR φ (es.set i (k, v)) (some (.map (fs.modify i fun e => { e with key := k' }) c)) := by
  refine ⟨by simp [m.1], by simp [m.2.1], fun j b u e h1 h2 => ?_⟩
  rw [List.getElem?_set] at h1
  rw [Array.getElem?_modify] at h2
  by_cases hij : i = j
  · subst hij
    rw [if_pos rfl] at h1 h2
    split at h1
    · injection h1 with h1
      simp only [Prod.mk.injEq] at h1
      obtain ⟨rfl, rfl⟩ := h1
      cases hf : fs[i]? with
      | none => rw [hf] at h2; cases h2
      | some f =>
        rw [hf] at h2
        injection h2 with h2; subst h2
        obtain ⟨_, h3, h4⟩ := m.2.2 i a v f hget hf
        exact ⟨hk, h3, h4⟩
    · cases h1
  · rw [if_neg hij] at h1 h2
    exact m.2.2 j b u e h1 h2

theorem MapR.setVal {es : List (Value × Value)} {fs : Array MapEntry} {c : Nat} (m : MapR φ es (some (.map fs c))) {i : Nat} {k u v v' : Value} (hget : es[i]? = some (k, u)) (hv : VR φ v v') :
    MapR φ (es.set i (k, v)) (some (.map (fs.modify i fun e => { e with val := v' }) c)) := by
  refine ⟨by simp [m.1], by simp [m.2.1], fun j b u' e h1 h2 => ?_⟩
  rw [List.getElem?_set] at h1
  rw [Array.getElem?_modify] at h2
  by_cases hij : i = j
  · subst hij
    rw [if_pos rfl] at h1 h2
    split at h1
    · injection h1 with h1
      simp only [Prod.mk.injEq] at h1
      obtain ⟨rfl, rfl⟩ := h1
      cases hf : fs[i]? with
      | none => rw [hf] at h2; cases h2
      | some f =>
        rw [hf] at h2
        injection h2 with h2; subst h2
        obtain ⟨h3, _, h4⟩ := m.2.2 i k u f hget hf
        exact ⟨h3, hv, h4⟩
    · cases h1
  · rw [if_neg hij] at h1 h2
    exact m.2.2 j b u' e h1 h2

theorem MapR.find {es : List (Value × Value)} {fs : Array MapEntry} {c : Nat} (m : MapR φ es (some (.map fs c))) {i : Nat} (hi : i < es.length) :
    fs.findIdx? (fun e => (e.born : Int) == (i : Int)) = some i := by
  rw [Array.findIdx?_eq_some_iff_getElem]
  have hi' : i < fs.size := by rw [m.1]; exact hi
  have born : ∀ j (hj : j < fs.size), fs[j].born = j := by
    intro j hj
    have hj' : j < es.length := by rw [← m.1]; exact hj
    exact (m.2.2 j es[j].1 es[j].2 fs[j] (List.getElem?_eq_getElem hj') (Array.getElem?_eq_getElem hj)).2.2
  refine ⟨hi', by rw [born i hi']; simp, fun j hj => ?_⟩
  rw [born j (by omega)]
  simp; omega

theorem mapEntry_goes (hE : TysOK P E) (R : RW B φ h w) {t : Nat} {m k m' k' : Value} {r : OpR} (e : oMapEntry E h m k (E.ty t) = some r) (hm : VR φ m m') (hk : VR φ k k') :
    Goes B P (do pure (.value (← Instr.mapEntry t m' k'))) w φ r := by
  unfold oMapEntry at e
  split at e
  · rename_i kt et _ _ _ _ hst
    split at e
    · rename_i q te hte
      split at e
      · rename_i es hg
        obtain ⟨L, fs, c, hL, rfl, h3, h4⟩ := R.mapAt hg hm
        have hst' := (hE.ty t _ hst).desc
        simp only at hst'
        have hr := run_underlying hst' w
        unfold rEntry at e
        split at e
        · rename_i es2 v i hent
          injection e with e; subst e
          unfold entV at hent
          obtain ⟨hok, hent⟩ := cond_some hent
          have fin : ∀ (es2 : List (Value × Value)) (v v' : Value) (i : Nat) (fs2 : Array MapEntry) (c2 : Nat), MapR φ es2 (some (.map fs2 c2)) → VR φ v v' →
              (Instr.mapEntry t (.map (some L.blk)) k').run P w = .ok (.tuple #[v', goInt i]) { w with heap := w.heap.setIfInBounds L.blk (.map fs2 c2) } →
              Goes B P (do pure (.value (← Instr.mapEntry t (.map (some L.blk)) k'))) w φ (.val (.tuple #[v, goInt i]) ⟨h.next, h.t.set q (.map es2)⟩) := by
            intro es2 v v' i fs2 c2 hm2 hv hrun
            exact ⟨φ, { w with heap := w.heap.setIfInBounds L.blk (.map fs2 c2) }, φ.le_refl, .mk (R.setObj (x0 := .map es) (x := .map es2) hg trivial trivial hL (fun es he => by injection he with he; subst he; exact hm2) (fun s p he => by cases he)) R.io,
              .inl ⟨.tuple #[v', goInt i], by simp [hrun], VR.tuple_of (LR.cons hv (LR.cons (.int _ _) (LR.nil φ)))⟩⟩
          split at hent
          · cases hent
          · rename_i hq
            injection hent with hent
            simp only [Prod.mk.injEq] at hent
            obtain ⟨rfl, rfl, rfl⟩ := hent
            obtain ⟨p1, r', p2, p3, p4⟩ := put_run (P := P) hE R hok hq (fun i a v h => by cases h) hk h4 false
            cases r' with
            | some p => exact p3.elim
            | none =>
              refine fin _ _ te.zero _ _ _ (h4.push hk (zeroVR hE hte)) (zeroVR hE hte) ?_
              rw [← h4.2.1]
              unfold Instr.mapEntry
              simp [hr, run_getMap h3, p1, p2, run_setMap h3, run_zero hE hte]
          · rename_i j a u hq
            obtain ⟨hs, hent⟩ := cond_some hent
            injection hent with hent
            simp only [Prod.mk.injEq] at hent
            obtain ⟨rfl, rfl, rfl⟩ := hent
            obtain ⟨p1, r', p2, p3, p4⟩ := put_run (P := P) hE R hok hq (fun i' a' v' h => by injection h with h; simp only [Prod.mk.injEq] at h; obtain ⟨_, rfl, _⟩ := h; exact hs) hk h4 false
            cases r' with
            | none => exact p3.elim
            | some p =>
              obtain ⟨j', v'⟩ := p
              obtain ⟨rfl, hv⟩ := p3
              obtain ⟨p5, ent, p6, p7⟩ := p4 _ v' rfl
              -- the value stays; the key is written anew
              obtain ⟨_, hget⟩ := findV_some es 0 hq
              have hset := h4.setKey hget hk
              refine fin _ _ v' _ _ _ hset hv ?_
              rw [p6] at p5
              have p5' : (Instr.keyThatStays ent.key k').run P w = .ok k' w := by simpa using p5
              unfold Instr.mapEntry
              simp [hr, run_getMap h3, p1, p2, p5', run_setMap h3, p6, p7]
        · cases e
      · cases e
    · cases e
  · cases e

theorem entryStore_goes (R : RW B φ h w) {t : Nat} {m st x m' st' x' : Value} {r : OpR} (e : oEntryStore h x (natV st) m = some r) (hm : VR φ m m') (hs : VR φ st st') (hx : VR φ x x') :
    Goes B P (do Instr.entryStore t m' st' x'; pure .skip) w φ r := by
  unfold oEntryStore at e
  split at e
  · rename_i q
    split at e
    · rename_i i es hi hg
      obtain ⟨L, fs, c, hL, rfl, h3, h4⟩ := R.mapAt hg hm
      obtain ⟨kk, rfl⟩ := natV_run hi hs
      split at e
      · rename_i k u hget
        obtain ⟨es2, hes, rfl⟩ := rMap_inv e
        injection hes with hes; subst hes
        have hlt : i < es.length := (List.getElem?_eq_some_iff.1 hget).1
        have hf := h4.find hlt
        refine ⟨φ, { w with heap := w.heap.setIfInBounds L.blk (.map (fs.modify i fun e => { e with val := x' }) c) }, φ.le_refl, .mk (R.setObj (x0 := .map es) (x := .map (es.set i (k, x))) hg trivial trivial hL (fun es he => by injection he with he; subst he; exact h4.setVal hget hx) (fun s p he => by cases he)) R.io, .inr ⟨?_, rfl⟩⟩
        unfold Instr.entryStore
        simp [run_getMap h3, asInt, asIntOf, hf, run_setMap h3]
      · cases e
    · cases e
  · cases e

theorem makeMap_goes (_hE : TysOK P E) (R : RW B φ h w) {t : Nat} {o o' : Option Value} {r : OpR} (e : oMakeMap h o (E.ty t) = some r) (ho : OR φ o o') :
    Goes B P (do pure (.value (← Instr.makeMap t o'))) w φ r := by
  unfold oMakeMap at e
  split at e
  · rename_i kt et _ _ _ _ hst
    split at e
    · injection e with e; subst e
      rw [ho.none_inv]
      have hadd := R.add (.map []) (.map #[] 0) ⟨w.heap.size, 0, 0, 0⟩ rfl (fun c b he => by cases he) (fun es he => by injection he with he; subst he; exact ⟨rfl, rfl, fun i k v e h1 => by simp at h1⟩) (fun s p he => by cases he)
      refine ⟨_, w.alloc (.map #[] 0), Phi.le_put ⟨w.heap.size, 0, 0, 0⟩ (R.next _ (Nat.le_refl _)), .mk hadd R.io, .inl ⟨.map (some w.heap.size), ?_, ?_⟩⟩
      · unfold Instr.makeMap; simp
      · exact VR.map h.next ⟨w.heap.size, 0, 0, 0⟩ (Phi.put_same _ _ _)
    · cases e
  · cases e

theorem range_goes (hE : TysOK P E) (R : RW B φ h w) {t : Nat} {x x' : Value} {r : OpR} (e : oRange h x (E.ty t) = some r) (hx : VR φ x x') :
    Goes B P (do pure (.value (← Instr.range t x'))) w φ r := by
  unfold oRange at e
  split at e
  · rename_i hst
    split at e
    · rename_i s
      injection e with e; subst e
      have hst' := (hE.ty t _ hst).desc
      simp only at hst'
      have hr := run_underlying hst' w
      cases hx
      have hadd := R.add (.iter s 0) (.stringIter s 0) ⟨w.heap.size, 0, 0, 0⟩ rfl (fun c b he => by cases he) (fun es he => by cases he) (fun s' p he => by injection he with h1 h2; subst h1 h2; exact ⟨rfl, rfl⟩)
      refine ⟨_, w.alloc (.stringIter s 0), Phi.le_put ⟨w.heap.size, 0, 0, 0⟩ (R.next _ (Nat.le_refl _)), .mk hadd R.io, .inl ⟨.pointer (some ⟨w.heap.size, 0, none⟩), ?_, ptr_new _ _ _ _ _⟩⟩
      unfold Instr.range
      simp [hr]
    · cases e
  · cases e

theorem next_goes (R : RW B φ h w) {t : Nat} {x x' : Value} {r : OpR} (e : oNext h x = some r) (hx : VR φ x x') :
    Goes B P (do pure (.value (← Instr.next x' true t))) w φ r := by
  unfold oNext at e
  split at e
  · rename_i a
    split at e
    · rename_i s pos hg
      obtain ⟨e1, e2⟩ := cond_some e
      have e1 := beq_eq e1
      cases hx with
      | ptr i off L hL =>
        simp only at e1 hg
        subst e1
        obtain ⟨h1, h2, h3⟩ := R.iter i s pos L hg hL
        have hget : (getObj L.blk).run P w = .ok (.stringIter s pos) w := by unfold getObj; simp [Sem.run, h3]
        have hset : ∀ o, (setObj L.blk o).run P w = .ok () { w with heap := w.heap.setIfInBounds L.blk o } := by intro o; unfold setObj; simp [Sem.run, h3]
        cases hp : Nat.blt pos s.size
        · rw [hp] at e2
          simp only [cond_false] at e2
          injection e2 with e2; subst e2
          have hnp : ¬ pos < s.size := by intro hlt; rw [show Nat.blt pos s.size = true from Nat.ble_eq_true_of_le hlt] at hp; cases hp
          refine (VGoes.same R (u := .tuple #[.bool false]) ?_ (VR.tuple_of (LR.cons (.bool _) (LR.nil φ)))).goes
          unfold Instr.next
          simp [h2, hget, hnp]
        · rw [hp] at e2
          simp only [cond_true] at e2
          injection e2 with e2; subst e2
          have hlt : pos < s.size := by unfold Nat.blt at hp; exact ble_le hp
          refine ⟨φ, { w with heap := w.heap.setIfInBounds L.blk (.stringIter s (pos + (Utf8.decode s pos).2)) }, φ.le_refl, .mk (R.setObj (x0 := .iter s pos) (x := .iter s (pos + (Utf8.decode s pos).2)) hg trivial trivial hL (fun es he => by cases he) (fun s' p he => by injection he with q1 q2; subst q1 q2; exact ⟨h2, rfl⟩)) R.io,
            .inl ⟨.tuple #[.bool true, goInt pos, .int .i32 (Utf8.decode s pos).1], ?_, VR.tuple_of (LR.cons (.bool _) (LR.cons (.int _ _) (LR.cons (.int _ _) (LR.nil φ))))⟩⟩
          unfold Instr.next
          simp [h2, hget, hlt, hset]
    · cases e
  · cases e

end Go.Vd

/- Plain operations; calls; the whole. -/
namespace Go.Vd
variable {B : Base} {φ : Phi} {h : Heap} {P : Program} {w : World} {E : Env}

theorem pureOf_run {α : Type} {x : Sem α} {v : α} (e : pureOf x = some v) (w : World) : x.run P w = .ok v w := by
  unfold pureOf at e
  split at e
  · injection e with e; subst e; rfl
  · cases e

/-- No address: whole numbers, truths, texts. -/
def flatV : Value → Bool
  | .bool _ => true
  | .int _ _ => true
  | .string _ => true
  | _ => false

theorem VR.flat {v : Value} (h : flatV v = true) : VR φ v v := by
  cases v <;> first | exact .bool _ | exact .int _ _ | exact .string _ | cases h

theorem guard_flat (op : BinOp) (t : TypeId) (x y : Operand) {a : Value} (b : Value) (ha : flatV a = true) : eqGuard op t x y a b = pure () := by
  cases a <;> first | cases ha | skip
  case bool c => exact eqGuard_at_bool ..
  case int k n => exact eqGuard_at_int ..
  case string s => cases op <;> rfl

theorem intBin_run {op : BinOp} {j k : IntKind} {a b : Int} {v : Value} (e : intBin op j k a b = some v) (t : TypeId) (w : World) : (binOp op t (.int j a) (.int k b)).run P w = .ok v w ∧ flatV v = true := by
  unfold intBin at e
  split at e
  · refine ⟨pureOf_run e w, ?_⟩
    unfold Op.shift at e
    split at e
    · cases e
    · simp only at e; injection e with e; subst e; rfl
  · refine ⟨pureOf_run e w, ?_⟩
    unfold Op.shift at e
    split at e
    · cases e
    · simp only at e; injection e with e; subst e; rfl
  · obtain ⟨e1, e2⟩ := cond_some e
    have := sameK_eq e1
    subst this
    unfold arithV at e2
    have le_not : ∀ x y : Int, (!decide (x < y)) = decide (y ≤ x) := by intro x y; rw [Bool.eq_iff_iff]; simp
    split at e2
    case h_1 => injection e2 with e2; subst e2; exact ⟨by simp [binOp, Op.intArith, wrapI_eq], rfl⟩
    case h_2 => injection e2 with e2; subst e2; exact ⟨by simp [binOp, Op.intArith, wrapI_eq], rfl⟩
    case h_3 => injection e2 with e2; subst e2; exact ⟨by simp [binOp, Op.intArith, wrapI_eq], rfl⟩
    case h_4 => injection e2 with e2; subst e2; exact ⟨by simp [binOp, Op.intCmp, eqI_eq], rfl⟩
    case h_5 => injection e2 with e2; subst e2; exact ⟨by simp [binOp, Op.intCmp, eqI_eq, bne], rfl⟩
    case h_6 => injection e2 with e2; subst e2; exact ⟨by simp [binOp, Op.intCmp, ltI_eq], rfl⟩
    case h_7 => injection e2 with e2; subst e2; exact ⟨by simp [binOp, Op.intCmp, ltI_eq, le_not], rfl⟩
    case h_8 => injection e2 with e2; subst e2; exact ⟨by simp [binOp, Op.intCmp, ltI_eq], rfl⟩
    case h_9 => injection e2 with e2; subst e2; exact ⟨by simp [binOp, Op.intCmp, ltI_eq, le_not], rfl⟩
    case h_10 =>
      cases hz : eqI b 0
      · rw [hz] at e2; simp only [cond_false] at e2; injection e2 with e2; subst e2
        rw [eqI_eq] at hz
        have : b ≠ 0 := by simpa using hz
        exact ⟨by simp [binOp, Op.intDiv, this, wrapI_eq], rfl⟩
      · rw [hz] at e2; cases e2
    case h_11 =>
      cases hz : eqI b 0
      · rw [hz] at e2; simp only [cond_false] at e2; injection e2 with e2; subst e2
        rw [eqI_eq] at hz
        have : b ≠ 0 := by simpa using hz
        exact ⟨by simp [binOp, Op.intDiv, this], rfl⟩
      · rw [hz] at e2; cases e2
    case h_12 => refine ⟨by simpa [binOp] using pureOf_run e2 w, ?_⟩; simp only [Op.intBits] at e2; injection e2 with e2; subst e2; rfl
    case h_13 => refine ⟨by simpa [binOp] using pureOf_run e2 w, ?_⟩; simp only [Op.intBits] at e2; injection e2 with e2; subst e2; rfl
    case h_14 => refine ⟨by simpa [binOp] using pureOf_run e2 w, ?_⟩; simp only [Op.intBits] at e2; injection e2 with e2; subst e2; rfl
    case h_15 => refine ⟨by simpa [binOp] using pureOf_run e2 w, ?_⟩; simp only [Op.intBits] at e2; injection e2 with e2; subst e2; rfl
    case h_16 => cases e2

theorem stringV_run {op : BinOp} {a b : ByteArray} {v : Value} (e : stringV op a b = some v) (t : TypeId) (w : World) : (binOp op t (.string a) (.string b)).run P w = .ok v w ∧ flatV v = true := by
  have hl : ∀ s : ByteArray, s.data.toList = s.toList := fun s => (ByteArray.toList_eq s).symm
  unfold stringV at e
  split at e
  case h_1 =>
    obtain ⟨e1, e2⟩ := cond_some e
    injection e2 with e2; subst e2
    have := ble_le e1
    rw [most_lt] at this
    refine ⟨?_, rfl⟩
    rw [append_bytes]
    simp only [binOp, Op.stringOp]
    rw [if_neg (by simp; omega)]; rfl
  all_goals first
    | (injection e with e; subst e; refine ⟨?_, rfl⟩; simp [binOp, Op.stringOp, eqBytes_eq, hl]; done)
    | (injection e with e; subst e; refine ⟨?_, rfl⟩; simp only [binOp, Op.stringOp, eqBytes_eq, hl, Bool.or_comm]; rfl)
    | cases e

theorem binOp_eql {t : Nat} {x' y' : Value} (hx : isOther x' = true) : binOp .eql t x' y' = (do pure (.bool (← Op.equal t x' y')) : Sem Value) := by
  cases x' <;> first | (cases hx; done) | rfl
theorem binOp_neq {t : Nat} {x' y' : Value} (hx : isOther x' = true) : binOp .neq t x' y' = (do pure (.bool (!(← Op.equal t x' y'))) : Sem Value) := by
  cases x' <;> first | (cases hx; done) | rfl

theorem VR.other {x x' : Value} (h : VR φ x x') (hx : isOther x = true) : isOther x' = true := by
  cases h <;> first | rfl | exact hx

theorem otherV_run (hE : TysOK P E) (R : RW B φ h w) {op : BinOp} {t : Nat} {x y x' y' v : Value} (e : otherV op (eqV E h eqDepth t x y) = some v) (hx : VR φ x x') (hy : VR φ y y') (ho : isOther x = true) :
    (binOp op t x' y').run P w = .ok v w ∧ flatV v = true := by
  unfold otherV at e
  split at e
  · cases e
  · rename_i b hb
    have hr : (Op.equal t x' y').run P w = .ok b w := eqV_run hE R _ _ t x y x' y' b hb (show eqDepth ≤ Op.maxDepth by decide) hx hy
    split at e
    · injection e with e; subst e
      rw [binOp_eql (hx.other ho)]
      exact ⟨by simp [hr], rfl⟩
    · injection e with e; subst e
      rw [binOp_neq (hx.other ho)]
      exact ⟨by simp [hr], rfl⟩
    · cases e

theorem isNilI_inv {v : Value} (h : isNilI v = true) : v = .nilIface := by cases v <;> first | rfl | cases h

theorem eqV_peq (d : Nat) {t : Nat} {xs ys : Array Value} {b : Bool} (hb : eqV E h (d + 1) t (.agg xs) (.agg ys) = some b) : ∃ ti, E.ty t = some ti ∧ ti.peq = true := by
  unfold eqV at hb
  split at hb
  · cases hb
  · rename_i ti hti
    refine ⟨ti, hti, ?_⟩
    split at hb
    · exact absurd hb (by simp [eqBool])
    · exact absurd hb (by simp [eqInt])
    · exact absurd hb (by simp [eqStr])
    · exact absurd hb (by simp [eqPtr])
    · exact (cond_some hb).1
    · exact absurd hb (by unfold eqNil; split <;> simp_all)

theorem guard_run (hE : TysOK P E) {op : BinOp} {t : Nat} {ox oy : Operand} {x y x' y' v : Value} (e : binV E h op t x y = some v) (hn : (isNilI x && isNilI y && !(isConstO ox || isConstO oy)) = false) (hx : VR φ x x') (hy : VR φ y y') (w : World) :
    (eqGuard op t ox oy x' y').run P w = .ok () w := by
  cases hx with
  | bool b => rw [eqGuard_at_bool]; rfl
  | int k n => rw [eqGuard_at_int]; rfl
  | string s => rw [eqGuard_at_string]; rfl
  | ptrNil => rw [eqGuard_at_pointer]; rfl
  | ptr => rw [eqGuard_at_pointer]; rfl
  | slcNil => rw [eqGuard_at_slice]; rfl
  | slc => rw [eqGuard_at_slice]; rfl
  | slcEnd => rw [eqGuard_at_slice]; rfl
  | mapNil => rw [eqGuard_at_map]; rfl
  | map => rw [eqGuard_at_map]; rfl
  | func => rw [eqGuard_at_func]; rfl
  | nilFunc => cases op <;> rfl
  | iface => cases op <;> rfl
  | tuple => cases op <;> rfl
  | nilIface =>
    cases hy with
    | nilIface =>
      simp only [isNilI, Bool.true_and, Bool.not_eq_false'] at hn
      unfold eqGuard
      cases op <;> first | rfl | skip
      all_goals
        cases ox <;> cases oy <;> first
          | rfl
          | (exact absurd hn (by simp [isConstO]))
    | _ => cases op <;> rfl
  | agg xs us hs hxx =>
    cases hy with
    | agg ys vs ht hyy =>
      by_cases hop : op = .eql ∨ op = .neq
      · have hp : P.eqGuardType P.depth t = false := by
          unfold binV at e
          simp only [isOther, cond_true] at e
          unfold otherV at e
          split at e
          · cases e
          · rename_i b hb
            obtain ⟨ti, hti, hp⟩ := eqV_peq 299 hb
            exact ((hE.ty t ti hti).peq hp).1
        unfold eqGuard
        rcases hop with rfl | rfl <;> simp [hp]
      · cases op <;> first | rfl | exact absurd (.inl rfl) hop | exact absurd (.inr rfl) hop
    | _ => cases op <;> rfl

theorem bin_goes (hE : TysOK P E) (R : RW B φ h w) {op : BinOp} {t : Nat} {ox oy : Operand} {x y x' y' : Value} {r : OpR} (e : oBin E h op t (isConstO ox || isConstO oy) x y = some r) (hx : VR φ x x') (hy : VR φ y y') :
    Goes B P (do pure (.value (← (do eqGuard op t ox oy x' y'; binOp op t x' y')))) w φ r := by
  unfold oBin at e
  cases hn : (isNilI x && isNilI y && !(isConstO ox || isConstO oy))
  · rw [hn] at e
    simp only [cond_false] at e
    obtain ⟨v, hv, rfl⟩ := rV_inv e
    have hg := guard_run (ox := ox) (oy := oy) hE hv hn hx hy w
    have hb : (binOp op t x' y').run P w = .ok v w ∧ flatV v = true := by
      unfold binV at hv
      split at hv
      · rename_i j a
        unfold numBin at hv
        split at hv
        · cases hx; cases hy; exact intBin_run hv t w
        · cases hv
      · rename_i a
        unfold strBin at hv
        split at hv
        · cases hx; cases hy; exact stringV_run hv t w
        · cases hv
      · obtain ⟨ho, hv⟩ := cond_some hv
        exact otherV_run hE R hv hx hy ho
    exact (VGoes.same R (by simp [hg, hb.1]) (VR.flat hb.2)).goes
  · rw [hn] at e; cases e

theorem un_goes (R : RW B φ h w) {op : UnOp} {x x' : Value} {r : OpR} (e : oUn h op x = some r) (hx : VR φ x x') : Goes B P (do pure (.value (← Op.unary op x'))) w φ r := by
  unfold oUn at e
  split at e
  · rename_i k n
    obtain ⟨v, hv, rfl⟩ := rV_inv e
    cases hx
    have hf : flatV v = true := by
      cases op <;> first
        | (simp only [Op.unary, Op.intArith, Op.intBits] at hv; injection hv with hv; subst hv; rfl)
        | (exact absurd hv (by simp [Op.unary, stuck, pureOf]))
    exact (VGoes.same R (pureOf_run hv w) (VR.flat hf)).goes
  · split at e
    · injection e with e; subst e
      cases hx
      exact (VGoes.same R rfl (.bool _)).goes
    · cases e
  · cases e

theorem len_goes (hE : TysOK P E) (R : RW B φ h w) {x x' : Value} {r : OpR} {ats : Array Nat} {ty : Nat} (e : oLen h x (tyAt E ats[0]?) = some r) (hx : VR φ x x') :
    Goes B P (do pure (.value (← Builtin.len_ ats ty #[x']))) w φ r := by
  unfold oLen at e
  split at e
  · rename_i ti hti
    obtain ⟨t, h0, hti⟩ := tyAt_inv hti
    have hr := runT hE hti w
    split at e
    · rename_i hd
      rw [hd] at hr
      unfold oLenS at e
      split at e
      · rename_i s
        injection e with e; subst e
        cases hx
        exact (VGoes.same R (u := goInt s.size) (by unfold Builtin.len_; simp [h0, hr]) (.int _ _)).goes
      · cases e
    · rename_i hd
      rw [hd] at hr
      unfold oLenL at e
      split at e
      · rename_i a n c
        injection e with e; subst e
        have : VR φ (goInt n) (goInt n) := .int _ _
        cases hx <;> exact (VGoes.same R (by unfold Builtin.len_; simp [h0, hr]) this).goes
      · cases e
    · rename_i hd
      rw [hd] at hr
      unfold oLenM at e
      split at e
      · injection e with e; subst e
        cases hx
        exact (VGoes.same R (u := goInt 0) (by unfold Builtin.len_; simp [h0, hr]) (.int _ _)).goes
      · rename_i q
        split at e
        · rename_i es hg
          injection e with e; subst e
          obtain ⟨L, fs, c, h1, rfl, h3, h4⟩ := R.mapAt hg hx
          refine (VGoes.same R (u := goInt fs.size) (by unfold Builtin.len_; simp [h0, hr, run_getMap h3]) ?_).goes
          rw [h4.1]; exact .int _ _
        · cases e
      · cases e
    · rename_i n e0 hd
      rw [hd] at hr
      injection e with e; subst e
      exact (VGoes.same R (u := goInt n) (by unfold Builtin.len_; simp [h0, hr]) (.int _ _)).goes
    · cases e
  · cases e

theorem cap_goes (hE : TysOK P E) (R : RW B φ h w) {x x' : Value} {r : OpR} {ats : Array Nat} {ty : Nat} (e : oCap h x (tyAt E ats[0]?) = some r) (hx : VR φ x x') :
    Goes B P (do pure (.value (← Builtin.cap_ ats ty #[x']))) w φ r := by
  unfold oCap at e
  split at e
  · rename_i ti hti
    obtain ⟨t, h0, hti⟩ := tyAt_inv hti
    have hr := runT hE hti w
    split at e
    · rename_i hd
      rw [hd] at hr
      unfold oCapL at e
      split at e
      · rename_i a n c2
        split at e
        · obtain ⟨e1, e2⟩ := cond_some e
          injection e2 with e2; subst e2
          cases hx
          exact (VGoes.same R (u := goInt (0 : Nat)) (by unfold Builtin.cap_; simp [h0, hr]) (.int _ _)).goes
        · obtain ⟨e1, e2⟩ := cond_some e
          injection e2 with e2; subst e2
          have e1 := beq_eq e1
          cases hx with
          | slc i off z _ _ L cap hL hc hxx hl hrr =>
            rw [← hxx e1]
            exact (VGoes.same R (u := goInt cap) (by unfold Builtin.cap_; simp [h0, hr]) (.int _ _)).goes
          | slcEnd i off z _ a' h00 =>
            rw [h00]
            exact (VGoes.same R (u := goInt (0 : Nat)) (by unfold Builtin.cap_; simp [h0, hr]) (.int _ _)).goes
      · cases e
    · cases e
  · cases e

theorem min_goes (R : RW B φ h w) {x y x' y' : Value} {r : OpR} {ats : Array Nat} {ty : Nat} (e : oMin h x y = some r) (hx : VR φ x x') (hy : VR φ y y') :
    Goes B P (do pure (.value (← Builtin.min_ ats ty #[x', y']))) w φ r := by
  unfold oMin at e
  split at e
  · rename_i k a k' b
    injection e with e; subst e
    cases hx; cases hy
    refine (VGoes.same R (u := .int k (if b < a then b else a)) ?_ ?_).goes
    · simp [Builtin.min_, Builtin.min2]
    · have : (bif ltI b a then b else a) = if b < a then b else a := by
        rw [ltI_eq]; by_cases h : b < a <;> simp [h]
      rw [this]; exact .int _ _
  · cases e

end Go.Vd

/- Conversions, assertions, calls. -/
namespace Go.Vd
variable {B : Base} {φ : Phi} {h : Heap} {P : Program} {w : World} {E : Env}

theorem clear_goes (hE : TysOK P E) (R : RW B φ h w) {x x' : Value} {r : OpR} {ats : Array Nat} {ty : Nat} (e : oClear E h x (tyAt E ats[0]?) = some r) (hx : VR φ x x') :
    Goes B P (do pure (.value (← Builtin.clear_ ats ty #[x']))) w φ r := by
  unfold oClear at e
  split at e
  · rename_i e0 _ _ _ _ hst
    obtain ⟨t, h0, hst⟩ := tyAt_inv hst
    have hst' := (hE.ty t _ hst).desc
    simp only at hst'
    have hr := run_underlying hst' w
    split at e
    · rename_i base n c2
      have vu : VR φ (.tuple #[]) (.tuple #[]) := VR.tuple_of (LR.nil φ)
      cases hn : Nat.beq n 0
      · rw [hn] at e
        simp only [cond_false] at e
        have hn0 : n ≠ 0 := by intro h; rw [h] at hn; cases hn
        split at e
        · rename_i a
          split at e
          · rename_i te hte
            have T := hE.ty e0 te hte
            cases hsz : Nat.beq te.size 0
            · rw [hsz] at e
              simp only [cond_false] at e
              obtain ⟨hh, hwr, rfl⟩ := rHT_inv e
              have hsz0 : te.zero.cells.size ≠ 0 := by rw [T.size]; intro h; rw [h] at hsz; cases hsz
              cases hx with
              | slc i off z _ _ L cap hL hc hxx hl hrr =>
                have hz : (Builtin.zeroCells te.zero.cells n).toList = repCells te.zero.cells.toList n := zeros_eq _ _ hsz0
                obtain ⟨w', s1, s2⟩ := R.run_store (P := P) hwr hL (us := repCells te.zero.cells.toList n) (LR.plain (repCells_plain T.plain n))
                refine ⟨φ, w', φ.le_refl, s2, .inl ⟨.tuple #[], ?_, vu⟩⟩
                unfold Builtin.clear_
                obtain ⟨m, rfl⟩ : ∃ m, n = m + 1 := ⟨n - 1, by omega⟩
                simp [h0, hr, run_zero hE hte, hz, s1]
              | slcEnd => exact absurd rfl hn0
            · rw [hsz] at e; cases e
          · cases e
        · cases e
      · rw [hn] at e
        simp only [cond_true] at e
        injection e with e; subst e
        have hn := beq_eq hn
        subst hn
        cases hx with
        | slcNil => exact (VGoes.same R (by unfold Builtin.clear_; simp [h0, hr]) vu).goes
        | slc => exact (VGoes.same R (by unfold Builtin.clear_; simp [h0, hr]) vu).goes
        | slcEnd => exact (VGoes.same R (by unfold Builtin.clear_; simp [h0, hr]) vu).goes
    · cases e
  · cases e

theorem nilCheck_goes (R : RW B φ h w) {x x' : Value} {r : OpR} {ox : Operand} {o : Oper} {ρ : Operand → Value} (ho : o.op = .nilCheck ox) (hρ : ρ ox = x') (e : oNilCheck h x = some r) (hx : VR φ x x') :
    Goes B P (execOp ρ o) w φ r := by
  unfold oNilCheck at e
  split at e
  · injection e with e; subst e
    cases hx with
    | ptr i off L hL =>
      refine ⟨φ, w, φ.le_refl, R, .inl ⟨_, ?_, VR.ptr i off L hL⟩⟩
      unfold execOp; rw [ho]; simp [hρ]
  · injection e with e; subst e
    have hx0 := hx
    cases hx with
    | func f xs ys us vs hs ht h1 h2 =>
      refine ⟨φ, w, φ.le_refl, R, .inl ⟨_, ?_, hx0⟩⟩
      unfold execOp; rw [ho]; simp [hρ]
  · cases e

theorem assert_goes (hE : TysOK P E) (R : RW B φ h w) {xt t : Nat} {ok : Bool} {x x' : Value} {r : OpR} (e : oAssert h t ok x (E.ty t) = some r) (hx : VR φ x x') :
    Goes B P (do pure (.value (← Instr.typeAssert x' xt t ok))) w φ r := by
  unfold oAssert at e
  split at e
  · rename_i ti hti
    have hr := runT hE hti w
    have tup : ∀ {a a' : Value} (b : Bool), VR φ a a' → VR φ (.tuple #[a, .bool b]) (.tuple #[a', .bool b]) := fun b ha => VR.tuple_of (LR.cons ha (LR.cons (.bool b) (LR.nil φ)))
    have hz := run_zero hE hti w
    split at e
    · cases e
    · rename_i hni
      have key : ∀ {v : Value} {u : Value}, (Instr.typeAssert x' xt t ok).run P w = .ok u w → VR φ v u → some (OpR.val v h) = some r → Goes B P (do pure (.value (← Instr.typeAssert x' xt t ok))) w φ r := by
        intro v u h1 h2 h3; injection h3 with h3; subst h3; exact (VGoes.same R h1 h2).goes
      split at e
      · rename_i u v
        cases hx with
        | iface _ _ v' hv =>
          cases hb : Nat.beq u t
          · rw [hb] at e
            simp only [cond_false] at e
            obtain ⟨h1, h2⟩ := cond_some e
            subst h1
            have hne : u ≠ t := by intro h; rw [h, Nat.beq_refl] at hb; cases hb
            refine key (u := .tuple #[ti.zero, .bool false]) ?_ (tup false (zeroVR hE hti)) h2
            unfold Instr.typeAssert
            cases hd : ti.desc <;> rw [hd] at hr <;> first
              | exact absurd hd (hni _)
              | simp [hr, hne, hz]
          · rw [hb] at e
            simp only [cond_true] at e
            have heq := beq_eq hb
            subst heq
            cases ok
            · refine key (u := v') ?_ hv e
              unfold Instr.typeAssert
              cases hd : ti.desc <;> rw [hd] at hr <;> first
                | exact absurd hd (hni _)
                | simp [hr]
            · refine key (u := .tuple #[v', .bool true]) ?_ (tup true hv) e
              unfold Instr.typeAssert
              cases hd : ti.desc <;> rw [hd] at hr <;> first
                | exact absurd hd (hni _)
                | simp [hr]
      · cases hx
        obtain ⟨h1, h2⟩ := cond_some e
        subst h1
        refine key (u := .tuple #[ti.zero, .bool false]) ?_ (tup false (zeroVR hE hti)) h2
        unfold Instr.typeAssert
        cases hd : ti.desc <;> rw [hd] at hr <;> first
          | exact absurd hd (hni _)
          | simp [hr, hz]
      · cases e
  · cases e

theorem extract_goes (R : RW B φ h w) {i : Nat} {x x' : Value} {r : OpR} (e : oExtract h i x = some r) (hx : VR φ x x') : Goes B P (do pure (.value (← Instr.extract x' i))) w φ r := by
  unfold oExtract at e
  split at e
  · obtain ⟨v, hv, rfl⟩ := rV_inv e
    cases hx with
    | tuple xs us hs hxx =>
      obtain ⟨u, h1, h2⟩ := (LR.of_arrays hs hxx).getElem? hv
      refine (VGoes.same R (u := u) ?_ h2).goes
      have : us[i]? = some u := by simpa using h1
      unfold Instr.extract; simp [this]
  · cases e

theorem iface_goes (hE : TysOK P E) (R : RW B φ h w) {t : Nat} {x x' : Value} {r : OpR} (e : oIface h t x (E.ty t) = some r) (hx : VR φ x x') : Goes B P (do pure (.value (← Instr.makeInterface t x'))) w φ r := by
  unfold oIface at e
  split at e
  · rename_i ti hti
    have hr := runT hE hti w
    split at e
    · cases e
    · rename_i hni
      injection e with e; subst e
      refine (VGoes.same R (u := .iface t x') ?_ (.iface t x x' hx)).goes
      unfold Instr.makeInterface
      cases hd : ti.desc <;> rw [hd] at hr <;> first
        | exact absurd hd (hni _)
        | simp [hr]
  · cases e

theorem bytesOf_inv : ∀ {l : List Value} {bs : List UInt8}, bytesOf l = some bs → ∃ ns : List Int, l = ns.map (Value.int .u8) ∧ bs = ns.map fun n => UInt8.ofNat n.toNat
  | [], bs, e => by injection e with e; subst e; exact ⟨[], rfl, rfl⟩
  | x :: r, bs, e => by
    unfold bytesOf at e
    split at e
    · rename_i heq; exact absurd heq (by simp)
    · rename_i n r' heq
      injection heq with g1 g2
      subst g1 g2
      split at e
      · rename_i l hl
        injection e with e; subst e
        obtain ⟨ns, h1, h2⟩ := bytesOf_inv hl
        exact ⟨n :: ns, by rw [h1]; rfl, by rw [h2]; rfl⟩
      · cases e
    · cases e

theorem ints_same : ∀ {ns : List Int} {us : List Value}, LR φ (ns.map (Value.int .u8)) us → us = ns.map (Value.int .u8)
  | [], us, h => h.nil_inv
  | n :: ns, us, h => by
    obtain ⟨u, us', rfl, h1, h2⟩ := h.cons_inv
    rw [ints_same h2]
    cases h1; rfl

theorem foldl_bytes : ∀ (ns : List Int) (r : ByteArray), ns.foldl (fun r n => r.push (UInt8.ofNat n.toNat)) r = ⟨r.data ++ (ns.map fun n => UInt8.ofNat n.toNat).toArray⟩
  | [], r => by simp
  | n :: ns, r => by
    simp only [List.foldl_cons, List.map_cons]
    rw [foldl_bytes ns]
    simp [ByteArray.push]

theorem isU8_inv {o : Option TI} (e : isU8 o = true) : ∃ ti, o = some ti ∧ ti.desc = .int .u8 := by
  unfold isU8 at e
  split at e
  · exact ⟨_, rfl, rfl⟩
  · cases e

theorem rVH_inv {o : Option (Value × Heap)} {r : OpR} (e : rVH o = some r) : ∃ v h', o = some (v, h') ∧ r = .val v h' := by
  unfold rVH at e
  split at e
  · injection e with e; exact ⟨_, _, rfl, e.symm⟩
  · cases e

theorem conv_goes (hE : TysOK P E) (R : RW B φ h w) {s d : Nat} {x x' v : Value} {h' : Heap} (e : convV E h (E.ty s) (E.ty d) x = some (v, h')) (hx : VR φ x x') :
    VGoes B P (convert s d x') w φ v h' := by
  unfold convV at e
  split at e
  · rename_i ts td hts htd
    have Ts := (hE.ty s ts hts).desc
    have Td := (hE.ty d td htd).desc
    have rs := run_underlying Ts w
    have rd := run_underlying Td w
    split at e
    · rename_i k n
      cases hx
      unfold convInt at e
      split at e
      · rename_i k' hd
        injection e with e
        simp only [Prod.mk.injEq] at e
        obtain ⟨rfl, rfl⟩ := e
        rw [hd] at rd
        refine VGoes.same R (u := .int k' (k'.wrap n)) ?_ (by rw [wrapI_eq]; exact .int _ _)
        unfold convert Conv.intToInt
        simp [rs, rd]
      · rename_i hd
        injection e with e
        simp only [Prod.mk.injEq] at e
        obtain ⟨rfl, rfl⟩ := e
        rw [hd] at rd
        refine VGoes.same R (u := .string (Utf8.encode n)) ?_ (.string _)
        unfold convert Conv.intToString
        simp [rs, rd]
      · cases e
    · rename_i str
      cases hx
      unfold convStr at e
      split at e
      · rename_i hd
        injection e with e
        simp only [Prod.mk.injEq] at e
        obtain ⟨rfl, rfl⟩ := e
        rw [hd] at rd
        refine VGoes.same R (u := .string str) ?_ (.string _)
        unfold convert
        simp [rs, rd]
      · rename_i e0 hd
        split at e
        · rename_i hs
          obtain ⟨e1, e2⟩ := cond_some e
          obtain ⟨te, hte, htd'⟩ := isU8_inv e1
          injection e2 with e2
          simp only [Prod.mk.injEq] at e2
          obtain ⟨rfl, rfl⟩ := e2
          have hrun := run_bytes_of_string (P := P) w s d e0 str (by rw [Ts, hs]) (by rw [Td, hd]) (by rw [(hE.ty e0 te hte).desc, htd'])
          generalize hcap : grownCap w str.size 0 e0 = cap at hrun
          have hge : str.size ≤ cap := by rw [← hcap]; show str.size ≤ str.size + _; omega
          have hsz : (bytesRow str cap).size = cap := by unfold bytesRow; simp; omega
          have hrel := R.newRow (byteVals str.data.toList) 1 true (bytesRow str cap) e0 ((bytesRow str cap).size, (bytesRow str cap).size + 1) (fun j x hj => ?_) (fun k hk => by unfold frozenAt; simp; omega) (fun h => by cases h)
          · refine ⟨_, _, _, hrun, Phi.le_put _ (R.next _ (Nat.le_refl _)), ?_, .mk hrel R.io⟩
            exact VR.slc h.next 0 1 _ _ ⟨w.heap.size, 0, (bytesRow str cap).size, 1⟩ cap (Phi.put_same _ _ _) (by omega) (by omega) (by omega) (by simp; omega)
          · rw [byteVals_def] at hj
            rw [List.getElem?_map] at hj
            cases hb : str.data.toList[j]? with
            | none => rw [hb] at hj; cases hj
            | some b =>
              rw [hb] at hj
              injection hj with hj; subst hj
              refine ⟨_, ?_, .int _ _⟩
              have hjl : j < str.data.size := by have := (List.getElem?_eq_some_iff.1 hb).1; simpa using this
              unfold bytesRow
              rw [Array.getElem?_append_left (by simpa using hjl), Array.getElem?_map]
              rw [← Array.getElem?_toList, hb]; rfl
        · cases e
      · cases e
    · rename_i a n c
      unfold convSl at e
      split at e
      · rename_i hd
        split at e
        · rename_i e0 hs
          obtain ⟨e1, e2⟩ := cond_some e
          obtain ⟨te, hte, htd'⟩ := isU8_inv e1
          have he0 := (hE.ty e0 te hte).desc
          rw [htd'] at he0
          rw [hs] at Ts
          rw [hd] at Td
          split at e2
          · injection e2 with e2
            simp only [Prod.mk.injEq] at e2
            obtain ⟨rfl, rfl⟩ := e2
            cases hx
            refine VGoes.same R (u := .string .empty) ?_ (.string _)
            rw [run_convert_bytes_string w s d e0 none 0 0 Ts he0 Td]
            rfl
          · rename_i ad
            unfold rBytes at e2
            split at e2
            · rename_i l hrd
              split at e2
              · rename_i bs hbs
                injection e2 with e2
                simp only [Prod.mk.injEq] at e2
                obtain ⟨rfl, rfl⟩ := e2
                obtain ⟨ns, h1, h2⟩ := bytesOf_inv hbs
                have strEq : ns.foldl (fun r n => r.push (UInt8.ofNat n.toNat)) ByteArray.empty = ⟨bs.toArray⟩ := by
                  rw [foldl_bytes, h2]; simp
                cases hx with
                | slc i off z _ _ L cap hL hc hxx hl hrr =>
                  obtain ⟨us, g1, g2, g3⟩ := R.read hrd hL
                  rw [h1] at g2
                  have hus := ints_same g2
                  have hld := run_loads (P := P) (w := w) (b := L.blk) (o := L.off + off) (us := us) g3
                  rw [g1, hus] at hld
                  refine VGoes.same R (u := .string ⟨bs.toArray⟩) ?_ (.string _)
                  rw [run_convert_bytes_string w s d e0 _ n cap Ts he0 Td, run_bytesToString w _ n cap ns hld, strEq]
                | slcEnd i off z _ a' h00 =>
                  obtain ⟨cc, b, _, _, _, hl⟩ := rd_inv hrd
                  have hl0 : l = [] := by rw [hl]; simp
                  rw [h1] at hl0
                  have hns : ns = [] := by simpa using hl0
                  subst hns
                  refine VGoes.same R (u := .string ⟨bs.toArray⟩) ?_ (.string _)
                  rw [run_convert_bytes_string w s d e0 _ 0 0 Ts he0 Td, run_bytesToString w a' 0 0 [] (by unfold loadCells; simp [loadCellsFrom]), strEq]
              · cases e2
            · cases e2
        · cases e
      · cases e
    · cases e
  · cases e

end Go.Vd

/- One operation. -/
namespace Go.Vd
variable {B : Base} {φ : Phi} {h : Heap} {P : Program} {w : World} {E : Env}

/-- An operand that the reckoner may read: no address in a constant; a package variable that there is. -/
def okO (ng : Nat) : Operand → Bool
  | .const v => plainV v
  | .global g => Nat.blt g ng
  | _ => true

def okOper (ng nt : Nat) (o : Oper) : Bool :=
  o.op.operands.toList.all (okO ng) && (match o.dst with | some d => Nat.blt d nt | none => true)

theorem evR_run (R : RW B φ h w) {tm : Tm} {a : Act} (ht : ∀ t, VR φ ((tm.get t).getD undef) (a.tmps.getD t undef)) (x : Operand) (hx : okO B.ng x = true) : VR φ (evR tm x) (a.eval x) := by
  cases x with
  | tmp t => exact ht t
  | const v => exact VR.plain hx
  | global g =>
    obtain ⟨L, h1, h2, h3⟩ := R.glob g (by unfold okO Nat.blt at hx; exact ble_le hx)
    have := VR.ptr g 0 L h1
    rw [h2, h3] at this
    exact this
  | func f => exact .func f _ _ _ _ rfl rfl (fun i x y a => by simp at a) (fun i x y a => by simp at a)

theorem rH_inv {o : Option Heap} {r : OpR} (e : rH o = some r) : ∃ h', o = some h' ∧ r = .val undef h' := by
  unfold rH at e
  split at e
  · injection e with e; exact ⟨_, rfl, e.symm⟩
  · cases e

theorem LR.map {ρ ρ' : Operand → Value} {l : List Operand} (h : ∀ x ∈ l, VR φ (ρ x) (ρ' x)) : LR φ (l.map ρ) (l.map ρ') :=
  ⟨by simp, fun i x y hx hy => by
    rw [List.getElem?_map] at hx hy
    cases ho : l[i]? with
    | none => rw [ho] at hx; cases hx
    | some o =>
      rw [ho] at hx hy
      injection hx with hx; injection hy with hy; subst hx hy
      exact h o (List.mem_of_getElem? ho)⟩

theorem PR.map {ρ ρ' : Operand → Value} {l : List (Nat × Operand)} (h : ∀ p ∈ l, VR φ (ρ p.2) (ρ' p.2)) : PR φ (l.map fun p => (p.1, ρ p.2)) (l.map fun p => (p.1, ρ' p.2)) :=
  ⟨by simp, fun i x y hx hy => by
    rw [List.getElem?_map] at hx hy
    cases ho : l[i]? with
    | none => rw [ho] at hx; cases hx
    | some o =>
      rw [ho] at hx hy
      injection hx with hx; injection hy with hy; subst hx hy
      exact ⟨rfl, h o (List.mem_of_getElem? ho)⟩⟩

theorem OR.map {ρ ρ' : Operand → Value} {o : Option Operand} (h : ∀ x, o = some x → VR φ (ρ x) (ρ' x)) : OR φ (o.map ρ) (o.map ρ') := by
  cases o with
  | none => trivial
  | some x => exact h x rfl

/-- **One operation:** where the reckoner answers, the model answers what stands for it. -/
theorem evOp_goes (hE : TysOK P E) (R : RW B φ h w) {ρ ρ' : Operand → Value} {o : Oper} {r : OpR} (e : evOp E h ρ o.op = some r) (hρ : ∀ x ∈ o.op.operands.toList, VR φ (ρ x) (ρ' x)) :
    Goes B P (execOp ρ' o) w φ r := by
  obtain ⟨dst, op, type, pos, after, guard⟩ := o
  simp only at e hρ
  cases op <;> simp only [evOp] at e <;> try (cases e; done)
  case move x => injection e with e; subst e; exact (VGoes.same R (x := (pure (ρ' x) : Sem Value)) rfl (hρ x (by simp [Op.operands]))).goes
  case assign x => injection e with e; subst e; exact (VGoes.same R (x := (pure (ρ' x) : Sem Value)) rfl (hρ x (by simp [Op.operands]))).goes
  case pick c a b =>
    have hc := hρ c (by simp [Op.operands])
    have ha := hρ a (by simp [Op.operands])
    have hb := hρ b (by simp [Op.operands])
    unfold oPick at e
    split at e
    · rename_i t ht
      injection e with e; subst e
      rw [ht] at hc
      generalize hcc : ρ' c = c' at hc
      cases hc
      refine ⟨φ, w, φ.le_refl, R, .inl ⟨(if t then ρ' a else ρ' b), ?_, by cases t <;> assumption⟩⟩
      simp [execOp, hcc, asBool]
    · cases e
  case alloc t =>
    unfold oAlloc at e
    split at e
    · rename_i ti hti
      injection e with e; subst e
      exact (alloc_goes hE R hti).goes
    · cases e
  case box t x =>
    have hx := hρ x (by simp [Op.operands])
    unfold oBox at e
    split at e
    · rename_i ti hti
      obtain ⟨_, e⟩ := cond_some e
      injection e with e; subst e
      exact (box_goes R t ti.size hx).goes
    · cases e
  case build t ps =>
    obtain ⟨v, hv, rfl⟩ := rV_inv e
    have hp : PR φ (ps.toList.map fun p => (p.1, ρ p.2)) (ps.toList.map fun p => (p.1, ρ' p.2)) := PR.map fun p hp => hρ p.2 (by simp [Op.operands]; exact ⟨_, by simpa using hp⟩)
    have := (build_goes hE R hv hp).goes
    rw [show (ps.toList.map fun p => (p.1, ρ' p.2)).toArray = ps.map fun p => (p.1, ρ' p.2) from by apply Array.toList_inj.1; simp] at this
    exact this
  case buildSlice t n ps =>
    have hp : PR φ (ps.toList.map fun p => (p.1, ρ p.2)) (ps.toList.map fun p => (p.1, ρ' p.2)) := PR.map fun p hp => hρ p.2 (by simp [Op.operands]; exact ⟨_, by simpa using hp⟩)
    have := buildSlice_goes hE R e hp
    rw [show (ps.toList.map fun p => (p.1, ρ' p.2)).toArray = ps.map fun p => (p.1, ρ' p.2) from by apply Array.toList_inj.1; simp] at this
    exact this
  case load t x =>
    have hx := hρ x (by simp [Op.operands])
    unfold oLoad at e
    split at e
    · rename_i a ha
      obtain ⟨v, hv, rfl⟩ := rV_inv e
      rw [ha] at hx
      obtain ⟨b, o, s⟩ := a
      have hs : s = none := by generalize ρ' x = u at hx; cases hx; rfl
      subst hs
      exact (load_goes hE R hv hx).goes
    · cases e
  case store t x y =>
    have hx := hρ x (by simp [Op.operands])
    have hy := hρ y (by simp [Op.operands])
    unfold oStore at e
    split at e
    · rename_i a ha
      obtain ⟨h', hh, rfl⟩ := rH_inv e
      rw [ha] at hx
      obtain ⟨b, o, s⟩ := a
      have hs : s = none := by generalize ρ' x = u at hx; cases hx; rfl
      subst hs
      obtain ⟨w', g1, g2⟩ := store_goes hE R hh hx hy
      exact ⟨φ, w', φ.le_refl, g2, .inr ⟨by simp [execOp, g1], rfl⟩⟩
    · cases e
  case nilCheck x => exact nilCheck_goes R rfl rfl e (hρ x (by simp [Op.operands]))
  case binOp op t x y yt => exact bin_goes hE R e (hρ x (by simp [Op.operands])) (hρ y (by simp [Op.operands]))
  case unOp op t x => exact un_goes R e (hρ x (by simp [Op.operands]))
  case convert s d x =>
    obtain ⟨v, h', hv, rfl⟩ := rVH_inv e
    exact (conv_goes hE R hv (hρ x (by simp [Op.operands]))).goes
  case makeInterface t x => exact iface_goes hE R e (hρ x (by simp [Op.operands]))
  case makeFunc fn first cap =>
    unfold oFunc at e
    split at e
    · rename_i f
      injection e with e; subst e
      have h1 : LR φ (first.toList.map ρ) (first.toList.map ρ') := LR.map fun x hx => hρ x (by simp [Op.operands]; exact .inl (by simpa using hx))
      have h2 : LR φ (cap.toList.map ρ) (cap.toList.map ρ') := LR.map fun x hx => hρ x (by simp [Op.operands]; exact .inr (by simpa using hx))
      refine (VGoes.same R (x := Instr.makeFunc (.func f) (first.map ρ') (cap.map ρ')) rfl ?_).goes
      refine .func f _ _ _ _ (by simp) (by simp) (fun i x y ha hb => ?_) (fun i x y ha hb => ?_)
      · exact h1.2 i x y (by simpa using ha) (by simpa using hb)
      · exact h2.2 i x y (by simpa using ha) (by simpa using hb)
    · cases e
  case makeMap t r =>
    exact makeMap_goes hE R e (OR.map fun x hx => hρ x (by subst hx; simp [Op.operands]))
  case makeSlice t l c => exact makeSlice_goes hE R e (hρ l (by simp [Op.operands])) (hρ c (by simp [Op.operands]))
  case slice t x lo hi mx =>
    cases hb : (mx.isSome && hi.isNone)
    case true => rw [hb] at e; cases e
    rw [hb] at e
    simp only [cond_false] at e
    obtain ⟨v, hv, rfl⟩ := rV_inv e
    refine (slice_goes hE R hv (hρ x (by simp [Op.operands])) (OR.map fun y hy => hρ y (by subst hy; simp [Op.operands])) (OR.map fun y hy => hρ y (by subst hy; simp [Op.operands])) (OR.map fun y hy => hρ y (by subst hy; simp [Op.operands])) ?_).goes
    intro h1 h2
    cases mx with
    | none => exact h1 rfl
    | some m => cases hi with
      | none => cases hb
      | some k => cases h2
  case fieldAddr t x f => exact fieldAddr_goes hE R e (hρ x (by simp [Op.operands]))
  case field t x f => exact field_goes hE R e (hρ x (by simp [Op.operands]))
  case indexAddr t x i => exact indexAddr_goes hE R e (hρ x (by simp [Op.operands])) (hρ i (by simp [Op.operands]))
  case index t x i => exact index_goes hE R e (hρ x (by simp [Op.operands])) (hρ i (by simp [Op.operands]))
  case lookup t x k ok => exact lookup_goes hE R e (hρ x (by simp [Op.operands])) (hρ k (by simp [Op.operands]))
  case mapUpdate t m k x => exact mapUpdate_goes hE R e (hρ m (by simp [Op.operands])) (hρ k (by simp [Op.operands])) (hρ x (by simp [Op.operands]))
  case insert t m k x => exact mapUpdate_goes hE R e (hρ m (by simp [Op.operands])) (hρ k (by simp [Op.operands])) (hρ x (by simp [Op.operands]))
  case mapEntry t m k => exact mapEntry_goes hE R e (hρ m (by simp [Op.operands])) (hρ k (by simp [Op.operands]))
  case entryStore t m s x => exact entryStore_goes R e (hρ m (by simp [Op.operands])) (hρ s (by simp [Op.operands])) (hρ x (by simp [Op.operands]))
  case range t x => exact range_goes hE R e (hρ x (by simp [Op.operands]))
  case next it b =>
    obtain ⟨rfl, e⟩ := cond_some e
    exact next_goes R e (hρ it (by simp [Op.operands]))
  case typeAssert x xt t ok => exact assert_goes hE R e (hρ x (by simp [Op.operands]))
  case extract x i => exact extract_goes R e (hρ x (by simp [Op.operands]))
  case panic x =>
    have hx := hρ x (by simp [Op.operands])
    unfold oPanic at e
    split at e
    · rename_i t v hv
      injection e with e; subst e
      rw [hv] at hx
      generalize hu : ρ' x = u at hx
      cases hx with
      | iface _ _ u' hh =>
        refine ⟨.iface t u', ?_, .iface t v u' hh⟩
        simp [execOp, hu, Instr.panic]
    · cases e
  case defer c =>
    unfold oDefer at e
    split at e
    · rename_i f hf
      split at e
      · rename_i g first captured hg
        injection e with e; subst e
        have hfv := hρ f (by simp [Op.operands, Call.operands, hf])
        rw [hg] at hfv
        have hargs : LR φ (c.args.toList.map ρ) (c.args.toList.map ρ') := LR.map fun x hx => hρ x (by simp [Op.operands, Call.operands]; exact .inr (by simpa using hx))
        generalize hu : ρ' f = u at hfv
        cases hfv with
        | func _ _ _ us vs hs ht h1 h2 =>
          refine ⟨{ target := .fn (.func g) vs, args := us ++ c.args.map ρ' }, ?_, g, captured, vs, rfl, rfl, LR.of_arrays ht h2, ?_⟩
          · simp [execOp, resolve, hf, hu, Deferred.ofValue]
          · simp only [Array.toList_append, Array.toList_map]
            exact (LR.of_arrays hs h1).append hargs
      · cases e
    · cases e
  case call c =>
    unfold oCall at e
    have hargs : LR φ (c.args.toList.map ρ) (c.args.toList.map ρ') := LR.map fun x hx => hρ x (by simp [Op.operands, Call.operands]; exact .inr (by simpa using hx))
    split at e
    · rename_i f hf
      have hfv := hρ f (by simp [Op.operands, Call.operands, hf])
      unfold evCallee at e
      split at e
      · rename_i g first captured hg
        injection e with e; subst e
        rw [hg] at hfv
        generalize hu : ρ' f = u at hfv
        cases hfv with
        | func _ _ _ us vs hs ht h1 h2 =>
          refine ⟨us ++ c.args.map ρ' ++ vs, ?_, ?_, R⟩
          · simp [execOp, resolve, hf, hu, Deferred.ofValue, invoke]
          · simp only [Array.toList_append, Array.toList_map, List.append_assoc]
            exact (LR.of_arrays hs h1).append (hargs.append (LR.of_arrays ht h2))
      · cases e
    · rename_i b hb
      unfold evBuiltin at e
      split at e
      · rename_i x hx
        rw [hx] at hargs
        obtain ⟨x', us, g1, g2, g3⟩ := hargs.cons_inv
        rw [g3.nil_inv] at g1
        have ha : c.args.map ρ' = #[x'] := by apply Array.toList_inj.1; rw [Array.toList_map, g1]
        split at e
        · have := len_goes (ty := type) hE R e g2
          simpa [Goes, execOp, resolve, hb, invoke, builtin, ha] using this
        · have := cap_goes (ty := type) hE R e g2
          simpa [Goes, execOp, resolve, hb, invoke, builtin, ha] using this
        · have := clear_goes (ty := type) hE R e g2
          simpa [Goes, execOp, resolve, hb, invoke, builtin, ha] using this
        · cases e
      · rename_i x y hx
        rw [hx] at hargs
        obtain ⟨x', us, g1, g2, g3⟩ := hargs.cons_inv
        obtain ⟨y', us', q1, q2, q3⟩ := g3.cons_inv
        rw [q1, q3.nil_inv] at g1
        have ha : c.args.map ρ' = #[x', y'] := by apply Array.toList_inj.1; rw [Array.toList_map, g1]
        split at e
        · unfold oAppend at e
          split at e
          · rename_i t tx h0 h1
            obtain ⟨t1, h1, htx⟩ := tyAt_inv h1
            cases hi : isIntD tx.desc
            · rw [hi] at e
              simp only [cond_false] at e
              split at e
              · rename_i v h' hv
                injection e with e; subst e
                have := (append_goes (ty := type) hE R hv h0 h1 (hE.ty t1 tx htx).desc (fun k hk => by rw [hk] at hi; cases hi) g2 q2).goes
                simpa [Goes, execOp, resolve, hb, invoke, builtin, ha] using this
              · cases e
            · rw [hi] at e; cases e
          · cases e
        · have := copy_goes (ty := type) hE R e g2 q2
          simpa [Goes, execOp, resolve, hb, invoke, builtin, ha] using this
        · have := min_goes (P := P) (ats := c.argTypes) (ty := type) R e g2 q2
          simpa [Goes, execOp, resolve, hb, invoke, builtin, ha] using this
        · cases e
      · cases e
    · cases e

end Go.Vd

/- Code. -/
namespace Go.Vd
variable {B : Base} {φ : Phi} {h : Heap} {P : Program} {w : World} {E : Env}

/-- Deferred calls that stand for deferred calls. -/
def DefR (φ : Phi) (d d' : Deferred) : Prop := ∃ f cs cs', d.target = .fn (.func f) cs ∧ d'.target = .fn (.func f) cs' ∧ LR φ cs.toList cs'.toList ∧ LR φ d.args.toList d'.args.toList

inductive DR (φ : Phi) : List Deferred → List Deferred → Prop
  | nil : DR φ [] []
  | cons {d d' : Deferred} {ds ds' : List Deferred} (h : DefR φ d d') (t : DR φ ds ds') : DR φ (d :: ds) (d' :: ds')

theorem DR.mono {φ ψ : Phi} (hle : φ.le ψ) {ds ds' : List Deferred} (h : DR φ ds ds') : DR ψ ds ds' := by
  induction h with
  | nil => exact .nil
  | cons h _ ih =>
    obtain ⟨f, cs, cs', h1, h2, h3, h4⟩ := h
    exact .cons ⟨f, cs, cs', h1, h2, h3.mono hle, h4.mono hle⟩ ih

/-- A frame of the reckoner's that stands for a frame. -/
structure SR (B : Base) (nt : Nat) (φ : Phi) (s : St) (a : Act) (w : World) : Prop where
  rel : RW B φ s.h w
  size : nt ≤ a.tmps.size
  tm : ∀ t, VR φ ((s.tm.get t).getD undef) (a.tmps.getD t undef)
  df : DR φ s.df a.defers

def ExR (φ : Phi) : Exit → Exit → Prop
  | .normal, .normal => True
  | .exit i, .exit j => i = j
  | .goto i, .goto j => i = j
  | .ret, .ret => True
  | .panic c, .panic c' => ∃ v v', c = [{ v, recovered := false }] ∧ c' = [{ v := v', recovered := false }] ∧ VR φ v v'
  | _, _ => False

def Post (B : Base) (nt : Nat) (φ : Phi) (e : Exit) (s : St) : Exit → Act → World → Prop :=
  fun e' a' w' => ∃ ψ, φ.le ψ ∧ ExR ψ e e' ∧ SR B nt ψ s a' w'

theorem Post.mono {nt : Nat} {φ ψ : Phi} (hle : φ.le ψ) {e : Exit} {s : St} {e' : Exit} {a : Act} {w : World} (h : Post B nt ψ e s e' a w) : Post B nt φ e s e' a w := by
  obtain ⟨χ, h1, h2, h3⟩ := h
  exact ⟨χ, Phi.le_trans hle h1, h2, h3⟩

/-- A function called: entered, or answered at once. -/
def CallsF (P : Program) (f : Nat) (args : Array Value) (w : World) (R : Ending → World → Prop) : Prop :=
  match (callFunc f args).run P w with
  | .ok (.enter g as) w' => Calls P g as w' R
  | .ok (.value v) w' => R (.returned v) w'
  | _ => False

def CRPost (B : Base) (φ : Phi) : CR → Ending → World → Prop
  | .ret v h' => fun e w' => ∃ ψ u, φ.le ψ ∧ e = .returned u ∧ VR ψ v u ∧ RW B ψ h' w'
  | .pan v h' => fun e w' => ∃ ψ u, φ.le ψ ∧ e = .panicked [{ v := u, recovered := false }] ∧ VR ψ v u ∧ RW B ψ h' w'

def CfOK (B : Base) (P : Program) (cf : Nat → List Value → Heap → Option CR) : Prop :=
  ∀ f args h r φ (w : World) args', cf f args h = some r → RW B φ h w → LR φ args args'.toList → CallsF P f args' w (CRPost B φ r)

theorem SR.put {nt : Nat} {s : St} {a : Act} {w w' : World} (S : SR B nt φ s a w) {ψ : Phi} (hle : φ.le ψ) {dst : Option Nat} (hd : ∀ d, dst = some d → d < nt) {v u : Value} {h' : Heap} (hv : VR ψ v u) (R : RW B ψ h' w') :
    SR B nt ψ (s.put dst v h') (a.put dst u) w' := by
  cases dst with
  | none => exact ⟨R, S.size, fun t => (S.tm t).mono hle, S.df.mono hle⟩
  | some d =>
    refine ⟨R, by show nt ≤ (a.tmps.setIfInBounds d u).size; rw [Array.size_setIfInBounds]; exact S.size, fun t => ?_, S.df.mono hle⟩
    show VR ψ (((s.tm.set d v).get t).getD undef) ((a.tmps.setIfInBounds d u).getD t undef)
    have hlt := hd d rfl
    rw [Tm.get_set]
    by_cases e : t = d
    · subst e
      rw [if_pos rfl]
      have : t < a.tmps.size := Nat.lt_of_lt_of_le hlt S.size
      simp [Array.getD, this]
      exact hv
    · rw [if_neg e]
      have := (S.tm t).mono hle
      have e2 : (a.tmps.setIfInBounds d u).getD t undef = a.tmps.getD t undef := by
        simp only [Array.getD_eq_getD_getElem?, Array.getElem?_setIfInBounds_ne (Ne.symm e)]
      rw [e2]; exact this

theorem VR.bool_iff {v u : Value} (h : VR φ v u) (b : Bool) : v = .bool b ↔ u = .bool b := by
  cases h <;> first | exact Iff.rfl | (constructor <;> (intro e; cases e))

theorem wanted_eq {nt : Nat} {s : St} {a : Act} {w : World} (S : SR B nt φ s a w) (ops : Array Oper) (o : Oper) : Region.wanted o (yielded ops a.tmps) = wantedV ops s o := by
  unfold Region.wanted wantedV
  cases hg : o.guard with
  | none => rfl
  | some p =>
    obtain ⟨j, want⟩ := p
    simp only
    unfold yielded
    cases hd : (ops[j]?).bind (·.dst) with
    | none => rfl
    | some d =>
      simp only [Option.bind_some]
      have ht := S.tm d
      have hget : a.tmps.getD d undef = (a.tmps[d]?).getD undef := by rw [Array.getD_eq_getD_getElem?]
      rw [hget] at ht
      have key : ∀ b : Bool, (s.tm.get d = some (.bool b)) ↔ (a.tmps[d]? = some (.bool b)) := by
        intro b
        have := ht.bool_iff b
        constructor
        · intro h
          rw [h] at this
          have h2 := this.1 rfl
          cases hx : a.tmps[d]? with
          | none => rw [hx] at h2; cases h2
          | some x => rw [hx] at h2; exact congrArg some h2
        · intro h
          rw [h] at this
          have h2 := this.2 rfl
          cases hx : s.tm.get d with
          | none => rw [hx] at h2; cases h2
          | some x => rw [hx] at h2; exact congrArg some h2
      cases hx : a.tmps[d]? with
      | none =>
        simp only
        split
        · rename_i v b hb
          have := (key b).1 hb
          rw [hx] at this; cases this
        · rfl
      | some x =>
        cases x <;> first
          | (simp only
             split
             · rename_i v b hb
               have := (key b).1 hb
               rw [hx] at this; cases this
             · rfl)
          | skip
        rename_i b
        rw [(key b).2 hx]
        cases b <;> cases want <;> rfl

theorem evR_act {nt : Nat} {s : St} {a : Act} {w : World} (S : SR B nt φ s a w) {o : Oper} (ho : okOper B.ng nt o = true) : ∀ x ∈ o.op.operands.toList, VR φ (evR s.tm x) (a.eval x) := by
  intro x hx
  unfold okOper at ho
  rw [Bool.and_eq_true, List.all_eq_true] at ho
  exact evR_run S.rel S.tm x (ho.1 x hx)

theorem okOper_dst {ng nt : Nat} {o : Oper} (ho : okOper ng nt o = true) : ∀ d, o.dst = some d → d < nt := by
  intro d hd
  unfold okOper at ho
  rw [Bool.and_eq_true, hd] at ho
  have := ho.2
  unfold Nat.blt at this
  exact ble_le this

/-- One operation of a region, and what comes behind it. -/
theorem op_wp (hE : TysOK P E) {cf : Nat → List Value → Heap → Option CR} (hcf : CfOK B P cf) {nt : Nat} {s : St} {a : Act} {w : World} (S : SR B nt φ s a w) {o : Oper} (ho : okOper B.ng nt o = true)
    {next : Act → World → Prop} {Q : Exit → Act → World → Prop} {k : St → Option (Exit × St)} {e : Exit} {s' : St}
    (hres : (match evOp E s.h (evR s.tm) o.op with
      | some (.val v h) => k (s.put o.dst v h)
      | some (.call f args h) => match cf f args h with
        | some (.ret v h') => k (s.put o.dst v h')
        | some (.pan v h') => some (.panic [{ v, recovered := false }], { s with h := h' })
        | none => none
      | some (.defer d) => k ((⟨s.tm, d :: s.df, s.h⟩ : St).put o.dst undef s.h)
      | some (.panic v) => some (.panic [{ v, recovered := false }], s)
      | none => none) = some (e, s'))
    (hk : ∀ ψ s1 a1 w1, φ.le ψ → SR B nt ψ s1 a1 w1 → k s1 = some (e, s') → next a1 w1)
    (hq : ∀ e' a' w', Post B nt φ e s' e' a' w' → Q e' a' w') : o.wp P a w next Q := by
  have hd := okOper_dst ho
  unfold Oper.wp
  split at hres
  · rename_i v h1 hev
    obtain ⟨ψ, w', hle, R, hr⟩ := evOp_goes hE S.rel hev (evR_act S ho)
    rcases hr with ⟨u, hr, hv⟩ | ⟨hr, rfl⟩
    · rw [hr, Oper.upon_value]
      exact hk ψ _ _ _ hle (S.put hle hd hv R) hres
    · rw [hr, Oper.upon_skip]
      exact hk ψ _ _ _ hle (S.put hle hd (VR.undef ψ) R) hres
  · rename_i f args h1 hev
    obtain ⟨args', hr, hargs, R⟩ := evOp_goes hE S.rel hev (evR_act S ho)
    rw [hr]
    split at hres
    · rename_i v h2 hc
      have hcall := hcf f args h1 _ φ w args' hc R hargs
      unfold CallsF at hcall
      split at hcall
      · rename_i g as w' hrun
        rw [hrun, Oper.upon_enter]
        refine hcall.mono ?_
        rintro en w'' ⟨ψ, u, hle, rfl, hv, R'⟩
        exact hk ψ _ _ _ hle (S.put hle hd hv R') hres
      · rename_i u' w' hrun
        rw [hrun, Oper.upon_value]
        obtain ⟨ψ, u, hle, heq, hv, R'⟩ := hcall
        injection heq with heq; subst heq
        exact hk ψ _ _ _ hle (S.put hle hd hv R') hres
      · exact hcall.elim
    · rename_i v h2 hc
      injection hres with hres
      simp only [Prod.mk.injEq] at hres
      obtain ⟨rfl, rfl⟩ := hres
      have hcall := hcf f args h1 _ φ w args' hc R hargs
      unfold CallsF at hcall
      split at hcall
      · rename_i g as w' hrun
        rw [hrun, Oper.upon_enter]
        refine hcall.mono ?_
        rintro en w'' ⟨ψ, u, hle, rfl, hv, R'⟩
        exact hq _ _ _ ⟨ψ, hle, ⟨v, u, rfl, rfl, hv⟩, R', S.size, fun t => (S.tm t).mono hle, S.df.mono hle⟩
      · rename_i u' w' hrun
        obtain ⟨ψ, u, hle, heq, hv, R'⟩ := hcall
        cases heq
      · exact hcall.elim
    · cases hres
  · rename_i d hev
    obtain ⟨d', hr, hd'⟩ := evOp_goes hE S.rel hev (evR_act S ho)
    rw [hr, Oper.upon_defer]
    have S2 : SR B nt φ (⟨s.tm, d :: s.df, s.h⟩ : St) { a with defers := d' :: a.defers } w := ⟨S.rel, S.size, S.tm, .cons hd' S.df⟩
    exact hk φ _ _ _ φ.le_refl (S2.put φ.le_refl hd (VR.undef φ) S.rel) hres
  · rename_i v hev
    obtain ⟨u, hr, hv⟩ := evOp_goes hE S.rel hev (evR_act S ho)
    injection hres with hres
    simp only [Prod.mk.injEq] at hres
    obtain ⟨rfl, rfl⟩ := hres
    rw [hr, Oper.upon_panic]
    exact hq _ _ _ ⟨φ, φ.le_refl, ⟨v, u, rfl, rfl, hv⟩, S⟩
  · cases hres

/-- A region in the order of the text. -/
theorem evOps_wp (hE : TysOK P E) {cf : Nat → List Value → Heap → Option CR} (hcf : CfOK B P cf) {nt : Nat} (ops : Array Oper) {Q : Exit → Act → World → Prop} {e : Exit} {s' : St} : ∀ (l : List Oper) (k : Nat) (φ : Phi) (s : St) (a : Act) (w : World),
    ops.toList.drop k = l → l.all (okOper B.ng nt) = true → evOps E cf ops l s = some (e, s') → SR B nt φ s a w → (∀ e' a' w', Post B nt φ e s' e' a' w' → Q e' a' w') →
    wpOps P ops Q (List.range' k l.length) a w
  | [], k, φ, s, a, w, hl, hok, hev, S, hq => by
    injection hev with hev
    simp only [Prod.mk.injEq] at hev
    obtain ⟨rfl, rfl⟩ := hev
    exact hq _ _ _ ⟨φ, φ.le_refl, trivial, S⟩
  | o :: rest, k, φ, s, a, w, hl, hok, hev, S, hq => by
    have hko : ops[k]? = some o := by
      have : (ops.toList.drop k)[0]? = some o := by rw [hl]; rfl
      rw [List.getElem?_drop] at this
      simpa using this
    have hrest : ops.toList.drop (k + 1) = rest := by
      rw [← List.tail_drop, hl]; rfl
    rw [List.all_cons, Bool.and_eq_true] at hok
    have ih := fun φ' s1 a1 w1 (h1 : evOps E cf ops rest s1 = some (e, s')) (S1 : SR B nt φ' s1 a1 w1) (hle : φ.le φ') => evOps_wp hE hcf ops (Q := Q) rest (k + 1) φ' s1 a1 w1 hrest hok.2 h1 S1 (fun e' a' w' hp => hq e' a' w' (hp.mono hle))
    simp only [List.length_cons, List.range'_succ, wpOps, hko]
    rw [evOps_cons] at hev
    unfold evOpsStep at hev
    rw [wanted_eq S]
    cases hw : wantedV ops s o
    · rw [hw] at hev
      simp only [cond_false] at hev
      simp only [Bool.false_eq_true, if_false]
      exact ih φ _ _ _ hev (S.put φ.le_refl (okOper_dst hok.1) (VR.undef φ) S.rel) φ.le_refl
    · rw [hw] at hev
      simp only [cond_true] at hev
      simp only [if_true]
      refine .inl (op_wp hE hcf S hok.1 (k := evOps E cf ops rest) (e := e) (s' := s') hev ?_ hq)
      intro ψ s1 a1 w1 hle S1 h1
      exact ih ψ s1 a1 w1 h1 S1 hle

end Go.Vd

/- Regions whose order is drawn. -/
namespace Go.Vd
variable {B : Base} {φ : Phi} {h : Heap} {P : Program} {w : World} {E : Env}

/-! ### Masks -/

theorem bit_one (e j : Nat) : ((1 <<< e : Nat)).testBit j = true ↔ j = e := by
  rw [Nat.testBit_shiftLeft]
  simp only [Bool.and_eq_true, decide_eq_true_eq]
  constructor
  · rintro ⟨h1, h2⟩
    have := Nat.testBit_one_eq_true_iff_self_eq_zero.1 h2
    omega
  · rintro rfl
    exact ⟨Nat.le_refl _, by simp⟩

theorem maskOf_spec (acc : List Nat) : ∀ (es : List Edge) (m0 m : Nat), maskOf acc es m0 = some m →
    (∀ j, m.testBit j = true → m0.testBit j = true ∨ ∃ e ∈ es, Region.binds .any e = true ∧ e.on < acc.length ∧ (j = e.on ∨ ∃ b, acc[e.on]? = some b ∧ b.testBit j = true)) ∧
    (∀ e ∈ es, Region.binds .any e = true → e.on < acc.length)
  | [], m0, m, h => by
    injection h with h; subst h
    exact ⟨fun j hj => .inl hj, fun e he => by cases he⟩
  | e :: es, m0, m, h => by
    unfold maskOf at h
    cases hb : Region.binds .any e
    · rw [hb] at h
      simp only [cond_false] at h
      obtain ⟨h1, h2⟩ := maskOf_spec acc es m0 m h
      refine ⟨fun j hj => ?_, fun e' he' hb' => ?_⟩
      · rcases h1 j hj with h3 | ⟨e', he', h4⟩
        · exact .inl h3
        · exact .inr ⟨e', List.mem_cons_of_mem _ he', h4⟩
      · rcases List.mem_cons.1 he' with rfl | he'
        · rw [hb] at hb'; cases hb'
        · exact h2 e' he' hb'
    · rw [hb] at h
      simp only [cond_true] at h
      split at h
      · rename_i b hbb
        have hlt : e.on < acc.length := (List.getElem?_eq_some_iff.1 hbb).1
        obtain ⟨h1, h2⟩ := maskOf_spec acc es _ m h
        refine ⟨fun j hj => ?_, fun e' he' hb' => ?_⟩
        · rcases h1 j hj with h3 | ⟨e', he', h4⟩
          · rw [Nat.testBit_or, Nat.testBit_or, Bool.or_eq_true, Bool.or_eq_true] at h3
            rcases h3 with h3 | h3 | h3
            · exact .inl h3
            · exact .inr ⟨e, List.mem_cons_self, hb, hlt, .inr ⟨b, hbb, h3⟩⟩
            · exact .inr ⟨e, List.mem_cons_self, hb, hlt, .inl ((bit_one _ _).1 h3)⟩
          · exact .inr ⟨e', List.mem_cons_of_mem _ he', h4⟩
        · rcases List.mem_cons.1 he' with rfl | he'
          · exact hlt
          · exact h2 e' he' hb'
      · cases h

theorem drawMasks_spec : ∀ (rest : List Oper) (acc ms : List Nat), drawMasks rest acc = some ms →
    ms.length = acc.length + rest.length ∧ (∀ i, i < acc.length → ms[i]? = acc[i]?) ∧
    ∀ k o, rest[k]? = some o → ∃ m, ms[acc.length + k]? = some m ∧ maskOf (ms.take (acc.length + k)) o.after.toList 0 = some m
  | [], acc, ms, h => by
    injection h with h; subst h
    exact ⟨by simp, fun _ _ => rfl, fun k o ho => by simp at ho⟩
  | o :: rest, acc, ms, h => by
    unfold drawMasks at h
    split at h
    · rename_i m hm
      obtain ⟨h1, h2, h3⟩ := drawMasks_spec rest (acc ++ [m]) ms h
      have hlen : (acc ++ [m]).length = acc.length + 1 := by simp
      rw [hlen] at h1 h2 h3
      have hpre : ∀ i, i < acc.length → ms[i]? = acc[i]? := fun i hi => by
        rw [h2 i (by omega), List.getElem?_append_left hi]
      refine ⟨by rw [h1]; simp; omega, hpre, fun k o' ho => ?_⟩
      cases k with
      | zero =>
        simp at ho; subst ho
        refine ⟨m, by rw [Nat.add_zero, h2 _ (by omega)]; simp, ?_⟩
        have : ms.take (acc.length + 0) = acc := by
          apply List.ext_getElem?
          intro i
          rw [List.getElem?_take]
          split
          · exact hpre i (by omega)
          · rw [List.getElem?_eq_none (by omega)]
        rw [this]; exact hm
      | succ k =>
        obtain ⟨m', a1, a2⟩ := h3 k o' (by simpa using ho)
        have : acc.length + 1 + k = acc.length + (k + 1) := by omega
        rw [this] at a1 a2
        exact ⟨m', a1, a2⟩
    · cases h

/-- What the masks of a region say. -/
theorem masks_at {ops : Array Oper} {ms : List Nat} (h : drawMasks ops.toList [] = some ms) {k : Nat} {o : Oper} (ho : ops[k]? = some o) :
    ∃ m, ms[k]? = some m ∧ (∀ e ∈ o.after, Region.binds .any e = true → e.on < k) ∧
      ∀ j, m.testBit j = true → ∃ e ∈ o.after, Region.binds .any e = true ∧ e.on < k ∧ (j = e.on ∨ ∃ b, ms[e.on]? = some b ∧ b.testBit j = true) := by
  obtain ⟨h1, h2, h3⟩ := drawMasks_spec ops.toList [] ms h
  obtain ⟨m, a1, a2⟩ := h3 k o (by simpa using ho)
  simp only [List.length_nil, Nat.zero_add] at a1 a2 h1
  obtain ⟨b1, b2⟩ := maskOf_spec _ _ _ _ a2
  have hk : k < ms.length := (List.getElem?_eq_some_iff.1 a1).1
  have hlen : (ms.take k).length = k := by rw [List.length_take]; omega
  rw [hlen] at b1 b2
  refine ⟨m, a1, fun e he hb => b2 e (by simpa using he) hb, fun j hj => ?_⟩
  rcases b1 j hj with h0 | ⟨e, he, hb, hlt, hx⟩
  · simp at h0
  · refine ⟨e, by simpa using he, hb, hlt, ?_⟩
    rcases hx with rfl | ⟨b, hb1, hb2⟩
    · exact .inl rfl
    · rw [List.getElem?_take] at hb1
      rw [if_pos hlt] at hb1
      exact .inr ⟨b, hb1, hb2⟩

/-- A set of operations that holds what its members wait for. -/
def Closed (ops : Array Oper) (S : Nat → Prop) : Prop := ∀ i o, S i → ops[i]? = some o → ∀ e ∈ o.after, Region.binds .any e = true → S e.on

theorem mask_ready {ops : Array Oper} {ms : List Nat} (h : drawMasks ops.toList [] = some ms) {S : Nat → Prop} (hS : Closed ops S) : ∀ (k : Nat) (o : Oper) (m : Nat), ops[k]? = some o → ms[k]? = some m →
    (∀ e ∈ o.after, Region.binds .any e = true → S e.on) → ∀ j, m.testBit j = true → S j ∧ j < k := by
  intro k
  induction k using Nat.strongRecOn with
  | ind k ih =>
    intro o m ho hm hr j hj
    obtain ⟨m', a1, a2, a3⟩ := masks_at h ho
    rw [hm] at a1; injection a1 with a1; subst a1
    obtain ⟨e, he, hb, hlt, hx⟩ := a3 j hj
    rcases hx with rfl | ⟨b, hb1, hb2⟩
    · exact ⟨hr e he hb, hlt⟩
    · have hlen := (drawMasks_spec ops.toList [] ms h).1
      have hk : e.on < ops.size := by
        have := (List.getElem?_eq_some_iff.1 hb1).1
        simp at hlen; omega
      have hoe : ops[e.on]? = some ops[e.on] := Array.getElem?_eq_getElem hk
      have := ih e.on hlt _ b hoe hb1 (fun e' he' hb' => hS e.on _ (hr e he hb) hoe e' he' hb') j hb2
      exact ⟨this.1, by omega⟩

theorem mask_lt {ops : Array Oper} {ms : List Nat} (h : drawMasks ops.toList [] = some ms) {k : Nat} {o : Oper} {m : Nat} (ho : ops[k]? = some o) (hm : ms[k]? = some m) {j : Nat} (hj : m.testBit j = true) : j < k :=
  (mask_ready h (S := fun _ => True) (fun _ _ _ _ _ _ _ => trivial) k o m ho hm (fun _ _ _ => trivial) j hj).2

end Go.Vd

/- The order of the text in a drawn region. -/
namespace Go.Vd
variable {B : Base} {φ : Phi} {h : Heap} {P : Program} {w : World} {E : Env}

def loudFrom (ds : List Nat) (k : Nat) (l : List Oper) : List Nat := ((l.zipIdx k).filter fun p => !isle ds p.1 && !quietOp p.1.op).map (·.2)

theorem loudFrom_cons (ds : List Nat) (k : Nat) (o : Oper) (l : List Oper) (hi : isle ds o = false) : loudFrom ds k (o :: l) = if quietOp o.op = true then loudFrom ds (k + 1) l else k :: loudFrom ds (k + 1) l := by
  unfold loudFrom
  rw [List.zipIdx_cons, List.filter_cons]
  cases quietOp o.op <;> simp [hi]
theorem loudFrom_isle (ds : List Nat) (k : Nat) (o : Oper) (l : List Oper) (hi : isle ds o = true) : loudFrom ds k (o :: l) = loudFrom ds (k + 1) l := by
  unfold loudFrom
  rw [List.zipIdx_cons, List.filter_cons]
  simp [hi]

def Agree (ops : Array Oper) (o : Oper) (tm fin : Tm) : Prop := ∀ t ∈ looksTo ops.toList o, tm.get t = fin.get t

theorem Agree.evR {ops : Array Oper} {o : Oper} {tm fin : Tm} (h : Agree ops o tm fin) : ∀ x ∈ o.op.operands.toList, evR tm x = evR fin x := by
  intro x hx
  cases x with
  | tmp t =>
    show (tm.get t).getD undef = (fin.get t).getD undef
    rw [h t (by unfold looksTo; exact List.mem_append_left _ (List.mem_filterMap.2 ⟨.tmp t, hx, rfl⟩))]
  | _ => rfl

theorem Agree.wanted {ops : Array Oper} {o : Oper} {tm fin : Tm} (h : Agree ops o tm fin) : wantedT ops tm o = wantedT ops fin o := by
  unfold wantedT wantedV
  cases hg : o.guard with
  | none => rfl
  | some p =>
    obtain ⟨j, b⟩ := p
    simp only
    cases ho : ops[j]? with
    | none => rfl
    | some o' =>
      cases hd : o'.dst with
      | none => simp [hd]
      | some d =>
        have : tm.get d = fin.get d := h d (by unfold looksTo; rw [hg]; simp [ho, hd])
        simp [hd, this]

def LoudAt (E : Env) (cf : Nat → List Value → Heap → Option CR) (ops : Array Oper) (fin : Tm) (o : Oper) (h1 h2 : Heap) : Prop :=
  (wantedT ops fin o = true → ∃ tm, Agree ops o tm fin ∧ ∃ v, (∀ d, o.dst = some d → fin.get d = some v) ∧
    (evOp E h1 (evR tm) o.op = some (.val v h2) ∨ ∃ f args h', evOp E h1 (evR tm) o.op = some (.call f args h') ∧ cf f args h' = some (.ret v h2))) ∧
  (wantedT ops fin o = false → h2 = h1)

theorem putT_get_ne {tm : Tm} {dst : Option Nat} {v : Value} {t : Nat} (h : dst ≠ some t) : (putT tm dst v).get t = tm.get t := by
  cases dst with
  | none => rfl
  | some d => exact Tm.get_set_ne tm v (fun e => h (by rw [e]))

theorem looksOk_writer {ops : List Oper} {m : Nat} {o : Oper} (h : looksOk ops m o = true) {t : Nat} (ht : t ∈ looksTo ops o) {j : Nat} {oj : Oper} (hj : ops[j]? = some oj) (hd : oj.dst = some t) : m.testBit j = true := by
  unfold looksOk at h
  rw [List.all_eq_true] at h
  have h1 := h t ht
  rw [List.all_eq_true] at h1
  have h2 := h1 (oj, j) (by rw [List.mem_zipIdx_iff_getElem?]; simpa using hj)
  rw [hd] at h2
  simpa [Nat.beq_refl] using h2

theorem dstsOk_spec : ∀ {ops : List Oper}, dstsOk ops = true → ∀ {i j : Nat} {oi oj : Oper} {d : Nat}, ops[i]? = some oi → ops[j]? = some oj → i < j → oi.dst = some d → oj.dst ≠ some d
  | [], _, i, j, oi, oj, d, hi, _, _, _ => by simp at hi
  | o :: rest, h, i, j, oi, oj, d, hi, hj, hlt, hd => by
    unfold dstsOk at h
    rw [Bool.and_eq_true] at h
    cases i with
    | zero =>
      simp at hi; subst hi
      cases j with
      | zero => omega
      | succ j =>
        intro hd'
        rw [hd] at h
        have h1 := h.1
        rw [List.all_eq_true] at h1
        have := h1 oj (List.mem_of_getElem? (by simpa using hj))
        rw [hd'] at this
        simp [Nat.beq_refl] at this
    | succ i =>
      cases j with
      | zero => omega
      | succ j => exact dstsOk_spec h.2 (by simpa using hi) (by simpa using hj) (by omega) hd

theorem evRef_facts {cf : Nat → List Value → Heap → Option CR} {ops : Array Oper} {ds : List Nat} {ms : List Nat} (hms : drawMasks ops.toList [] = some ms)
    (hlooks : ∀ (k : Nat) (o : Oper) (m : Nat), ops[k]? = some o → ms[k]? = some m → isle ds o = false → looksOk ops.toList m o = true) (hdst : dstsOk ops.toList = true) {fin : Tm} : ∀ (rest : List Oper) (k : Nat) (tm : Tm) (h : Heap) (hs : List Heap),
    evRef E cf ops ds rest tm h = some (fin, hs) → ops.toList.drop k = rest →
    (∀ t, (∀ o ∈ rest, isle ds o = false → o.dst ≠ some t) → fin.get t = tm.get t) ∧
    hs.length = (loudFrom ds k rest).length ∧
    (∀ p l, (loudFrom ds k rest)[p]? = some l → ∃ o h1 h2, ops[l]? = some o ∧ isle ds o = false ∧ quietOp o.op = false ∧ (h :: hs)[p]? = some h1 ∧ (h :: hs)[p + 1]? = some h2 ∧ LoudAt E cf ops fin o h1 h2) ∧
    (∀ o ∈ rest, isle ds o = false → wantedT ops fin o = false → ∀ d, o.dst = some d → fin.get d = some undef)
  | [], k, tm, h, hs, hev, hk => by
    injection hev with hev
    simp only [Prod.mk.injEq] at hev
    obtain ⟨rfl, rfl⟩ := hev
    exact ⟨fun _ _ => rfl, rfl, fun p l hl => by simp [loudFrom] at hl, fun o ho => by cases ho⟩
  | o :: rest, k, tm, h, hs, hev, hk => by
    have hko : ops[k]? = some o := by
      have : (ops.toList.drop k)[0]? = some o := by rw [hk]; rfl
      rw [List.getElem?_drop] at this
      simpa using this
    have hrest : ops.toList.drop (k + 1) = rest := by
      rw [← List.tail_drop, hk]; rfl
    cases hi : isle ds o with
    | true =>
      unfold evRef at hev
      rw [hi] at hev
      simp only [cond_true] at hev
      obtain ⟨a1, a2, a3, a4⟩ := evRef_facts hms hlooks hdst rest (k + 1) tm h hs hev hrest
      rw [loudFrom_isle _ _ _ _ hi]
      refine ⟨fun t ht => a1 t fun o' ho' => ht o' (List.mem_cons_of_mem _ ho'), a2, a3, fun o' ho' hio => ?_⟩
      rcases List.mem_cons.1 ho' with rfl | ho'
      · rw [hi] at hio; cases hio
      · exact a4 o' ho' hio
    | false =>
    have hat : ∀ o' ∈ rest, ∃ j, k < j ∧ ops[j]? = some o' := by
      intro o' ho'
      obtain ⟨i, hi⟩ := List.getElem?_of_mem ho'
      rw [← hrest, List.getElem?_drop] at hi
      exact ⟨k + 1 + i, by omega, by simpa using hi⟩
    have hlate : ∀ d, o.dst = some d → ∀ o' ∈ rest, o'.dst ≠ some d := by
      intro d hd o' ho'
      obtain ⟨j, hj, hoj⟩ := hat o' ho'
      exact dstsOk_spec hdst (by simpa using hko) (by simpa using hoj) hj hd
    obtain ⟨m, hm, _, _⟩ := masks_at hms hko
    have hlk := hlooks k o m hko hm hi
    -- what it looks at is not written from here on
    have hagree : (∀ t, (∀ o' ∈ o :: rest, isle ds o' = false → o'.dst ≠ some t) → fin.get t = tm.get t) → Agree ops o tm fin := by
      intro hd t ht
      refine (hd t ?_).symm
      intro o' ho' _ hd'
      rcases List.mem_cons.1 ho' with rfl | ho'
      · have := mask_lt hms hko hm (looksOk_writer hlk ht (by simpa using hko) hd')
        omega
      · obtain ⟨j, hj, hoj⟩ := hat o' ho'
        have := mask_lt hms hko hm (looksOk_writer hlk ht (by simpa using hoj) hd')
        omega
    -- the rest, behind a put
    have step : ∀ (v : Value) (h' : Heap) (hs' : List Heap), evRef E cf ops ds rest (putT tm o.dst v) h' = some (fin, hs') →
        (∀ t, (∀ o' ∈ o :: rest, isle ds o' = false → o'.dst ≠ some t) → fin.get t = tm.get t) ∧ (∀ d, o.dst = some d → fin.get d = some v) := by
      intro v h' hs' he
      obtain ⟨a1, _⟩ := evRef_facts hms hlooks hdst rest (k + 1) _ h' hs' he hrest
      refine ⟨fun t ht => ?_, fun d hd => ?_⟩
      · rw [a1 t (fun o' ho' => ht o' (List.mem_cons_of_mem _ ho')), putT_get_ne (ht o List.mem_cons_self hi)]
      · rw [a1 d (fun o' ho' _ => hlate d hd o' ho'), hd]
        exact Tm.get_set_same _ _ _
    have quiet : ∀ (v : Value), quietOp o.op = true → (wantedT ops fin o = false → v = undef) → evRef E cf ops ds rest (putT tm o.dst v) h = some (fin, hs) →
        (∀ t, (∀ o' ∈ o :: rest, isle ds o' = false → o'.dst ≠ some t) → fin.get t = tm.get t) ∧ hs.length = (loudFrom ds k (o :: rest)).length ∧
        (∀ p l, (loudFrom ds k (o :: rest))[p]? = some l → ∃ o h1 h2, ops[l]? = some o ∧ isle ds o = false ∧ quietOp o.op = false ∧ (h :: hs)[p]? = some h1 ∧ (h :: hs)[p + 1]? = some h2 ∧ LoudAt E cf ops fin o h1 h2) ∧
        (∀ o' ∈ o :: rest, isle ds o' = false → wantedT ops fin o' = false → ∀ d, o'.dst = some d → fin.get d = some undef) := by
      intro v hq hv he
      obtain ⟨s1, s2⟩ := step v h hs he
      obtain ⟨_, a2, a3, a4⟩ := evRef_facts hms hlooks hdst rest (k + 1) _ h hs he hrest
      rw [loudFrom_cons _ _ _ _ hi, if_pos hq]
      refine ⟨s1, a2, a3, fun o' ho' hio hw d hd => ?_⟩
      rcases List.mem_cons.1 ho' with rfl | ho'
      · rw [s2 d hd, hv hw]
      · exact a4 o' ho' hio hw d hd
    have loud : ∀ (v : Value) (h' : Heap) (hs' : List Heap), quietOp o.op = false → hs = h' :: hs' → (wantedT ops fin o = false → v = undef) → evRef E cf ops ds rest (putT tm o.dst v) h' = some (fin, hs') →
        ((Agree ops o tm fin) → (∀ d, o.dst = some d → fin.get d = some v) → LoudAt E cf ops fin o h h') →
        (∀ t, (∀ o' ∈ o :: rest, isle ds o' = false → o'.dst ≠ some t) → fin.get t = tm.get t) ∧ hs.length = (loudFrom ds k (o :: rest)).length ∧
        (∀ p l, (loudFrom ds k (o :: rest))[p]? = some l → ∃ o h1 h2, ops[l]? = some o ∧ isle ds o = false ∧ quietOp o.op = false ∧ (h :: hs)[p]? = some h1 ∧ (h :: hs)[p + 1]? = some h2 ∧ LoudAt E cf ops fin o h1 h2) ∧
        (∀ o' ∈ o :: rest, isle ds o' = false → wantedT ops fin o' = false → ∀ d, o'.dst = some d → fin.get d = some undef) := by
      intro v h' hs' hq hhs hv he hl
      subst hhs
      obtain ⟨s1, s2⟩ := step v h' hs' he
      obtain ⟨_, a2, a3, a4⟩ := evRef_facts hms hlooks hdst rest (k + 1) _ h' hs' he hrest
      rw [loudFrom_cons _ _ _ _ hi, if_neg (by rw [hq]; simp)]
      refine ⟨s1, by simp [a2], fun p l hpl => ?_, fun o' ho' hio hw d hd => ?_⟩
      · cases p with
        | zero =>
          simp at hpl; subst hpl
          exact ⟨o, h, h', hko, hi, hq, rfl, rfl, hl (hagree s1) s2⟩
        | succ p => exact a3 p l (by simpa using hpl)
      · rcases List.mem_cons.1 ho' with rfl | ho'
        · rw [s2 d hd, hv hw]
        · exact a4 o' ho' hio hw d hd
    unfold evRef at hev
    rw [hi] at hev
    simp only [cond_false] at hev
    cases hw : wantedT ops tm o
    · rw [hw] at hev
      simp only [cond_false] at hev
      cases hq : quietOp o.op
      · rw [hq] at hev
        simp only [cond_false] at hev
        split at hev
        · rename_i t l he
          injection hev with hev
          simp only [Prod.mk.injEq] at hev
          obtain ⟨rfl, rfl⟩ := hev
          refine loud undef h l hq rfl (fun _ => rfl) he (fun ha hd => ⟨fun hw' => ?_, fun _ => rfl⟩)
          rw [← ha.wanted, hw] at hw'; cases hw'
        · cases hev
      · rw [hq] at hev
        simp only [cond_true] at hev
        exact quiet undef hq (fun _ => rfl) hev
    · rw [hw] at hev
      simp only [cond_true] at hev
      have hwf : ∀ (v : Value) (h' : Heap) (hs' : List Heap), evRef E cf ops ds rest (putT tm o.dst v) h' = some (fin, hs') → wantedT ops fin o = true := fun v h' hs' he => by
        rw [← (hagree (step v h' hs' he).1).wanted]; exact hw
      split at hev
      · rename_i v h' hop
        cases hq : quietOp o.op
        · rw [hq] at hev
          simp only [cond_false] at hev
          split at hev
          · rename_i t l he
            injection hev with hev
            simp only [Prod.mk.injEq] at hev
            obtain ⟨rfl, rfl⟩ := hev
            have hwt := hwf v h' l he
            refine loud v h' l hq rfl (fun hw' => by rw [hwt] at hw'; cases hw') he (fun ha hd => ⟨fun _ => ⟨tm, ha, v, hd, .inl hop⟩, fun hw' => by rw [hwt] at hw'; cases hw'⟩)
          · cases hev
        · rw [hq] at hev
          simp only [cond_true] at hev
          have hwt := hwf v h hs hev
          exact quiet v hq (fun hw' => by rw [hwt] at hw'; cases hw') hev
      · rename_i f args h1 hop
        cases hq : quietOp o.op
        · rw [hq] at hev
          simp only [cond_false] at hev
          split at hev
          · rename_i v h' hcf
            split at hev
            · rename_i t l he
              injection hev with hev
              simp only [Prod.mk.injEq] at hev
              obtain ⟨rfl, rfl⟩ := hev
              have hwt := hwf v h' l he
              refine loud v h' l hq rfl (fun hw' => by rw [hwt] at hw'; cases hw') he (fun ha hd => ⟨fun _ => ⟨tm, ha, v, hd, .inr ⟨f, args, h1, hop, hcf⟩⟩, fun hw' => by rw [hwt] at hw'; cases hw'⟩)
            · cases hev
          · cases hev
        · rw [hq] at hev; cases hev
      · cases hev

end Go.Vd

/- Quiet operations. -/
namespace Go.Vd
variable {B : Base} {φ : Phi} {h : Heap} {P : Program} {w : World} {E : Env}

def Still (h : Heap) (r : Option OpR) : Prop := ∀ v h', r = some (.val v h') → h'.next = h.next → h' = h

theorem Still.none : Still h none := fun v h' e => by cases e
theorem Still.val (v : Value) : Still h (some (.val v h)) := fun v' h' e _ => by injection e with e; injection e with e1 e2; exact e2.symm
theorem Still.rV (o : Option Value) : Still h (rV h o) := by
  cases o with
  | none => exact Still.none
  | some v => exact Still.val v
theorem Still.cond {b : Bool} {x y : Option OpR} (hx : Still h x) (hy : Still h y) : Still h (bif b then x else y) := by cases b <;> assumption


def Still2 (h : Heap) (r : Option (Value × Heap)) : Prop := ∀ v h', r = some (v, h') → h'.next = h.next → h' = h
theorem Still2.none : Still2 h none := fun v h' e => by cases e
theorem Still2.val (v : Value) : Still2 h (some (v, h)) := fun v' h' e _ => by injection e with e; injection e with e1 e2; exact e2.symm
theorem Still2.more (v : Value) (h1 : Heap) (hn : h1.next = h.next + 1) : Still2 h (some (v, h1)) := fun v' h' e he => by
  injection e with e; injection e with e1 e2; subst e2; omega
theorem Still2.cond {b : Bool} {x y : Option (Value × Heap)} (hx : Still2 h x) (hy : Still2 h y) : Still2 h (bif b then x else y) := by cases b <;> assumption

theorem still_conv (hs : Option TI) (hd : Option TI) (x : Value) : Still h (rVH (convV E h hs hd x)) := by
  have key : Still2 h (convV E h hs hd x) := by
    unfold convV convInt convStr convSl rBytes
    (repeat' (first | exact Still2.none | exact Still2.val _ | exact Still2.more _ _ rfl | refine Still2.cond ?_ ?_ | split))
  intro v h' e hn
  cases hc : convV E h hs hd x with
  | none => rw [hc] at e; cases e
  | some p =>
    rw [hc] at e
    obtain ⟨a, b⟩ := p
    injection e with e
    injection e with e1 e2
    subst e2
    exact key a b hc hn

theorem quiet_still {ρ : Operand → Value} {o : Op} (hq : quietOp o = true) : Still h (evOp E h ρ o) := by
  unfold evOp
  cases o with
  | convert s d x => exact still_conv _ _ _
  | call c =>
    unfold quietOp at hq
    simp only at hq
    simp only [oCall]
    split at hq
    · rename_i hc; rw [hc]; simp only [evBuiltin]; unfold oLen oLenS oLenL oLenM; (repeat' (first | exact Still.none | exact Still.val _ | exact Still.rV _ | refine Still.cond ?_ ?_ | split))
    · rename_i hc; rw [hc]; simp only [evBuiltin]; unfold oCap oCapL; (repeat' (first | exact Still.none | exact Still.val _ | exact Still.rV _ | refine Still.cond ?_ ?_ | split))
    · cases hq
  | _ => first
    | (cases hq; done)
    | exact Still.val _
    | exact Still.rV _
    | (simp only [oPick]; (repeat' (first | exact Still.none | exact Still.val _ | exact Still.rV _ | refine Still.cond ?_ ?_ | split)); done)
    | (simp only [oLoad]; (repeat' (first | exact Still.none | exact Still.val _ | exact Still.rV _ | refine Still.cond ?_ ?_ | split)); done)
    | (simp only [oNilCheck]; (repeat' (first | exact Still.none | exact Still.val _ | exact Still.rV _ | refine Still.cond ?_ ?_ | split)); done)
    | (unfold oBin; (repeat' (first | exact Still.none | exact Still.val _ | exact Still.rV _ | refine Still.cond ?_ ?_ | split)); done)
    | (simp only [oUn]; (repeat' (first | exact Still.none | exact Still.val _ | exact Still.rV _ | refine Still.cond ?_ ?_ | split)); done)
    | (simp only [oIface]; (repeat' (first | exact Still.none | exact Still.val _ | exact Still.rV _ | refine Still.cond ?_ ?_ | split)); done)
    | (simp only [oFunc]; (repeat' (first | exact Still.none | exact Still.val _ | exact Still.rV _ | refine Still.cond ?_ ?_ | split)); done)
    | (simp only [oFieldAddr]; (repeat' (first | exact Still.none | exact Still.val _ | exact Still.rV _ | refine Still.cond ?_ ?_ | split)); done)
    | (simp only [oField]; (repeat' (first | exact Still.none | exact Still.val _ | exact Still.rV _ | refine Still.cond ?_ ?_ | split)); done)
    | (simp only [oIndexAddr, rPtr]; (repeat' (first | exact Still.none | exact Still.val _ | exact Still.rV _ | refine Still.cond ?_ ?_ | split)); done)
    | (simp only [oIndex, rByte]; (repeat' (first | exact Still.none | exact Still.val _ | exact Still.rV _ | refine Still.cond ?_ ?_ | split)); done)
    | (simp only [oLookup, rLook]; (repeat' (first | exact Still.none | exact Still.val _ | exact Still.rV _ | refine Still.cond ?_ ?_ | split)); done)
    | (simp only [oAssert]; (repeat' (first | exact Still.none | exact Still.val _ | exact Still.rV _ | refine Still.cond ?_ ?_ | split)); done)
    | (simp only [oExtract]; (repeat' (first | exact Still.none | exact Still.val _ | exact Still.rV _ | refine Still.cond ?_ ?_ | split)); done)
    | (repeat' (first | exact Still.none | exact Still.val _ | exact Still.rV _ | refine Still.cond ?_ ?_ | split))
end Go.Vd

/- Values written the same way. -/
namespace Go.Vd

theorem veq_go {n : Nat} (ih : ∀ a b, veq n a b = true → a = b) : ∀ xs ys, veq.go n xs ys = true → xs = ys
  | [], [], _ => rfl
  | x :: xs, y :: ys, h => by
    unfold veq.go at h
    rw [Bool.and_eq_true] at h
    rw [ih x y h.1, veq_go ih xs ys h.2]
  | [], _ :: _, h => by cases h
  | _ :: _, [], h => by cases h

theorem veq_sound : ∀ (n : Nat) (a b : Value), veq n a b = true → a = b := by
  intro n
  induction n with
  | zero => intro a b h; simp [veq] at h
  | succ n ih =>
    intro a b h
    unfold veq at h
    split at h
    · simpa using h
    · simpa using h
    · rename_i s t
      have h2 : s.data.toList = t.data.toList := by simpa using h
      have h3 : s.data = t.data := Array.toList_inj.1 h2
      cases s; cases t; simp at h3; rw [h3]
    · rfl
    · simp only [Bool.and_eq_true] at h
      rw [beq_eq h.1, beq_eq h.2]
    · simp only [Bool.and_eq_true] at h
      rw [beq_eq h.1, beq_eq h.2]
    · simp only [Bool.and_eq_true] at h
      obtain ⟨⟨⟨⟨h1, h2⟩, h3⟩, h4⟩, h5⟩ := h
      rw [beq_eq h1, beq_eq h2, beq_eq h3, beq_eq h4, beq_eq h5]
    · rfl
    · rw [beq_eq h]
    · simp only [Bool.and_eq_true] at h
      obtain ⟨⟨h1, h2⟩, h3⟩ := h
      rw [beq_eq h1, Array.toList_inj.1 (veq_go ih _ _ h2), Array.toList_inj.1 (veq_go ih _ _ h3)]
    · rfl
    · simp only [Bool.and_eq_true] at h
      rw [beq_eq h.1, ih _ _ h.2]
    · rfl
    · rw [Array.toList_inj.1 (veq_go ih _ _ h)]
    · rw [Array.toList_inj.1 (veq_go ih _ _ h)]
    · cases h

end Go.Vd

/- A region in any order. -/
namespace Go.Vd
variable {B : Base} {φ : Phi} {h : Heap} {P : Program} {w : World} {E : Env}

theorem wanted_of {φ : Phi} {tm : Tm} {tmps : Array Value} (ops : Array Oper) (o : Oper) (H : ∀ d ∈ looksTo ops.toList o, VR φ ((tm.get d).getD undef) (tmps.getD d undef)) :
    Region.wanted o (yielded ops tmps) = wantedT ops tm o := by
  unfold Region.wanted wantedT wantedV
  cases hg : o.guard with
  | none => rfl
  | some p =>
    obtain ⟨j, want⟩ := p
    simp only
    unfold yielded
    cases hd : (ops[j]?).bind (·.dst) with
    | none => rfl
    | some d =>
      simp only [Option.bind_some]
      have hmem : d ∈ looksTo ops.toList o := by
        unfold looksTo
        rw [hg]
        cases ho : ops[j]? with
        | none => rw [ho] at hd; cases hd
        | some o' =>
          rw [ho] at hd
          have hd' : o'.dst = some d := hd
          simp [ho, hd']
      have ht := H d hmem
      have hget : tmps.getD d undef = (tmps[d]?).getD undef := by rw [Array.getD_eq_getD_getElem?]
      rw [hget] at ht
      have key : ∀ b : Bool, (tm.get d = some (.bool b)) ↔ (tmps[d]? = some (.bool b)) := by
        intro b
        have := ht.bool_iff b
        constructor
        · intro h
          rw [h] at this
          have h2 := this.1 rfl
          cases hx : tmps[d]? with
          | none => rw [hx] at h2; cases h2
          | some x => rw [hx] at h2; exact congrArg some h2
        · intro h
          rw [h] at this
          have h2 := this.2 rfl
          cases hx : tm.get d with
          | none => rw [hx] at h2; cases h2
          | some x => rw [hx] at h2; exact congrArg some h2
      cases hx : tmps[d]? with
      | none =>
        simp only
        split
        · rename_i v b hb
          have := (key b).1 hb
          rw [hx] at this; cases this
        · rfl
      | some x =>
        cases x <;> first
          | (simp only
             split
             · rename_i v b hb
               have := (key b).1 hb
               rw [hx] at this; cases this
             · rfl)
          | skip
        rename_i b
        rw [(key b).2 hx]
        cases b <;> cases want <;> rfl

theorem count_false_set : ∀ (l : List Bool) (i n : Nat), l[i]? = some false → l.count false = n + 1 → (l.set i true).count false = n
  | [], i, n, h, _ => by simp at h
  | b :: l, 0, n, h, hc => by
    simp at h; subst h
    simpa using hc
  | b :: l, i + 1, n, h, hc => by
    have hmem : false ∈ l := List.mem_of_getElem? (by simpa using h)
    have hpos : 0 < l.count false := List.count_pos_iff.2 hmem
    cases b with
    | true =>
      have := count_false_set l i n (by simpa using h) (by simpa using hc)
      simpa using this
    | false =>
      simp at hc
      have hn : n = (n - 1) + 1 := by omega
      have := count_false_set l i (n - 1) (by simpa using h) (by omega)
      simp [this]; omega

theorem between_of {ms : List Nat} {k mk : Nat} : ∀ (loud : List Nat) (m : Nat), (∀ (p l : Nat), loud[p]? = some l → p < m → (ms.getD l 0).testBit k = false) → (∀ (p l : Nat), loud[p]? = some l → m ≤ p → mk.testBit l = false) → between ms k mk loud m = true
  | [], m, _, _ => by cases m <;> rfl
  | l :: ls, 0, h1, h2 => by
    unfold between
    rw [h2 0 l rfl (Nat.le_refl _), between_of ls 0 (fun p l _ hp => by omega) (fun p l hl hp => h2 (p + 1) l (by simpa using hl) (by omega))]
    rfl
  | l :: ls, m + 1, h1, h2 => by
    unfold between
    rw [h1 0 l rfl (by omega), between_of ls m (fun p l hl hp => h1 (p + 1) l (by simpa using hl) (by omega)) (fun p l hl hp => h2 (p + 1) l (by simpa using hl) (by omega))]
    rfl

theorem chained_spec {ms : List Nat} : ∀ {loud : List Nat}, chained ms loud = true → ∀ (p a b : Nat), loud[p]? = some a → loud[p + 1]? = some b → (ms.getD b 0).testBit a = true
  | [], _, p, a, b, ha, _ => by simp at ha
  | [x], _, p, a, b, ha, hb => by simp at hb
  | x :: y :: r, h, p, a, b, ha, hb => by
    unfold chained at h
    rw [Bool.and_eq_true] at h
    cases p with
    | zero => simp at ha hb; subst ha hb; exact h.1
    | succ p => exact chained_spec h.2 p a b (by simpa using ha) (by simpa using hb)

theorem quietAll_spec {ms loud : List Nat} {fin : Tm} {k mk : Nat} {o : Oper} : ∀ (hs : List Heap) (m0 : Nat), quietAll E ms loud fin k mk o m0 hs = true → ∀ (m : Nat) (hm : Heap), hs[m]? = some hm → between ms k mk loud (m0 + m) = true → quietAt E fin o hm = true
  | [], m0, _, m, hm, h, _ => by simp at h
  | x :: hs, m0, h, m, hm, hg, hb => by
    unfold quietAll at h
    rw [Bool.and_eq_true] at h
    cases m with
    | zero =>
      simp at hg; subst hg
      have h1 := h.1
      rw [show m0 + 0 = m0 from rfl] at hb
      rw [hb] at h1
      exact h1
    | succ m => exact quietAll_spec hs (m0 + 1) h.2 m hm (by simpa using hg) (by rw [← hb]; congr 1; omega)

theorem quietsOk_spec {ops : Array Oper} {ds : List Nat} {ms loud : List Nat} {fin : Tm} {hs : List Heap} : ∀ (l : List Oper) (k : Nat), quietsOk E ops ds ms loud fin hs k l = true → ∀ (i : Nat) (o : Oper), l[i]? = some o → isle ds o = false → quietOp o.op = true → wantedT ops fin o = true → quietAll E ms loud fin (k + i) (ms.getD (k + i) 0) o 0 hs = true
  | [], k, _, i, o, h, _, _, _ => by simp at h
  | x :: l, k, h, i, o, hi, hs, hq, hw => by
    unfold quietsOk at h
    rw [Bool.and_eq_true] at h
    cases i with
    | zero =>
      simp at hi; subst hi
      have h1 := h.1
      rw [hs, hq, hw] at h1
      exact h1
    | succ i =>
      have := quietsOk_spec l (k + 1) h.2 i o (by simpa using hi) hs hq hw
      rw [show k + (i + 1) = k + 1 + i from by omega]
      exact this

end Go.Vd

/- Blocks laid aside, and taken up. -/
namespace Go.Vd
variable {B : Base} {φ : Phi} {h : Heap} {H : Array Obj} {P : Program} {w : World} {E : Env}

theorem Row.orNe {c : List Value} {b : BI} {M : Loc} (W : Row B φ h H c b M) {L : Nat} (hL : B.isl L) : M.blk ≠ L := by
  intro e
  cases hro : b.ro with
  | true => exact (W.old hro).1.2 (e ▸ hL)
  | false => exact (W.mine hro).1 (.inr (e ▸ hL))

/-- A row, where only a block laid aside is another, under another base. -/
theorem Row.rebase {B2 : Base} {H2 : Array Obj} {c : List Value} {b : BI} {M : Loc} (W : Row B φ h H c b M) (ho : B2.orig = B.orig) (hk : b.ro = false → ¬ B.keep M.blk → ¬ B2.keep M.blk) (hi : B.orig M.blk → ¬ B.isl M.blk → ¬ B2.isl M.blk)
    (he : H2[M.blk]? = H[M.blk]?) : Row B2 φ h H2 c b M where
  esz := W.esz
  rlt := W.rlt
  vals := fun hok j x hj => by
    obtain ⟨y, h1, h2⟩ := W.vals hok j x hj
    refine ⟨y, ?_, h2⟩
    unfold cellH at h1 ⊢
    rw [he]; exact h1
  old := fun hro => by
    obtain ⟨⟨h1, h2⟩, h3⟩ := W.old hro
    exact ⟨⟨ho ▸ h1, hi h1 h2⟩, h3⟩
  mine := fun hro => by
    obtain ⟨h1, c', e, fz, h2, h3⟩ := W.mine hro
    exact ⟨hk hro h1, c', e, fz, by rw [he]; exact h2, h3⟩
  root := W.root

/-- Another base over a heap that differs in blocks laid aside alone. -/
theorem Rel.rebase {B2 : Base} {H2 : Array Obj} (R : Rel B φ h H) (hng : B2.ng = B.ng) (ho : B2.orig = B.orig) (hsz : ∀ b, B2.keep b → b < H2.size) (hold : ∀ b, B2.keep b → H2[b]? = B2.heap[b]?)
    (hk : ∀ b, b < H.size → ¬ B.keep b → ¬ B2.keep b) (hi : ∀ b, B.orig b → ¬ B.isl b → ¬ B2.isl b) (he : ∀ b, b < H.size → ¬ B.isl b → H2[b]? = H[b]?) : Rel B2 φ h H2 where
  next := R.next
  size := hsz
  nglob := hng ▸ R.nglob
  old := hold
  dom := R.dom
  glob := hng ▸ R.glob
  row := fun i c b M hi1 hM => by
    have W := R.row i c b M hi1 hM
    have hlt : M.blk < H.size := by
      cases hro : b.ro with
      | true => exact R.size _ (.inl (W.old hro).1.1)
      | false => obtain ⟨_, c', e, fz, h2, _⟩ := W.mine hro; exact lt_of_get h2
    have hni : ¬ B.isl M.blk := by
      cases hro : b.ro with
      | true => exact (W.old hro).1.2
      | false => exact fun h => (W.mine hro).1 (.inr h)
    exact W.rebase ho (fun _ h => hk _ hlt h) (fun h1 h2 => hi _ h1 h2) (he _ hlt hni)
  map := fun i es M hi1 hM => by
    obtain ⟨h1, h2⟩ := R.map i es M hi1 hM
    obtain ⟨fs, c, h3⟩ := h2.obj
    have hlt := lt_of_get h3
    exact ⟨hk _ hlt h1, by rw [he _ hlt (fun h => h1 (.inr h))]; exact h2⟩
  iter := fun i s p M hi1 hM => by
    obtain ⟨h1, h2, h3⟩ := R.iter i s p M hi1 hM
    have hlt := lt_of_get h3
    exact ⟨hk _ hlt h1, h2, by rw [he _ hlt (fun h => h1 (.inr h))]; exact h3⟩
  bag := fun i es M hi1 hM => by
    obtain ⟨h1, h2⟩ := R.bag i es M hi1 hM
    obtain ⟨x, h3⟩ := h2.some
    have hlt := lt_of_get h3
    exact ⟨hk _ hlt h1, by rw [he _ hlt (fun h => h1 (.inr h))]; exact h2⟩
  apart := R.apart

/-- A new block, laid aside. -/
theorem Rel.aside (R : Rel B φ h H) (o : Obj) : Rel { B with isl := fun b => B.isl b ∨ b = H.size, heap := H.push o } φ h (H.push o) := by
  refine R.rebase (B2 := { B with isl := fun b => B.isl b ∨ b = H.size, heap := H.push o }) rfl rfl ?_ (fun _ _ => rfl) ?_ ?_ (fun b hb _ => push_old _ _ hb)
  · rintro b (hb | hb | rfl)
    · rw [Array.size_push]; have := R.size b (.inl hb); omega
    · rw [Array.size_push]; have := R.size b (.inr hb); omega
    · rw [Array.size_push]; omega
  · rintro b hlt hk (hb | hb | rfl)
    · exact hk (.inl hb)
    · exact hk (.inr hb)
    · omega
  · rintro b ho hn (hb | rfl)
    · exact hn hb
    · have := R.size _ (.inl ho); omega

/-- A block laid aside, turned. -/
theorem Rel.aside_turn (R : Rel B φ h H) {L : Nat} (hL : B.isl L) {H2 : Array Obj} (hsz : H2.size = H.size) (he : ∀ b, b ≠ L → H2[b]? = H[b]?) : Rel { B with heap := H2 } φ h H2 := by
  refine R.rebase (B2 := { B with heap := H2 }) rfl rfl ?_ (fun _ _ => rfl) (fun _ _ h => h) (fun _ _ h => h) (fun b _ hb => he b (fun e => hb (e ▸ hL)))
  intro b hb
  rw [hsz]; exact R.size b hb

/-- A block laid aside, taken up: it stands for a new numbered one. -/
theorem Rel.adopt (R : Rel B φ h H) {B2 : Base} (x : Blk) (M : Loc) (hL : B.isl M.blk) (hng : B2.ng = B.ng) (ho : B2.orig = B.orig) (hisl : ∀ b, B2.isl b → B.isl b) (hno : ¬ B2.keep M.blk) (hheap : ∀ b, B2.keep b → B.heap[b]? = B2.heap[b]?)
    (hrow : ∀ c b, x = .cells c b → Row B2 (φ.put h.next M) (h.add x) H c b M)
    (hmap : ∀ es, x = .map es → MapR (φ.put h.next M) es H[M.blk]?)
    (hiter : ∀ s pos, x ≠ .iter s pos)
    (hbag : ∀ es, x = .bag es → BagR (φ.put h.next M) es H[M.blk]?) : Rel B2 (φ.put h.next M) (h.add x) H := by
  have hkeep : ∀ b, B2.keep b → B.keep b := fun b hb => hb.elim (fun h => .inl (ho ▸ h)) (fun h => .inr (hisl b h))
  have hle := Phi.le_put (φ := φ) M (R.next _ (Nat.le_refl h.next))
  have R2 : Rel B2 φ h H := R.rebase hng ho (fun b hb => R.size b (hkeep b hb)) (fun b hb => by rw [R.old b (hkeep b hb)]; exact hheap b hb)
    (fun b _ hn hb => hn (hkeep b hb)) (fun b _ hn hb => hn (hisl b hb)) (fun _ _ _ => rfl)
  have far : ∀ i N s, rootOf h i = some s → φ i = some N → N.blk ≠ M.blk := by
    intro i N s hs hN e
    exact (R.root_new hs hN).1 (.inr (e ▸ hL))
  refine ⟨?_, R2.size, Nat.le_succ_of_le R2.nglob, R2.old, ?_, ?_, ?_, ?_, ?_, ?_, ?_⟩
  · intro i hi
    have : h.next + 1 ≤ i := hi
    rw [Phi.put_ne _ _ (by omega)]; exact R.next i (by omega)
  · intro i b hi
    by_cases e : i = h.next
    · subst e; exact ⟨M, Phi.put_same _ _ _⟩
    · rw [get_add_old x e] at hi; rw [Phi.put_ne _ _ e]; exact R.dom i b hi
  · intro g hg
    rw [Phi.put_ne _ _ (Nat.ne_of_lt (Nat.lt_of_lt_of_le hg R2.nglob))]; exact R2.glob g hg
  · intro i c b L hi hL
    by_cases e : i = h.next
    · subst e
      rw [get_add_new] at hi
      rw [Phi.put_same] at hL
      injection hi with hi; injection hL with hL
      subst hL
      exact hrow c b hi
    · rw [get_add_old x e] at hi
      rw [Phi.put_ne _ _ e] at hL
      have W := R2.row i c b L hi hL
      exact {
        esz := W.esz
        rlt := Nat.lt_succ_of_lt W.rlt
        old := fun hro => by rw [get_add_old x (Nat.ne_of_lt W.rlt)]; exact W.old hro
        vals := by
          intro hok j v hj
          rw [ok_eq (get_add_old x (Nat.ne_of_lt W.rlt))] at hok
          obtain ⟨y, hy, hv⟩ := W.vals hok j v hj
          exact ⟨y, hy, hv.mono hle⟩
        mine := W.mine
        root := by
          intro hro
          obtain ⟨rc, r, h1, h2, h3, h4, h5⟩ := W.root hro
          refine ⟨rc, r, by rw [get_add_old x (Nat.ne_of_lt W.rlt)]; exact h1, h2, h3, h4, fun hok => ?_⟩
          rw [ok_eq (get_add_old x (Nat.ne_of_lt W.rlt))] at hok
          obtain ⟨cm, bm, M', g1, g2, g3, g4, g5⟩ := h5 hok
          exact ⟨cm, bm, M', by rw [get_add_old x (Nat.ne_of_lt (R.get_lt g1))]; exact g1, g2, g3,
            by rw [Phi.put_ne _ _ (Nat.ne_of_lt (R.get_lt g1))]; exact g4, g5⟩ }
  · intro i es L hi hL'
    by_cases e : i = h.next
    · subst e
      rw [get_add_new] at hi
      rw [Phi.put_same] at hL'
      injection hi with hi; injection hL' with hL'
      subst hL'
      exact ⟨hno, hmap es hi⟩
    · rw [get_add_old x e] at hi
      rw [Phi.put_ne _ _ e] at hL'
      obtain ⟨h1, h2⟩ := R2.map i es L hi hL'
      exact ⟨h1, h2.mono hle⟩
  · intro i s pos L hi hL'
    by_cases e : i = h.next
    · subst e
      rw [get_add_new] at hi
      injection hi with hi
      exact absurd hi (hiter s pos)
    · rw [get_add_old x e] at hi
      rw [Phi.put_ne _ _ e] at hL'
      exact R2.iter i s pos L hi hL'
  · intro i es L hi hL'
    by_cases e : i = h.next
    · subst e
      rw [get_add_new] at hi
      rw [Phi.put_same] at hL'
      injection hi with hi; injection hL' with hL'
      subst hL'
      exact ⟨hno, hbag es hi⟩
    · rw [get_add_old x e] at hi
      rw [Phi.put_ne _ _ e] at hL'
      obtain ⟨h1, h2⟩ := R2.bag i es L hi hL'
      exact ⟨h1, h2.mono hle⟩
  · intro i j L M' r s hi hj hrs hL' hM'
    by_cases e : i = h.next
    · by_cases f : j = h.next
      · subst e f; rw [hi] at hj; injection hj with hj; exact absurd hj hrs
      · subst e
        rw [Phi.put_same] at hL'; injection hL' with hL'; subst hL'
        rw [rootOf_add_old x f] at hj
        rw [Phi.put_ne _ _ f] at hM'
        exact fun e => far j M' s hj hM' e.symm
    · rw [rootOf_add_old x e] at hi
      rw [Phi.put_ne _ _ e] at hL'
      by_cases f : j = h.next
      · subst f
        rw [Phi.put_same] at hM'; injection hM' with hM'; subst hM'
        exact far i L r hi hL'
      · rw [rootOf_add_old x f] at hj
        rw [Phi.put_ne _ _ f] at hM'
        exact R.apart i j L M' r s hi hj hrs hL' hM'

end Go.Vd

/- A region in any order: the induction. -/
namespace Go.Vd
variable {B : Base} {φ : Phi} {h : Heap} {P : Program} {w : World} {E : Env}

theorem looks_operand {ops : List Oper} {o : Oper} {t : Nat} (h : Operand.tmp t ∈ o.op.operands.toList) : t ∈ looksTo ops o := by
  unfold looksTo
  exact List.mem_append_left _ (List.mem_filterMap.2 ⟨.tmp t, h, rfl⟩)

theorem evR_const {φ : Phi} {h : Heap} {w : World} (R : RW B φ h w) {tm : Tm} {a : Act} {x : Operand} (hx : okO B.ng x = true) (hn : ∀ t, x ≠ .tmp t := by intro t e; cases e) : VR φ (evR tm x) (a.eval x) := by
  cases x with
  | tmp t => exact absurd rfl (hn t)
  | const v => exact VR.plain hx
  | global g =>
    obtain ⟨L, h1, h2, h3⟩ := R.glob g (by unfold okO Nat.blt at hx; exact ble_le hx)
    have := VR.ptr g 0 L h1
    rw [h2, h3] at this
    exact this
  | func f => exact .func f _ _ _ _ rfl rfl (fun i x y a => by simp at a) (fun i x y a => by simp at a)

theorem memN_iff {d : Nat} {ds : List Nat} : memN d ds = true ↔ d ∈ ds := by
  unfold memN
  rw [List.any_eq_true]
  exact ⟨fun ⟨x, h1, h2⟩ => by rw [beq_eq h2]; exact h1, fun h => ⟨d, h, Nat.beq_refl d⟩⟩

/-- What those of the operations that have been give. -/
def entF {β : Type} (f : Oper → Option β) (S : Nat → Bool) : Nat → List Oper → List β
  | _, [] => []
  | k, o :: r => match (bif S k then f o else none) with
    | some y => y :: entF f S (k + 1) r
    | none => entF f S (k + 1) r

theorem entF_none {β : Type} (f : Oper → Option β) : ∀ (S : Nat → Bool) (k : Nat) (l : List Oper), (∀ i, S i = true → ∀ o, (l[i - k]? = some o ∧ k ≤ i) → f o = none) → entF f S k l = []
  | S, k, [], _ => rfl
  | S, k, o :: r, h => by
    unfold entF
    have h1 : (bif S k then f o else none) = none := by
      cases hs : S k with
      | false => rfl
      | true => exact h k hs o ⟨by simp, Nat.le_refl k⟩
    rw [h1]
    exact entF_none f S (k + 1) r fun i hi o' ho' => h i hi o' ⟨by rw [show i - k = (i - (k + 1)) + 1 from by omega]; simpa using ho'.1, by omega⟩

theorem entF_all {β : Type} (f : Oper → Option β) : ∀ (S : Nat → Bool) (k : Nat) (l : List Oper), (∀ i, k ≤ i → i < k + l.length → S i = true) → entF f S k l = l.filterMap f
  | S, k, [], _ => rfl
  | S, k, o :: r, h => by
    unfold entF
    rw [h k (Nat.le_refl k) (by simp), List.filterMap_cons]
    simp only [cond_true]
    have ih := entF_all f S (k + 1) r fun i h1 h2 => h i (by omega) (by simp; omega)
    cases f o <;> simp [ih]

theorem entF_same {β : Type} (f : Oper → Option β) : ∀ (S S' : Nat → Bool) (k : Nat) (l : List Oper), (∀ i o, k ≤ i → l[i - k]? = some o → (f o).isSome = true → S' i = S i) → entF f S' k l = entF f S k l
  | S, S', k, [], _ => rfl
  | S, S', k, o :: r, h => by
    unfold entF
    have ih := entF_same f S S' (k + 1) r fun i o' h1 h2 => h i o' (by omega) (by rw [show i - k = (i - (k + 1)) + 1 from by omega]; simpa using h2)
    have h1 : (bif S' k then f o else none) = (bif S k then f o else none) := by
      cases hf : f o with
      | none => cases S' k <;> cases S k <;> rfl
      | some y => rw [h k o (Nat.le_refl k) (by simp) (by rw [hf]; rfl)]
    rw [h1, ih]

theorem entF_add {β : Type} (f : Oper → Option β) : ∀ (S S' : Nat → Bool) (k : Nat) (l : List Oper) (i : Nat) (o : Oper) (y : β), k ≤ i → l[i - k]? = some o → f o = some y → S i = false → (∀ j, S' j = true ↔ (j = i ∨ S j = true)) →
    (entF f S' k l).Perm (y :: entF f S k l)
  | S, S', k, [], i, o, y, _, h, _, _, _ => by simp at h
  | S, S', k, x :: r, i, o, y, hk, ho, hf, hs, hS => by
    by_cases e : i = k
    · subst e
      simp at ho; subst ho
      have h1 : S' i = true := (hS i).2 (.inl rfl)
      unfold entF
      rw [h1, hs, hf]
      simp only [cond_true, cond_false]
      rw [entF_same f S S' (i + 1) r fun j o' h1 _ _ => by
        have := hS j
        cases h2 : S j with
        | true => exact this.2 (.inr h2)
        | false => cases h3 : S' j with
          | false => rfl
          | true => rcases this.1 h3 with h4 | h4
                    · omega
                    · rw [h2] at h4; cases h4]
    · have ih := entF_add f S S' (k + 1) r i o y (by omega) (by rw [show i - k = (i - (k + 1)) + 1 from by omega] at ho; simpa using ho) hf hs hS
      have h1 : S' k = S k := by
        have := hS k
        cases h2 : S k with
        | true => exact this.2 (.inr h2)
        | false => cases h3 : S' k with
          | false => rfl
          | true => rcases this.1 h3 with h4 | h4
                    · exact absurd h4.symm e
                    · rw [h2] at h4; cases h4
      unfold entF
      rw [h1]
      cases (bif S k then f x else none) with
      | none => exact ih
      | some z => exact (ih.cons z).trans (List.Perm.swap y z _)

theorem entF_sub {β : Type} (f : Oper → Option β) : ∀ (S : Nat → Bool) (k : Nat) (l : List Oper), (entF f S k l).Sublist (l.filterMap f)
  | S, k, [] => .slnil
  | S, k, o :: r => by
    have ih := entF_sub f S (k + 1) r
    unfold entF
    rw [List.filterMap_cons]
    cases hs : S k <;> cases hf : f o <;> simp only [cond_true, cond_false]
    · exact ih
    · exact ih.cons _
    · exact ih
    · exact ih.cons_cons _

/-- What the evaluator has looked at of an island. -/
def IslGood (E : Env) (A : List Oper) (fin : Tm) (d : Nat) (o : Oper) : Prop :=
  match o.op with
  | .alloc t => ∃ ti, E.ty t = some ti ∧ A.filterMap (entryOf fin d) = [] ∧ (A.filterMap (storedOf fin d) = [] ∨ ∃ v, A.filterMap (storedOf fin d) = [(t, v)] ∧ v.cells.size = ti.size ∧ v.cells.toList.all oneV = true)
  | .makeMap t none => isMapD (E.ty t) = true ∧ A.filterMap (storedOf fin d) = [] ∧ bagKeys (A.filterMap (entryOf fin d)) = true
  | _ => False

/-- What lies in a block laid aside. -/
def IslObj (E : Env) (A : List Oper) (fin : Tm) (ψ : Phi) (S : Nat → Bool) (H : Array Obj) (u : Value) (d L : Nat) (o : Oper) : Prop :=
  match o.op with
  | .alloc t => u = .pointer (some ⟨L, 0, none⟩) ∧ ∃ ti us e, E.ty t = some ti ∧ us.length = ti.size ∧ H[L]? = some (.cells us.toArray e (0, 0)) ∧
      ((entF (storedOf fin d) S 0 A = [] ∧ LR ψ ti.zero.cells.toList us) ∨ ∃ p, entF (storedOf fin d) S 0 A = [p] ∧ LR ψ p.2.cells.toList us)
  | .makeMap _ none => u = .map (some L) ∧ ∃ l fs cl, H[L]? = some (.map fs cl) ∧ MapR ψ l (some (.map fs cl)) ∧ l.Perm (entF (entryOf fin d) S 0 A)
  | _ => False

theorem IslObj.keep {A : List Oper} {fin : Tm} {ψ ψ' : Phi} {S S' : Nat → Bool} {H H' : Array Obj} {u : Value} {d L : Nat} {o : Oper} (I : IslObj E A fin ψ S H u d L o) (hle : ψ.le ψ') (hH : H'[L]? = H[L]?)
    (h1 : entF (storedOf fin d) S' 0 A = entF (storedOf fin d) S 0 A) (h2 : entF (entryOf fin d) S' 0 A = entF (entryOf fin d) S 0 A) : IslObj E A fin ψ' S' H' u d L o := by
  unfold IslObj at I ⊢
  split at I
  · rename_i t ht
    obtain ⟨a1, ti, us, e, a2, a3, a4, a5⟩ := I
    refine ⟨a1, ti, us, e, a2, a3, by rw [hH]; exact a4, ?_⟩
    rw [h1]
    rcases a5 with ⟨b1, b2⟩ | ⟨p, b1, b2⟩
    · exact .inl ⟨b1, b2.mono hle⟩
    · exact .inr ⟨p, b1, b2.mono hle⟩
  · obtain ⟨a1, l, fs, cl, a2, a3, a4⟩ := I
    exact ⟨a1, l, fs, cl, by rw [hH]; exact a2, a3.mono hle, by rw [h2]; exact a4⟩
  · exact I.elim

structure Plan (B : Base) (E : Env) (cf : Nat → List Value → Heap → Option CR) (ops : Array Oper) (A : List Oper) (ds : List Nat) (nt : Nat) (ms : List Nat) (fin : Tm) (H : List Heap) : Prop where
  pre : ∀ (i : Nat) (o : Oper), A[i]? = some o → ops[i]? = some o
  upto : A.length ≤ ops.size
  wait : ∀ (i : Nat) (o : Oper), A.length ≤ i → ops[i]? = some o → waitsAll i o = true
  guard : ∀ o ∈ A, guardIn A.length o = true
  masks : drawMasks A [] = some ms
  looks : ∀ (k : Nat) (o : Oper) (m : Nat), A[k]? = some o → ms[k]? = some m → isle ds o = false → looksOk A m o = true
  far : ∀ o ∈ A, isle ds o = false → (∀ t ∈ looksTo A o, t ∉ ds) ∧ ∀ d, o.dst = some d → d ∉ ds
  puts : ∀ (k : Nat) (o : Oper) (m d : Nat) (x : Operand), A[k]? = some o → ms[k]? = some m → isle ds o = true → writeOf o = some (d, x) → writerIn A m x = true ∧ outside ds x = true ∧ ∃ (k' : Nat) (o' : Oper), A[k']? = some o' ∧ makerOf o' = some d ∧ m.testBit k' = true
  dsts : dstsOk A = true
  good : ∀ d ∈ ds, ∃ (k : Nat) (o : Oper), A[k]? = some o ∧ makerOf o = some d ∧ IslGood E A fin d o
  strs : ∀ o ∈ A, strIns E o = true
  chain : chained ms (loudOf ds A) = true
  ok : ∀ o ∈ A, okOper B.ng nt o = true
  len : H.length = (loudOf ds A).length + 1
  loud : ∀ (p l : Nat), (loudOf ds A)[p]? = some l → ∃ (o : Oper) (h1 h2 : Heap), A[l]? = some o ∧ isle ds o = false ∧ quietOp o.op = false ∧ H[p]? = some h1 ∧ H[p + 1]? = some h2 ∧ LoudAt E cf A.toArray fin o h1 h2
  undef : ∀ o ∈ A, isle ds o = false → wantedT A.toArray fin o = false → ∀ d, o.dst = some d → fin.get d = some undef
  quiet : ∀ (i : Nat) (o : Oper), A[i]? = some o → isle ds o = false → quietOp o.op = true → wantedT A.toArray fin o = true → ∀ (m : Nat) (hm : Heap), H[m]? = some hm → between ms i (ms.getD i 0) (loudOf ds A) m = true → quietAt E fin o hm = true

theorem loud_mem {A : List Oper} {ds : List Nat} {i : Nat} {o : Oper} (ho : A[i]? = some o) (hi : isle ds o = false) (hq : quietOp o.op = false) : ∃ p : Nat, (loudOf ds A)[p]? = some i := by
  apply List.getElem?_of_mem
  unfold loudOf
  exact List.mem_map.2 ⟨(o, i), List.mem_filter.2 ⟨by rw [List.mem_zipIdx_iff_getElem?]; simpa using ho, by simp [hi, hq]⟩, rfl⟩

/-- Where the region is. -/
structure Mid (B0 B : Base) (E : Env) (ops : Array Oper) (A : List Oper) (ds : List Nat) (nt : Nat) (fin : Tm) (H : List Heap) (df : List Deferred) (listed : Array Bool) (ψ : Phi) (a : Act) (w : World) (m : Nat) (ι : Nat → Option Nat) : Prop where
  lsz : listed.size = ops.size
  clos : Closed A.toArray (fun i => listed.getD i false = true)
  tail : ∀ i, A.length ≤ i → listed.getD i false = false
  tsz : nt ≤ a.tmps.size
  dfs : DR ψ df a.defers
  tms : ∀ t, t ∉ ds → (∀ (j : Nat) (oj : Oper), A[j]? = some oj → oj.dst = some t → listed.getD j false = true) → VR ψ ((fin.get t).getD undef) (a.tmps.getD t undef)
  heap : ∃ hm, H[m]? = some hm ∧ RW B ψ hm w
  loud : ∀ (p l : Nat), (loudOf ds A)[p]? = some l → (listed.getD l false = true ↔ p < m)
  mle : m ≤ (loudOf ds A).length
  ng : B.ng = B0.ng ∧ B.os = B0.os ∧ B.output = B0.output
  orig : B.orig = B0.orig
  isl : ∀ b, B.isl b ↔ B0.isl b ∨ ∃ d, ι d = some b
  old : ∀ b, B0.keep b → B.heap[b]? = B0.heap[b]?
  inj : ∀ d d' L, ι d = some L → ι d' = some L → d = d'
  fresh : ∀ d L, ι d = some L → ¬ B0.keep L
  made : ∀ (k : Nat) (o : Oper) (d : Nat), A[k]? = some o → makerOf o = some d → d ∈ ds → (listed.getD k false = true ↔ (ι d).isSome = true)
  obj : ∀ d L, ι d = some L → d ∈ ds ∧ ∃ (k : Nat) (o : Oper), A[k]? = some o ∧ makerOf o = some d ∧ IslObj E A fin ψ (fun i => listed.getD i false) w.heap (a.tmps.getD d undef) d L o

end Go.Vd

/- A region in any order: one step. -/
namespace Go.Vd
variable {φ : Phi} {h : Heap} {P : Program} {E : Env}

theorem makerOf_dst {o : Oper} {d : Nat} (h : makerOf o = some d) : o.dst = some d ∧ o.guard = none ∧ ((∃ t, o.op = .alloc t) ∨ ∃ t, o.op = .makeMap t none) := by
  unfold makerOf at h
  split at h
  · cases h
  · rename_i hg
    split at h
    · exact ⟨h, hg, .inl ⟨_, by assumption⟩⟩
    · exact ⟨h, hg, .inr ⟨_, by assumption⟩⟩
    · cases h

theorem dsts_uniq {A : List Oper} (hd : dstsOk A = true) {i j : Nat} {oi oj : Oper} {d : Nat} (hi : A[i]? = some oi) (hj : A[j]? = some oj) (h1 : oi.dst = some d) (h2 : oj.dst = some d) : i = j := by
  rcases Nat.lt_trichotomy i j with h | h | h
  · exact absurd h2 (dstsOk_spec hd hi hj h h1)
  · exact h
  · exact absurd h1 (dstsOk_spec hd hj hi h h2)

theorem getD_set {listed : Array Bool} {i : Nat} (hil : i < listed.size) (j : Nat) : (listed.setIfInBounds i true).getD j false = true ↔ (j = i ∨ listed.getD j false = true) := by
  by_cases hj : j = i
  · subst hj
    have hs2 : j < (listed.setIfInBounds j true).size := by rw [Array.size_setIfInBounds]; exact hil
    have h3 : (listed.setIfInBounds j true)[j]? = some true := by simp [hil]
    rw [Array.getD_eq_getD_getElem?, h3]
    simp
  · rw [Array.getD_eq_getD_getElem?, Array.getElem?_setIfInBounds_ne (Ne.symm hj), ← Array.getD_eq_getD_getElem?]
    simp [hj]

theorem Mid.next {B0 B : Base} {ops : Array Oper} {A : List Oper} {ds : List Nat} {nt : Nat} {fin : Tm} {H : List Heap} {df : List Deferred} {listed : Array Bool} {ψ : Phi} {a : Act} {w : World} {m : Nat} {ι : Nat → Option Nat}
    {cf : Nat → List Value → Heap → Option CR} {ms : List Nat} (pl : Plan B0 E cf ops A ds nt ms fin H) (M : Mid B0 B E ops A ds nt fin H df listed ψ a w m ι) {i : Nat} {o : Oper} (ho : A[i]? = some o) (hun : listed.getD i false = false)
    (hafter : ∀ e ∈ o.after, Region.binds .any e = true → listed.getD e.on false = true)
    {B1 : Base} {ψ1 : Phi} {w1 : World} {m1 : Nat} {ι1 : Nat → Option Nat} {a1 : Act} {u : Value} (hle : ψ.le ψ1) (ht1 : a1.tmps = a.tmps) (hd1 : a1.defers = a.defers)
    (hu : isle ds o = false → ∀ d, o.dst = some d → VR ψ1 ((fin.get d).getD undef) u)
    (hdst : isle ds o = true → ∀ d, o.dst = some d → d ∈ ds)
    (hheap : ∃ hm, H[m1]? = some hm ∧ RW B1 ψ1 hm w1)
    (hloud : ∀ (p l : Nat), (loudOf ds A)[p]? = some l → ((l = i ∨ listed.getD l false = true) ↔ p < m1)) (hmle : m1 ≤ (loudOf ds A).length)
    (hng : B1.ng = B0.ng ∧ B1.os = B0.os ∧ B1.output = B0.output) (horig : B1.orig = B0.orig) (hisl : ∀ b, B1.isl b ↔ B0.isl b ∨ ∃ d, ι1 d = some b) (hold : ∀ b, B0.keep b → B1.heap[b]? = B0.heap[b]?)
    (hinj : ∀ d d' L, ι1 d = some L → ι1 d' = some L → d = d') (hfresh : ∀ d L, ι1 d = some L → ¬ B0.keep L)
    (hmade : ∀ d ∈ ds, makerOf o = some d → (ι1 d).isSome = true) (hι : ∀ d, makerOf o ≠ some d → ι1 d = ι d)
    (hobj : ∀ d L, ι1 d = some L → d ∈ ds ∧ ∃ (k : Nat) (o' : Oper), A[k]? = some o' ∧ makerOf o' = some d ∧ IslObj E A fin ψ1 (fun j => (listed.setIfInBounds i true).getD j false) w1.heap ((a1.put o.dst u).tmps.getD d undef) d L o') :
    Mid B0 B1 E ops A ds nt fin H df (listed.setIfInBounds i true) ψ1 (a1.put o.dst u) w1 m1 ι1 := by
  have hiA : i < A.length := (List.getElem?_eq_some_iff.1 ho).1
  have hil : i < listed.size := by rw [M.lsz]; exact Nat.lt_of_lt_of_le hiA pl.upto
  have hself := getD_set (i := i) hil
  refine ⟨by rw [Array.size_setIfInBounds]; exact M.lsz, ?_, ?_, ?_, ?_, ?_, hheap, fun p l hl => by rw [hself]; exact hloud p l hl, hmle, hng, horig, hisl, hold, hinj, hfresh, ?_, hobj⟩
  · intro j oj hj hoj e he hb
    rw [hself] at hj ⊢
    rcases hj with rfl | hj
    · simp only [List.getElem?_toArray] at hoj
      rw [ho] at hoj; injection hoj with hoj; subst hoj
      exact .inr (hafter e he hb)
    · exact .inr (M.clos j oj hj hoj e he hb)
  · intro j hj
    have h1 := M.tail j hj
    cases h2 : (listed.setIfInBounds i true).getD j false with
    | false => rfl
    | true =>
      rcases (hself j).1 h2 with h3 | h3
      · omega
      · rw [h1] at h3; cases h3
  · unfold Act.put
    split
    · show nt ≤ (a1.tmps.setIfInBounds _ u).size
      rw [ht1, Array.size_setIfInBounds]; exact M.tsz
    · rw [ht1]; exact M.tsz
  · have : (a1.put o.dst u).defers = a.defers := by
      rw [← hd1]; unfold Act.put; split <;> rfl
    rw [this]; exact M.dfs.mono hle
  · intro t htd ht
    by_cases hot : o.dst = some t
    · have hok := pl.ok o (List.mem_of_getElem? ho)
      have htlt : t < a.tmps.size := Nat.lt_of_lt_of_le (okOper_dst hok t hot) M.tsz
      have : (a1.put o.dst u).tmps.getD t undef = u := by
        rw [hot]
        show (a1.tmps.setIfInBounds t u).getD t undef = u
        rw [ht1]
        simp [Array.getD, htlt]
      rw [this]
      cases hi : isle ds o with
      | true => exact absurd (hdst hi t hot) htd
      | false => exact hu hi t hot
    · have : (a1.put o.dst u).tmps.getD t undef = a.tmps.getD t undef := by
        cases hd : o.dst with
        | none => show a1.tmps.getD t undef = _; rw [ht1]
        | some d =>
          show (a1.tmps.setIfInBounds d u).getD t undef = _
          rw [ht1]
          have hne : d ≠ t := fun e => hot (by rw [hd, e])
          simp only [Array.getD_eq_getD_getElem?, Array.getElem?_setIfInBounds_ne hne]
      rw [this]
      refine (M.tms t htd (fun j oj hj hd => ?_)).mono hle
      rcases (hself j).1 (ht j oj hj hd) with rfl | h
      · rw [ho] at hj; injection hj with hj; subst hj
        exact absurd hd hot
      · exact h
  · intro k o' d hk hm hd
    rw [hself]
    by_cases e : k = i
    · subst e
      rw [ho] at hk; injection hk with hk; subst hk
      exact ⟨fun _ => hmade d hd hm, fun _ => .inl rfl⟩
    · have hne : makerOf o ≠ some d := fun h => e (dsts_uniq pl.dsts hk ho (makerOf_dst hm).1 (makerOf_dst h).1)
      rw [hι d hne, ← M.made k o' d hk hm hd]
      simp [e]

end Go.Vd

/- A region in any order: an operation that is no island's. -/
namespace Go.Vd
variable {φ : Phi} {h : Heap} {P : Program} {E : Env}

theorem put_getD_ne {a1 a : Act} {dst : Option Nat} {u : Value} {t : Nat} (ht : a1.tmps = a.tmps) (h : dst ≠ some t) : (a1.put dst u).tmps.getD t undef = a.tmps.getD t undef := by
  cases dst with
  | none => show a1.tmps.getD t undef = _; rw [ht]
  | some d =>
    show (a1.tmps.setIfInBounds d u).getD t undef = _
    rw [ht]
    have hne : d ≠ t := fun e => h (by rw [e])
    simp only [Array.getD_eq_getD_getElem?, Array.getElem?_setIfInBounds_ne hne]

theorem put_getD_same {a1 a : Act} {d : Nat} {u : Value} (ht : a1.tmps = a.tmps) (h : d < a.tmps.size) : (a1.put (some d) u).tmps.getD d undef = u := by
  show (a1.tmps.setIfInBounds d u).getD d undef = u
  rw [ht]
  simp [Array.getD, h]

theorem isle_maker {ds : List Nat} {o : Oper} {d : Nat} (h : makerOf o = some d) (hd : d ∈ ds) : isle ds o = true := by
  unfold isle; rw [h]; simp [memN_iff.2 hd]
theorem isle_write {ds : List Nat} {o : Oper} {d : Nat} {x : Operand} (h : writeOf o = some (d, x)) (hd : d ∈ ds) : isle ds o = true := by
  unfold isle; rw [h]; simp [memN_iff.2 hd]
theorem isle_inv {ds : List Nat} {o : Oper} (h : isle ds o = true) : (∃ d, makerOf o = some d ∧ d ∈ ds) ∨ ∃ d x, writeOf o = some (d, x) ∧ d ∈ ds := by
  unfold isle at h
  rw [Bool.or_eq_true] at h
  rcases h with h | h
  · split at h
    · rename_i d hd; exact .inl ⟨d, hd, memN_iff.1 h⟩
    · cases h
  · split at h
    · rename_i d x hd; exact .inr ⟨d, x, hd, memN_iff.1 h⟩
    · cases h

theorem writeOf_insert {o : Oper} {d : Nat} {s : ByteArray} {x : Operand} (h : insertOf o = some (d, s, x)) : writeOf o = some (d, x) := by
  unfold writeOf; rw [h]
theorem insertOf_inv {o : Oper} {d : Nat} {s : ByteArray} {x : Operand} (h : insertOf o = some (d, s, x)) : o.guard = none ∧ o.dst = none ∧ ∃ t, o.op = .insert t (.tmp d) (.const (.string s)) x := by
  unfold insertOf at h
  split at h
  · rename_i h1 h2
    refine ⟨h1, h2, ?_⟩
    split at h
    · rename_i t d' k x' hop
      unfold insertAt at h
      split at h
      · injection h with h
        simp only [Prod.mk.injEq] at h
        obtain ⟨rfl, rfl, rfl⟩ := h
        exact ⟨t, hop⟩
      · cases h
    · cases h
  · cases h
theorem storeOf_inv {o : Oper} {d t : Nat} {x : Operand} (h : storeOf o = some (d, t, x)) : o.guard = none ∧ o.dst = none ∧ o.op = .store t (.tmp d) x := by
  unfold storeOf at h
  split at h
  · rename_i h1 h2
    refine ⟨h1, h2, ?_⟩
    split at h
    · rename_i t' d' y hop
      injection h with h
      simp only [Prod.mk.injEq] at h
      obtain ⟨rfl, rfl, rfl⟩ := h
      exact hop
    · cases h
  · cases h
theorem insert_store {o : Oper} {p : Nat × ByteArray × Operand} (h : insertOf o = some p) : storeOf o = none := by
  obtain ⟨d, s, x⟩ := p
  obtain ⟨h1, h2, t, h3⟩ := insertOf_inv h
  unfold storeOf
  rw [h1, h2, h3]
theorem writeOf_store {o : Oper} {d t : Nat} {x : Operand} (h : storeOf o = some (d, t, x)) : writeOf o = some (d, x) := by
  unfold writeOf
  cases hi : insertOf o with
  | some p => rw [insert_store hi] at h; cases h
  | none => simp [h]
theorem writeOf_inv {o : Oper} {d : Nat} {x : Operand} (h : writeOf o = some (d, x)) : (∃ s, insertOf o = some (d, s, x)) ∨ (insertOf o = none ∧ ∃ t, storeOf o = some (d, t, x)) := by
  unfold writeOf at h
  split at h
  · rename_i d' s x' hi
    injection h with h
    simp only [Prod.mk.injEq] at h
    obtain ⟨rfl, rfl⟩ := h
    exact .inl ⟨s, hi⟩
  · rename_i d' t x' hi hs
    injection h with h
    simp only [Prod.mk.injEq] at h
    obtain ⟨rfl, rfl⟩ := h
    exact .inr ⟨hi, t, hs⟩
  · cases h

theorem entryOf_none {fin : Tm} {d : Nat} {o : Oper} (h : ∀ x, writeOf o ≠ some (d, x)) : entryOf fin d o = none := by
  unfold entryOf
  split
  · rename_i d' s x hi
    cases hb : Nat.beq d' d with
    | false => rfl
    | true => rw [beq_eq hb] at hi; exact absurd (writeOf_insert hi) (h x)
  · rfl
theorem storedOf_none {fin : Tm} {d : Nat} {o : Oper} (h : ∀ x, writeOf o ≠ some (d, x)) : storedOf fin d o = none := by
  unfold storedOf
  split
  · rename_i d' s x hi
    cases hb : Nat.beq d' d with
    | false => rfl
    | true => rw [beq_eq hb] at hi; exact absurd (writeOf_store hi) (h x)
  · rfl

theorem entF_skip {β : Type} {f : Oper → Option β} {listed : Array Bool} {A : List Oper} {i : Nat} {o : Oper} (hil : i < listed.size) (ho : A[i]? = some o) (hf : f o = none) :
    entF f (fun j => (listed.setIfInBounds i true).getD j false) 0 A = entF f (fun j => listed.getD j false) 0 A := by
  refine entF_same f _ _ 0 A fun j o' _ hj hs => ?_
  rw [Nat.sub_zero] at hj
  have hji : j ≠ i := by
    rintro rfl
    rw [ho] at hj; injection hj with hj; subst hj
    rw [hf] at hs; cases hs
  have := getD_set hil j
  show (listed.setIfInBounds i true).getD j false = listed.getD j false
  cases h1 : listed.getD j false with
  | true => exact this.2 (.inr h1)
  | false => cases h2 : (listed.setIfInBounds i true).getD j false with
    | false => rfl
    | true => rcases this.1 h2 with h3 | h3
              · exact absurd h3 hji
              · rw [h1] at h3; cases h3

theorem yielded_pre {ops : Array Oper} {A : List Oper} (hpre : ∀ (i : Nat) (o : Oper), A[i]? = some o → ops[i]? = some o) {o : Oper} (hg : guardIn A.length o = true) (tmps : Array Value) :
    Region.wanted o (yielded ops tmps) = Region.wanted o (yielded A.toArray tmps) := by
  unfold guardIn at hg
  unfold Region.wanted
  cases hgu : o.guard with
  | none => rfl
  | some p =>
    obtain ⟨j, b⟩ := p
    rw [hgu] at hg
    have hj : j < A.length := by unfold Nat.blt at hg; exact ble_le hg
    have h1 := List.getElem?_eq_getElem hj
    simp only [yielded, hpre j _ h1, List.getElem?_toArray, h1]

section
variable {B0 B : Base} {ops : Array Oper} {A : List Oper} {ds : List Nat} {nt : Nat} {fin : Tm} {H : List Heap} {df : List Deferred} {listed : Array Bool} {ψ : Phi} {a : Act} {w : World} {m : Nat} {ι : Nat → Option Nat}
  {cf : Nat → List Value → Heap → Option CR} {ms : List Nat}

theorem Mid.isl_of (M : Mid B0 B E ops A ds nt fin H df listed ψ a w m ι) {d L : Nat} (h : ι d = some L) : B.isl L := (M.isl L).2 (.inr ⟨d, h⟩)

/-- What an operation that is no island's leaves. -/
theorem Mid.main (pl : Plan B0 E cf ops A ds nt ms fin H) (M : Mid B0 B E ops A ds nt fin H df listed ψ a w m ι) {i : Nat} {o : Oper} (ho : A[i]? = some o) (hi : isle ds o = false) (hun : listed.getD i false = false)
    (hafter : ∀ e ∈ o.after, Region.binds .any e = true → listed.getD e.on false = true)
    {ψ1 : Phi} {w1 : World} {m1 : Nat} {hm1 : Heap} {a1 : Act} {u : Value} (hle : ψ.le ψ1) (ht1 : a1.tmps = a.tmps) (hd1 : a1.defers = a.defers)
    (hu : ∀ d, o.dst = some d → VR ψ1 ((fin.get d).getD undef) u) (hHm : H[m1]? = some hm1) (R : RW B ψ1 hm1 w1)
    (hloud : ∀ (p l : Nat), (loudOf ds A)[p]? = some l → ((l = i ∨ listed.getD l false = true) ↔ p < m1)) (hmle : m1 ≤ (loudOf ds A).length) :
    Mid B0 B E ops A ds nt fin H df (listed.setIfInBounds i true) ψ1 (a1.put o.dst u) w1 m1 ι := by
  have hiA : i < A.length := (List.getElem?_eq_some_iff.1 ho).1
  have hil : i < listed.size := by rw [M.lsz]; exact Nat.lt_of_lt_of_le hiA pl.upto
  obtain ⟨hm, _, R0⟩ := M.heap
  have hfar := pl.far o (List.mem_of_getElem? ho) hi
  refine M.next pl ho hun hafter hle ht1 hd1 (fun _ => hu) (fun h => by rw [hi] at h; cases h) ⟨hm1, hHm, R⟩ hloud hmle M.ng M.orig M.isl M.old M.inj M.fresh (fun d hd hm => by rw [isle_maker hm hd] at hi; cases hi) (fun _ _ => rfl) ?_
  intro d L hd
  obtain ⟨hds, k, o', h1, h2, h3⟩ := M.obj d L hd
  refine ⟨hds, k, o', h1, h2, ?_⟩
  rw [put_getD_ne ht1 (fun h => hfar.2 d h hds)]
  have hk : B.keep L := .inr (M.isl_of hd)
  have hw : ∀ x, writeOf o ≠ some (d, x) := fun x h => by rw [isle_write h hds] at hi; cases hi
  exact h3.keep hle (by rw [R.old L hk, R0.old L hk]) (entF_skip hil ho (storedOf_none hw)) (entF_skip hil ho (entryOf_none hw))
end

end Go.Vd
