/-
  slices.Insert of one element, as a contract over made slices.
-/
import Derived.Test.YtefhongghmimgaaI3
open Go Go.Proofs Go.RowKit Go.Lib Go.Pw
namespace Go.Proofs.Ytefhongghmimgaa
set_option maxRecDepth 4000
set_option linter.unusedVariables false
set_option linter.unusedSimpArgs false
/-- The first argument: nil, or what was made. -/
def insArg (base : Option Nat) (n c : Nat) : PV :=
  match base with
  | none => vNil
  | some id => .ms id 0 n c
theorem Rel.put_row {own : Nat → Prop} {S0 : Base} {w0 w w' : World} {C : Cx} {st : PS} (R : Rel own S0 w0 C (· < st.nx) (· < st.nt) st w) {E : TypeId} {sz n i b' c' : Nat} {us uv us' : Array Value} (base : Option Nat)
    (hbase : ∀ id, base = some id → ∃ t cs, lkp st.heap id = some (.box t cs)) (D : InsDid E sz w (base.map C.ρ) n i us uv b' c' us' w') (heap' : List (Nat × PObj)) (hh : ∀ j o, lkp heap' j = some o → lkp st.heap j = some o ∧ base ≠ some j)
    (cs : List PV) (hr : RepL C st.toks (· < st.nx) (· < st.nt) us'.toList cs) :
    Rel own S0 w0 (C.at st.nx b') (· < st.nx + 1) (· < st.nt) { st with heap := (st.nx, .box E cs) :: heap', nx := st.nx + 1 } w' := by
  have X := R.ext_at b' st.nx (Nat.lt_irrefl _) (U' := (· < st.nx + 1)) (fun j hj => Nat.lt_succ_of_lt hj)
  have hnew : (C.at st.nx b').ρ st.nx = b' := by simp [Cx.at]
  have hρ : ∀ j o, lkp heap' j = some o → (C.at st.nx b').ρ j = C.ρ j := fun j o h => by
    have := (R.hown j o (hh j o h).1).1
    simp only [Cx.at]
    rw [if_neg (by omega)]
  have hnewb : b' < w'.heap.size := (Array.getElem?_eq_some_iff.1 D.row).1
  -- where the new row lies: no cell that never turns, no other object, no row
  have place : (∃ id t us0, base = some id ∧ lkp st.heap id = some (.box t us0) ∧ b' = C.ρ id) ∨ b' = w.heap.size := by
    rcases D.place with h | h
    · cases hb : base with
      | none => rw [hb] at h; cases h
      | some id =>
        obtain ⟨t, cs, ho⟩ := hbase id hb
        rw [hb] at h
        exact .inl ⟨id, t, cs, rfl, ho, (Option.some.inj h).symm⟩
    · exact .inr h
  have lt : ∀ {b : Nat} {x : Obj}, w.heap[b]? = some x → b < w.heap.size := fun h => (Array.getElem?_eq_some_iff.1 h).1
  have keep : ∀ k, k < w.heap.size → (∀ id, base = some id → k ≠ C.ρ id) → w'.heap[k]? = w.heap[k]? := fun k hk hn => D.other k hk (fun e => by
    cases hb : base with
    | none => rw [hb] at e; cases e
    | some id => rw [hb] at e; exact hn id hb (Option.some.inj e).symm)
  have hfree : ∀ o, C.S b' o = none := fun o => by
    rcases place with ⟨id, t, cs, _, ho, rfl⟩ | rfl
    · exact (R.hown id _ ho).2.2.2 o
    · exact R.fresh o
  refine ⟨⟨D.os.trans R.frame.os, D.tape.trans R.frame.tape, D.output.trans R.frame.output, Nat.le_trans R.frame.size D.grew, fun k hk hn => ?_⟩, fun b o v h => ?_, ?_, ?_, ?_, ?_, ?_, ?_, R.tinj, R.snew, R.sold, R.base.trans X⟩
  · rw [keep k (Nat.lt_of_lt_of_le hk R.frame.size) (fun id hb e => ?_)]
    · exact R.frame.block k hk hn
    · obtain ⟨t, cs, ho⟩ := hbase id hb
      rcases (R.hown id _ ho).2.2.1 with h | h
      · rw [← e] at h; exact hn h
      · omega
  · have h1 := R.stable b o v h
    have hlt : b < w.heap.size := by
      rcases Nat.lt_or_ge b w.heap.size with h' | h'
      · exact h'
      · simp [World.cell?, Array.getElem?_eq_none h'] at h1
    have hk := keep b hlt (fun id hb e => by
      obtain ⟨t, cs, ho⟩ := hbase id hb
      have h2 : C.S b o = some v := h
      have := (R.hown id _ ho).2.2.2 o
      rw [← e, h2] at this
      cases this)
    exact (World.cell?_of_block hk).trans h1
  · intro j T cs' h
    simp only [lkp_cons] at h
    split at h
    · rename_i e
      subst e
      obtain ⟨rfl, rfl⟩ := PObj.box.inj (Option.some.inj h)
      refine ⟨us', by rw [hnew]; exact D.row, by simpa using hr.1, fun k v p hv hp => ?_⟩
      have := hr.2 k v p (by simpa using hv) hp
      exact ⟨this.1, this.2.ext X⟩
    · obtain ⟨h0, hne⟩ := hh j _ h
      obtain ⟨vs, h1, h2, h3⟩ := R.box j T cs' h0
      refine ⟨vs, ?_, h2, fun i v p hv hp => ⟨(h3 i v p hv hp).1, (h3 i v p hv hp).2.ext X⟩⟩
      rw [hρ j _ h, keep _ (lt h1) (fun id hb e => ?_)]
      · exact h1
      · obtain ⟨t, cs, ho⟩ := hbase id hb
        exact hne (by rw [hb, R.hinj j id _ _ h0 ho e])
  · intro j s pos h
    simp only [lkp_cons] at h
    split at h
    · cases h
    · obtain ⟨h0, hne⟩ := hh j _ h
      have h1 := R.iter j s pos h0
      rw [hρ j _ h, keep _ (lt h1) (fun id hb e => ?_)]
      · exact h1
      · obtain ⟨t, cs, ho⟩ := hbase id hb
        exact hne (by rw [hb, R.hinj j id _ _ h0 ho e])
  · intro j o h
    simp only [lkp_cons] at h
    split at h
    · rename_i e
      subst e
      rw [hnew]
      refine ⟨Nat.lt_succ_self _, hnewb, ?_, hfree⟩
      rcases place with ⟨id, t, cs, _, ho, rfl⟩ | rfl
      · exact (R.hown id _ ho).2.2.1
      · exact .inr R.frame.size
    · obtain ⟨h0, _⟩ := hh j _ h
      obtain ⟨h1, h2, h3, h4⟩ := R.hown j o h0
      rw [hρ j _ h]
      exact ⟨Nat.lt_succ_of_lt h1, Nat.lt_of_lt_of_le h2 D.grew, h3, h4⟩
  · have apart : ∀ j o, lkp heap' j = some o → C.ρ j ≠ b' := fun j o h e => by
      obtain ⟨h0, hne⟩ := hh j o h
      rcases place with ⟨id, t, cs, hb, ho, rfl⟩ | rfl
      · exact hne (by rw [hb, R.hinj j id _ _ h0 ho e])
      · have := (R.hown j o h0).2.1; omega
    intro j k oj ok h1 h2 he
    simp only [lkp_cons] at h1 h2
    split at h1 <;> split at h2
    · rename_i e1 e2
      rw [e1, e2]
    · rename_i e1 e2
      subst e1
      rw [hnew, hρ k _ h2] at he
      exact absurd he.symm (apart k _ h2)
    · rename_i e1 e2
      subst e2
      rw [hnew, hρ j _ h1] at he
      exact absurd he (apart j _ h1)
    · rw [hρ j _ h1, hρ k _ h2] at he
      exact R.hinj j k oj ok (hh j _ h1).1 (hh k _ h2).1 he
  · intro k t h
    obtain ⟨h1, h2, ⟨vs, h3, h4⟩, h5⟩ := R.tok k t h
    refine ⟨h1, h2, ⟨vs, ?_, h4⟩, h5⟩
    show w'.heap[(C.τ k).1]? = _
    rw [keep _ (lt h3) (fun id hb e => ?_)]
    · exact h3
    · obtain ⟨t', cs, ho⟩ := hbase id hb
      exact R.tbox id _ k t ho h e.symm
  · intro j oj k t h1 h2
    simp only [lkp_cons] at h1
    split at h1
    · rename_i e
      subst e
      rw [hnew]
      rcases place with ⟨id, t', cs, hb, ho, rfl⟩ | rfl
      · exact R.tbox id _ k t ho h2
      · obtain ⟨_, _, ⟨vs, h3, _⟩, _⟩ := R.tok k t h2
        have := lt h3
        show w.heap.size ≠ (C.τ k).1
        omega
    · rw [hρ j _ h1]
      exact R.tbox j oj k t (hh j _ h1).1 h2
theorem ltL_val : ∀ (l : List Value) (a b : Nat), PV.ltL a b (l.map .val) = true
  | [], _, _ => rfl
  | v :: r, a, b => by rw [List.map_cons, PV.ltL, ltL_val r a b]; rfl
theorem OkI.insert {P : Program} {F : FuncId} {E : TypeId} {sz by_ : Nat} {z : Value} (hent : enters P F = true) (RR : Roads P F E sz by_ z) (hzs : z.cells.size = sz) (hz1 : ∀ u ∈ z.cells.toList, u.oneCell' = true) (hsz : 0 < sz)
    {st : PS} {tk : Nat} {x : List PV} (hx : x.length = sz) (ht : lkp st.toks tk = some ⟨E, sz, 1⟩) (base : Option Nat) (n c i : Nat) (cs rest : List PV) (hcs : cs.length = n * sz) (hrest : rest.length = (c - n) * sz) (hi : i ≤ n) (hn : n ≤ c) (hc : c ≤ maxLen) (hn1 : (n + 1) * by_ ≤ 140737488355328) (hn63 : n + 1 ≤ maxLen)
    (h0 : base = none → c = 0) (hb : ∀ id, base = some id → lkp st.heap id = some (.box E (cs ++ rest))) (heap' : List (Nat × PObj)) (hh : ∀ j o, lkp heap' j = some o → lkp st.heap j = some o ∧ base ≠ some j) :
    OkI P F [insArg base n c, vI i, .row tk [x]] st (fun r st' => ∃ c' rest', n + 1 ≤ c' ∧ c' ≤ maxLen ∧ rest'.length = (c' - (n + 1)) * sz ∧ (∀ a b, PV.ltL a b rest' = true) ∧ r = .ms st.nx 0 (n + 1) c' ∧
      st' = { st with heap := (st.nx, .box E (cs.take (i * sz) ++ x ++ cs.drop (i * sz) ++ rest')) :: heap', nx := st.nx + 1 }) := by
  refine ⟨hent, fun own S0 w0 w C vals R hsv hrep => ?_⟩
  obtain ⟨v0, v1, v2, rfl⟩ : ∃ v0 v1 v2, vals = #[v0, v1, v2] := by
    cases vals with
    | mk l => match l, hsv with
      | [a, b, c], _ => exact ⟨a, b, c, rfl⟩
  have r0 := hrep 0 v0 _ rfl rfl
  obtain ⟨rfl, _⟩ := rep_val (hrep 1 v1 _ rfl rfl)
  have r2 := hrep 2 v2 _ rfl rfl
  cases r2 with
  | frz h => cases h
  | row h hk htk =>
  obtain ⟨g1, g2, g3⟩ := htk _ ht
  obtain rfl := g3 rfl
  obtain ⟨t1, t2, ⟨uv, t3, t4⟩, t5, t6, t7⟩ := R.tok tk _ ht
  have hvb : w.heap[(C.τ tk).1]? = some (.cells uv E (0, 0)) := t3
  have hvs : uv.size = (C.τ tk).2 * sz := t4
  have hv1 : 1 ≤ (C.τ tk).2 := t5
  -- the element's cells
  have hcell : ∀ j, j < sz → ∃ u p, uv[j]? = some u ∧ x[j]? = some p ∧ RepF C.S u p := by
    cases h with
    | sl f hn' hc' hsz' hA hr =>
      obtain ⟨b, o, e, hS⟩ := hA (by simp)
      obtain ⟨rfl, rfl⟩ : (C.τ tk).1 = b ∧ 0 = o := by
        have := Option.some.inj e
        exact ⟨congrArg Addr.block this, congrArg Addr.off this⟩
      rename_i sz'
      have hsz2 : sz' = sz := by rw [← hsz' x (by simp), hx]
      subst hsz2
      intro j hj
      have h1 := hS 0 j (by simp) hj
      have h2 := R.stable _ _ _ h1
      have hp : x[j]? = some (x[j]'(by omega)) := List.getElem?_eq_getElem (by omega)
      refine ⟨f 0 j, _, ?_, hp, hr 0 j x _ rfl hp⟩
      rw [Lib.cell_of_heap hvb] at h2
      rw [← h2]
      congr 1
      omega
  have hbase : ∀ id, base = some id → ∃ t cs, lkp st.heap id = some (.box t cs) := fun id h => ⟨_, _, hb id h⟩
  -- the old row
  obtain ⟨us, hus, husz, hus1, husr⟩ : ∃ us : Array Value, us.size = c * sz ∧ (∀ b, base.map C.ρ = some b → w.heap[b]? = some (.cells us E (0, 0)) ∧ (C.τ tk).1 ≠ b) ∧ (∀ (j : Nat) (u : Value), us[j]? = some u → u.oneCell' = true) ∧
      (∀ (j : Nat) (u : Value) (p : PV), us[j]? = some u → (cs ++ rest)[j]? = some p → RepV C st.toks (· < st.nx) (· < st.nt) u p) := by
    cases hbb : base with
    | none =>
      have := h0 hbb
      subst this
      exact ⟨#[], by simp, fun b h => (by cases h), fun j u h => (by simp at h), fun j u p h => (by simp at h)⟩
    | some id =>
      obtain ⟨us, q1, q2, q3⟩ := R.box id E _ (hb id hbb)
      have hlen : us.size = c * sz := by
        rw [q2, List.length_append, hcs, hrest, ← Nat.add_mul]
        congr 1
        omega
      refine ⟨us, hlen, fun b h => ?_, fun j u hu => ?_, fun j u p hu hp => (q3 j u p hu hp).2⟩
      · obtain rfl := Option.some.inj h
        exact ⟨q1, fun e => R.tbox id _ tk _ (hb id hbb) ht e.symm⟩
      · have hj : j < (cs ++ rest).length := by rw [← q2]; exact (Array.getElem?_eq_some_iff.1 hu).1
        exact (q3 j u _ hu (List.getElem?_eq_getElem hj)).1
  have hv0 : v0 = .slice ((base.map C.ρ).map fun b => ⟨b, 0, none⟩) n c := by
    cases hbb : base with
    | none =>
      have hc0 := h0 hbb
      rw [hbb] at r0
      obtain ⟨rfl, _⟩ := rep_val r0
      have hn0 : n = 0 := by omega
      rw [hc0, hn0]
      rfl
    | some id =>
      rw [hbb] at r0
      exact (rep_ms r0).1
  subst hv0
  refine (RR.ins hzs hz1 hsz w (base.map C.ρ) n c i (C.τ tk).1 (C.τ tk).2 us uv hi hn hc hn1 hn63 hus (fun h => h0 (by simpa using h)) husz hus1 hv1 hvb hvs (fun j u hj hu => by
    obtain ⟨u', p, e1, _, e3⟩ := hcell j hj
    rw [e1] at hu
    obtain rfl := Option.some.inj hu
    exact e3.one)).mono ?_
  rintro e w' ⟨b', c', us', rfl, D⟩
  have hiz : i * sz ≤ n * sz := Nat.mul_le_mul_right _ hi
  have hn1z : (n + 1) * sz = n * sz + sz := Nat.succ_mul _ _
  have hcz : (n + 1) * sz ≤ us'.size := by rw [D.size]; exact Nat.mul_le_mul_right _ D.room
  have hlen : (cs.take (i * sz) ++ x ++ cs.drop (i * sz)).length = (n + 1) * sz := by
    simp only [List.length_append, List.length_take, List.length_drop, hcs, hx]
    omega
  have hrep' : RepL C st.toks (· < st.nx) (· < st.nt) us'.toList (cs.take (i * sz) ++ x ++ cs.drop (i * sz) ++ (us'.toList.drop ((n + 1) * sz)).map .val) := by
    refine ⟨by rw [List.length_append, hlen, List.length_map, List.length_drop]; simp; omega, fun j u p hu hp => ?_⟩
    have hu' : us'[j]? = some u := by simpa using hu
    refine ⟨D.one j u hu', ?_⟩
    by_cases h1 : j < (n + 1) * sz
    · rw [List.getElem?_append_left (by omega)] at hp
      by_cases h2 : j < i * sz
      · rw [List.getElem?_append_left (by simp only [List.length_append, List.length_take, hcs, hx]; omega), List.getElem?_append_left (by simp only [List.length_take, hcs]; omega), List.getElem?_take, if_pos h2] at hp
        rw [D.front j h2] at hu'
        exact husr j u p hu' (by rw [List.getElem?_append_left (by omega)]; exact hp)
      · by_cases h3 : j < i * sz + sz
        · rw [List.getElem?_append_left (by simp only [List.length_append, List.length_take, hcs, hx]; omega), List.getElem?_append_right (by simp only [List.length_take, hcs]; omega)] at hp
          simp only [List.length_take, hcs] at hp
          rw [Nat.min_eq_left hiz] at hp
          have h4 := D.mid (j - i * sz) (by omega)
          rw [show i * sz + (j - i * sz) = j by omega, hu'] at h4
          obtain ⟨u', p', e1, e2, e3⟩ := hcell (j - i * sz) (by omega)
          rw [← h4] at e1
          rw [e2] at hp
          obtain rfl := Option.some.inj e1
          obtain rfl := Option.some.inj hp
          exact .frz e3
        · rw [List.getElem?_append_right (by simp only [List.length_append, List.length_take, hcs, hx]; omega)] at hp
          simp only [List.length_append, List.length_take, hcs, hx, List.getElem?_drop] at hp
          rw [Nat.min_eq_left hiz] at hp
          have h4 := D.back (j - sz) (by omega) (by omega)
          rw [show j - sz + sz = j by omega, hu'] at h4
          refine husr (j - sz) u p h4.symm ?_
          rw [List.getElem?_append_left (by omega), ← hp]
          congr 1
          omega
    · rw [List.getElem?_append_right (by omega), hlen, List.getElem?_map, List.getElem?_drop, show (n + 1) * sz + (j - (n + 1) * sz) = j by omega, hu] at hp
      obtain rfl := Option.some.inj hp
      exact .frz (.val (D.one j u hu'))
  have R' := Rel.put_row R base hbase D heap' hh _ hrep'
  refine ⟨_, _, _, C.at st.nx b', ⟨c', _, D.room, D.small, ?_, ltL_val _, rfl, rfl⟩, rfl, R', R.ext_at b' st.nx (Nat.lt_irrefl _) (fun j hj => Nat.lt_succ_of_lt hj), ?_⟩
  · rw [List.length_map, List.length_drop]
    simp only [Array.length_toList]
    rw [D.size, ← Nat.sub_mul]
  · have : RepV (C.at st.nx b') st.toks (· < st.nx + 1) (· < st.nt) (.slice (some ⟨(C.at st.nx b').ρ st.nx, 0, none⟩) (n + 1) c') (.ms st.nx 0 (n + 1) c') := .ms (Nat.lt_succ_self _) D.room
    have hb' : (C.at st.nx b').ρ st.nx = b' := by simp [Cx.at]
    rw [hb'] at this
    exact this
end Go.Proofs.Ytefhongghmimgaa
