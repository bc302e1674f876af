/-
  Regions that draw their order: whatever isn't ordered changes places.
-/
import Derived.Test.YtegehnojbfedlaaDoorPwE
namespace Go.Pw
open Go Go.RowKit
set_option linter.unusedVariables false
set_option linter.unusedSimpArgs false

/-- The same to whoever looks. -/
structure Eqv (s s' : PS) : Prop where
  env : ∀ t, lkp s.env t = lkp s'.env t
  heap : ∀ t, lkp s.heap t = lkp s'.heap t
  toks : ∀ t, lkp s.toks t = lkp s'.toks t
theorem Eqv.refl (s : PS) : Eqv s s := ⟨fun _ => rfl, fun _ => rfl, fun _ => rfl⟩
theorem Eqv.symm {s s' : PS} (h : Eqv s s') : Eqv s' s := ⟨fun t => (h.env t).symm, fun t => (h.heap t).symm, fun t => (h.toks t).symm⟩
theorem Eqv.trans {s s' s'' : PS} (h : Eqv s s') (k : Eqv s' s'') : Eqv s s'' := ⟨fun t => (h.env t).trans (k.env t), fun t => (h.heap t).trans (k.heap t), fun t => (h.toks t).trans (k.toks t)⟩
theorem Eqv.ev {s s' : PS} (h : Eqv s s') (x : Operand) : s.ev x = s'.ev x := by
  cases x <;> simp only [PS.ev]
  exact h.env _
theorem Delta.apply_env (dst : Option Tmp) (s : PS) (d : Delta) (t : Nat) : lkp (d.apply dst s).env t = if dst = some t then some (d.res.getD (.tup [])) else lkp s.env t := by
  unfold Delta.apply
  cases hr : d.res with
  | some p =>
    cases dst with
    | none => simp [PS.put]
    | some k => simp only [PS.put, lkp_cons, Option.some.injEq]; by_cases h : t = k <;> simp [h, eq_comm]
  | none =>
    cases dst with
    | none => simp [PS.kill, PS.put]
    | some k => simp only [PS.kill, PS.put, lkp_cons, Option.some.injEq]; by_cases h : t = k <;> simp [h, eq_comm]
theorem Delta.apply_heap (dst : Option Tmp) (s : PS) (d : Delta) (t : Nat) : lkp (d.apply dst s).heap t = match d.obj with
    | some (_, i, ob) => if t = i then some ob else lkp s.heap t
    | none => lkp s.heap t := by
  unfold Delta.apply
  cases hr : d.res <;> cases dst <;> (cases ho : d.obj with
    | none => rfl
    | some x => obtain ⟨b, i, ob⟩ := x; cases b <;> simp only [PS.put, PS.kill, lkp_cons, lkp_upd])
theorem Delta.apply_toks (dst : Option Tmp) (s : PS) (d : Delta) (t : Nat) : lkp (d.apply dst s).toks t = match d.tok with
    | some (i, ob) => if t = i then some ob else lkp s.toks t
    | none => lkp s.toks t := by
  unfold Delta.apply
  cases hr : d.res <;> cases dst <;> (cases ho : d.tok with
    | none => rfl
    | some x => obtain ⟨i, ob⟩ := x; simp only [PS.put, PS.kill, lkp_upd])
theorem Eqv.apply {s s' : PS} (h : Eqv s s') (dst : Option Tmp) (d : Delta) : Eqv (d.apply dst s) (d.apply dst s') :=
  ⟨fun t => by rw [Delta.apply_env, Delta.apply_env, h.env], fun t => by rw [Delta.apply_heap, Delta.apply_heap, h.heap], fun t => by rw [Delta.apply_toks, Delta.apply_toks, h.toks]⟩

section
variable {P : Program} {ops : Array Oper}
/-- One operation of a region, with its guard. -/
def elemD (P : Program) (ops : Array Oper) (o : Oper) (st : PS) (id tk : Nat) (K : Delta → Prop) : Prop :=
  match o.guard with
  | none => stepD P o st id tk K
  | some (g, b) => guardK ops g st fun t => (t = some b → stepD P o st id tk K) ∧ (t ≠ some b → K ⟨none, none, none⟩)
theorem guardK_congr {g : Nat} {s s' : PS} {K : Option Bool → Prop} (h : ∀ d, (ops[g]?).bind (·.dst) = some d → lkp s'.env d = lkp s.env d) (k : guardK ops g s K) : guardK ops g s' K := by
  unfold guardK at k ⊢
  replace k := bindO_elim k
  obtain ⟨d, hd, k⟩ := k
  rw [hd, bindO_some, h d hd]
  exact k
theorem guardK_elim {g : Nat} {s : PS} {K : Option Bool → Prop} (k : guardK ops g s K) : ∃ t, K t ∧ ∀ K' : Option Bool → Prop, K' t → guardK ops g s K' := by
  unfold guardK at k ⊢
  replace k := bindO_elim k
  obtain ⟨d, hd, k⟩ := k
  replace k := bindO_elim k
  obtain ⟨p, hp, k⟩ := k
  simp only [hd, bindO_some, hp]
  split at k
  · exact ⟨_, k, fun K' h => h⟩
  · exact ⟨_, k, fun K' h => h⟩
  · exact k.elim
theorem elemD_det {o : Oper} {st : PS} {id tk : Nat} : Det (elemD P ops o st id tk) := by
  unfold elemD
  split
  · exact stepD_det
  · rename_i g b _
    refine ⟨fun K h => ?_⟩
    obtain ⟨t, ⟨h1, h2⟩, hk⟩ := guardK_elim h
    by_cases ht : t = some b
    · obtain ⟨x, hx, hx'⟩ := stepD_det.out _ (h1 ht)
      exact ⟨x, hx, fun K' k' => hk _ ⟨fun _ => hx' K' k', fun e => absurd ht e⟩⟩
    · exact ⟨_, h2 ht, fun K' k' => hk _ ⟨fun e => absurd e ht, fun _ => k'⟩⟩
theorem mem_reads_op {o : Oper} {t : Nat} (h : Operand.tmp t ∈ o.op.operands.toList) : t ∈ readsOf ops o := by
  unfold readsOf
  exact List.mem_append.2 (.inl (List.mem_filterMap.2 ⟨_, h, rfl⟩))
theorem mem_reads_guard {o : Oper} {g : Nat} {b : Bool} {d : Nat} (hg : o.guard = some (g, b)) (h : (ops[g]?).bind (·.dst) = some d) : d ∈ readsOf ops o := by
  unfold readsOf
  refine List.mem_append.2 (.inr ?_)
  rw [hg]
  simp [h]
/-- The states agree on what an operation looks at. -/
structure AgreeO (ops : Array Oper) (o : Oper) (s s' : PS) : Prop where
  env : ∀ t ∈ readsOf ops o, lkp s'.env t = lkp s.env t
  obj : kindOf o = 1 ∨ kindOf o = 3 ∨ kindOf o = 4 → ∀ x ∈ o.op.operands.toList, ∀ id, ((∃ off, s.ev x = some (.ptr id off)) ∨ ∃ lo n c, s.ev x = some (.ms id lo n c)) → lkp s'.heap id = lkp s.heap id
  tok : kindOf o = 4 → ∀ x ∈ o.op.operands.toList, ∀ k xs, s.ev x = some (.row k xs) → lkp s'.toks k = lkp s.toks k
theorem AgreeO.evs {o : Oper} {s s' : PS} (A : AgreeO ops o s s') : ∀ x ∈ o.op.operands.toList, s'.ev x = s.ev x := by
  intro x hx
  cases x with
  | tmp t => exact A.env t (mem_reads_op hx)
  | _ => rfl
theorem AgreeO.symm {o : Oper} {s s' : PS} (A : AgreeO ops o s s') : AgreeO ops o s' s :=
  ⟨fun t ht => (A.env t ht).symm, fun hk x hx id h => (A.obj hk x hx id (by rw [A.evs x hx] at h; exact h)).symm, fun hk x hx k xs h => (A.tok hk x hx k xs (by rw [A.evs x hx] at h; exact h)).symm⟩
theorem AgreeO.of_eqv {o : Oper} {s s' : PS} (h : Eqv s s') : AgreeO ops o s s' :=
  ⟨fun t _ => (h.env t).symm, fun _ _ _ id _ => (h.heap id).symm, fun _ _ _ k _ _ => (h.toks k).symm⟩
theorem elemD_congr {o : Oper} {id tk : Nat} {K : Delta → Prop} {s s' : PS} (A : AgreeO ops o s s') (h : elemD P ops o s id tk K) : elemD P ops o s' id tk K := by
  have A' : Agree o.op.operands.toList (kindOf o = 1 ∨ kindOf o = 3 ∨ kindOf o = 4) (kindOf o = 4) s s' :=
    ⟨A.evs, fun hk x hx id off h ob hob => by rw [A.obj hk x hx id (.inl ⟨off, h⟩)]; exact hob, fun hk x hx id lo n c h ob hob => by rw [A.obj hk x hx id (.inr ⟨lo, n, c, h⟩)]; exact hob,
      fun hk x hx k xs h t ht => by rw [A.tok hk x hx k xs h]; exact ht⟩
  unfold elemD at h ⊢
  split at h
  · exact stepD_congr A' h
  · rename_i g b hg
    obtain ⟨t, ⟨h1, h2⟩, hk⟩ := guardK_elim h
    have hk' := guardK_congr (s' := s') (fun d hd => A.env d (mem_reads_guard hg hd)) (hk (fun u => u = t) rfl)
    obtain ⟨t', e, hk2⟩ := guardK_elim hk'
    subst e
    exact hk2 _ ⟨fun e => stepD_congr A' (h1 e), h2⟩
theorem elemD_shape {o : Oper} {id tk : Nat} {δ : Delta} {st : PS} (h : elemD P ops o st id tk (· = δ)) :
    (∀ i ob, δ.obj = some (true, i, ob) → i = id) ∧ (∀ i ob, δ.obj = some (false, i, ob) → kindOf o = 3 ∧ ∃ ob', lkp st.heap i = some ob') ∧
    (∀ k t, δ.tok = some (k, t) → k = tk ∧ (kindOf o = 2 ∨ kindOf o = 4) ∨ kindOf o = 4 ∧ ∃ t', lkp st.toks k = some t') := by
  unfold elemD at h
  split at h
  · exact stepD_shape h
  · rename_i g b hg
    obtain ⟨t, ⟨h1, h2⟩, hk⟩ := guardK_elim h
    by_cases ht : t = some b
    · exact stepD_shape (h1 ht)
    · have := h2 ht
      subst this
      exact ⟨fun i ob e => (by cases e), fun i ob e => (by cases e), fun k t e => (by cases e)⟩

/-- Every object and row that a slot tells, and every one that lies, is among U, V. -/
structure Inh (U V : Nat → Prop) (st : PS) : Prop where
  ptr : ∀ t id off, lkp st.env t = some (.ptr id off) → U id
  ms : ∀ t id lo n c, lkp st.env t = some (.ms id lo n c) → U id
  row : ∀ t k xs, lkp st.env t = some (.row k xs) → V k
  heap : ∀ id ob, lkp st.heap id = some ob → U id
  toks : ∀ k t, lkp st.toks k = some t → V k
theorem rep_row_V {C : Cx} {T : List (Nat × Tok)} {U V : Nat → Prop} {v : Value} {k : Nat} {xs : List (List PV)} (h : RepV C T U V v (.row k xs)) : V k := by
  cases h with
  | frz h => cases h
  | row h hk ht => exact hk
theorem StN.inh {own : Nat → Prop} {S0 : Base} {w0 w : World} {N : Nat} {U V : Nat → Prop} {st : PS} {a : Act} (h : StN own S0 w0 N U V st a w) : Inh U V st := by
  obtain ⟨h1, h2, C, R, E⟩ := h
  refine ⟨fun t id off e => ?_, fun t id lo n c e => ?_, fun t k xs e => ?_, fun id ob e => (R.hown id ob e).1, fun k t e => (R.tok k t e).1⟩
  · obtain ⟨v, _, r⟩ := E t _ e; exact (rep_ptr r).2
  · obtain ⟨v, _, r⟩ := E t _ e; exact (rep_ms r).2.1
  · obtain ⟨v, _, r⟩ := E t _ e; exact rep_row_V r
theorem constPV_no {v : Value} : (∀ id off, constPV v ≠ .ptr id off) ∧ (∀ id lo n c, constPV v ≠ .ms id lo n c) ∧ (∀ k xs, constPV v ≠ .row k xs) := by
  unfold constPV
  split <;> refine ⟨fun _ _ => ?_, fun _ _ _ _ => ?_, fun _ _ => ?_⟩ <;> exact fun e => by cases e
theorem Inh.ev_obj {U V : Nat → Prop} {st : PS} (h : Inh U V st) {x : Operand} {id : Nat} (k : (∃ off, st.ev x = some (.ptr id off)) ∨ ∃ lo n c, st.ev x = some (.ms id lo n c)) : U id := by
  cases x with
  | tmp t =>
    rcases k with ⟨off, k⟩ | ⟨lo, n, c, k⟩
    · exact h.ptr t id off k
    · exact h.ms t id lo n c k
  | const v =>
    rcases k with ⟨off, k⟩ | ⟨lo, n, c, k⟩ <;> simp only [PS.ev] at k <;> split at k
    · exact (constPV_no.1 _ _ (Option.some.inj k)).elim
    · cases k
    · exact (constPV_no.2.1 _ _ _ _ (Option.some.inj k)).elim
    · cases k
  | func f => rcases k with ⟨off, k⟩ | ⟨lo, n, c, k⟩ <;> simp [PS.ev] at k
  | global g => rcases k with ⟨off, k⟩ | ⟨lo, n, c, k⟩ <;> simp [PS.ev] at k
theorem Inh.ev_tok {U V : Nat → Prop} {st : PS} (h : Inh U V st) {x : Operand} {id : Nat} {xs : List (List PV)} (k : st.ev x = some (.row id xs)) : V id := by
  cases x with
  | tmp t => exact h.row t id xs k
  | const v =>
    simp only [PS.ev] at k
    split at k
    · exact (constPV_no.2.2 _ _ (Option.some.inj k)).elim
    · cases k
  | func f => simp [PS.ev] at k
  | global g => simp [PS.ev] at k

/-- Neither meets the other. -/
structure Indep (ops : Array Oper) (x y : Oper) : Prop where
  kind : conflict (kindOf x) (kindOf y) = false
  d : ∀ d, x.dst = some d → d ∉ readsOf ops y
  e : ∀ d, y.dst = some d → d ∉ readsOf ops x
  dd : ∀ d, x.dst = some d → y.dst ≠ some d
theorem Indep.symm {x y : Oper} (h : Indep ops x y) : Indep ops y x :=
  ⟨by have := h.kind; unfold conflict at this ⊢; cases h1 : kindOf x == 3 <;> cases h2 : kindOf y == 3 <;> cases h3 : kindOf x == 1 <;> cases h4 : kindOf y == 1 <;> cases h5 : kindOf x == 4 <;> cases h6 : kindOf y == 4 <;> simp_all,
    h.e, h.d, fun d h1 h2 => h.dd d h2 h1⟩
theorem Indep.of {x y : Oper} (h : (!conflict (kindOf x) (kindOf y) && !slotsClash ops x y) = true) : Indep ops x y := by
  simp only [Bool.and_eq_true, Bool.not_eq_true', slotsClash, Bool.or_eq_false_iff] at h
  obtain ⟨h1, h2, h3⟩ := h
  refine ⟨h1, fun d hd hm => ?_, fun d hd hm => ?_, fun d hd hm => ?_⟩
  · rw [hd] at h2; simp only [Bool.or_eq_false_iff] at h2; have := h2.1; simp [hm] at this
  · rw [hd] at h3; simp [hm] at h3
  · rw [hd] at h2; simp only [Bool.or_eq_false_iff] at h2; have := h2.2; simp [hm] at this

/-- What y turns x does not see. -/
theorem agree_apply {x y : Oper} {s : PS} {U V : Nat → Prop} {id tk : Nat} {d : Delta} (I : Indep ops x y) (hi : Inh U V s) (hU : ¬ U id) (hV : ¬ V tk) (h : elemD P ops y s id tk (· = d)) : AgreeO ops x s (d.apply y.dst s) := by
  obtain ⟨s1, s2, s3⟩ := elemD_shape h
  refine ⟨fun t ht => ?_, fun hk o ho i hx => ?_, fun hk o ho k xs hx => ?_⟩
  · rw [Delta.apply_env, if_neg (fun e => I.e t e ht)]
  · rw [Delta.apply_heap]
    have hUi := hi.ev_obj hx
    split
    · rename_i b i' ob e
      rw [if_neg]
      rintro rfl
      cases b with
      | true => exact hU (s1 _ _ e ▸ hUi)
      | false =>
        have := (s2 _ _ e).1
        have hc := I.kind
        rw [this] at hc
        rcases hk with hk | hk | hk <;> rw [hk] at hc <;> simp [conflict] at hc
    · rfl
  · rw [Delta.apply_toks]
    have hVk := hi.ev_tok hx
    split
    · rename_i i' t' e
      rw [if_neg]
      rintro rfl
      rcases s3 _ _ e with ⟨h1, _⟩ | ⟨h1, _⟩
      · exact hV (h1 ▸ hVk)
      · have hc := I.kind
        rw [hk, h1] at hc
        simp [conflict] at hc
    · rfl
theorem swap {x y : Oper} {s : PS} {U V : Nat → Prop} {ix tx iy ty : Nat} {dx dy : Delta} (I : Indep ops x y) (hi : Inh U V s) (hUx : ¬ U ix) (hVx : ¬ V tx) (hUy : ¬ U iy) (hVy : ¬ V ty) (hxy : ix ≠ iy) (txy : tx ≠ ty)
    (h : elemD P ops y s iy ty (· = dy)) (k : elemD P ops x (dy.apply y.dst s) ix tx (· = dx)) :
    elemD P ops x s ix tx (· = dx) ∧ elemD P ops y (dx.apply x.dst s) iy ty (· = dy) ∧ Eqv (dx.apply x.dst (dy.apply y.dst s)) (dy.apply y.dst (dx.apply x.dst s)) := by
  have h1 : elemD P ops x s ix tx (· = dx) := elemD_congr (agree_apply I hi hUy hVy h).symm k
  have h2 : elemD P ops y (dx.apply x.dst s) iy ty (· = dy) := elemD_congr (agree_apply I.symm hi hUx hVx h1) h
  refine ⟨h1, h2, ?_⟩
  obtain ⟨x1, x2, x3⟩ := elemD_shape h1
  obtain ⟨y1, y2, y3⟩ := elemD_shape h
  refine ⟨fun t => ?_, fun t => ?_, fun t => ?_⟩
  · simp only [Delta.apply_env]
    by_cases e1 : x.dst = some t
    · rw [if_pos e1, if_neg (I.dd t e1), if_pos e1]
    · rw [if_neg e1, if_neg e1]
  · simp only [Delta.apply_heap]
    cases ox : dx.obj with
    | none => rfl
    | some ex =>
      cases oy : dy.obj with
      | none => rfl
      | some ey =>
        obtain ⟨bx, kx, obx⟩ := ex
        obtain ⟨by_, ky, oby⟩ := ey
        have hne : kx ≠ ky := by
          rintro rfl
          cases bx <;> cases by_
          · have a := (x2 _ _ ox).1; have b := (y2 _ _ oy).1; have c := I.kind; rw [a, b] at c; simp [conflict] at c
          · obtain ⟨_, ob', e⟩ := x2 _ _ ox; exact hUy (y1 _ _ oy ▸ hi.heap _ _ e)
          · obtain ⟨_, ob', e⟩ := y2 _ _ oy; exact hUx (x1 _ _ ox ▸ hi.heap _ _ e)
          · exact hxy ((x1 _ _ ox).symm.trans (y1 _ _ oy))
        simp only
        by_cases e1 : t = kx
        · rw [if_pos e1, if_neg (fun e2 => hne (e1.symm.trans e2)), if_pos e1]
        · rw [if_neg e1, if_neg e1]
  · simp only [Delta.apply_toks]
    cases ox : dx.tok with
    | none => rfl
    | some ex =>
      cases oy : dy.tok with
      | none => rfl
      | some ey =>
        obtain ⟨kx, obx⟩ := ex
        obtain ⟨ky, oby⟩ := ey
        have hne : kx ≠ ky := by
          rintro rfl
          rcases x3 _ _ ox with ⟨a, _⟩ | ⟨a, a'⟩ <;> rcases y3 _ _ oy with ⟨b, _⟩ | ⟨b, b'⟩
          · exact txy (a.symm.trans b)
          · obtain ⟨t', e⟩ := b'; exact hVx (a ▸ hi.toks _ _ e)
          · obtain ⟨t', e⟩ := a'; exact hVy (b ▸ hi.toks _ _ e)
          · have c := I.kind; rw [a, b] at c; simp [conflict] at c
        simp only
        by_cases e1 : t = kx
        · rw [if_pos e1, if_neg (fun e2 => hne (e1.symm.trans e2)), if_pos e1]
        · rw [if_neg e1, if_neg e1]

/-- Operations by their places. -/
def dopsL (P : Program) (ops : Array Oper) (nx0 nt0 : Nat) : List (Nat × Oper) → PS → (PS → Prop) → Prop
  | [], st, K => K st
  | (i, o) :: r, st, K => elemD P ops o st (nx0 + i) (nt0 + i) fun d => dopsL P ops nx0 nt0 r (d.apply o.dst st) K
def placed : Nat → List Oper → List (Nat × Oper)
  | _, [] => []
  | i, o :: r => (i, o) :: placed (i + 1) r
theorem skip_apply (dst : Option Tmp) (st : PS) : (⟨none, none, none⟩ : Delta).apply dst st = st.kill dst := rfl
theorem dops_dopsL {nx0 nt0 : Nat} {K : PS → Prop} : ∀ (l : List Oper) (i : Nat) (st : PS), dops0 P ops nx0 nt0 i l st K → dopsL P ops nx0 nt0 (placed i l) st (fun s => K { s with nx := nx0 + (i + l.length), nt := nt0 + (i + l.length) })
  | [], i, st, h => h
  | o :: r, i, st, h => by
    have ih : ∀ s, dops0 P ops nx0 nt0 (i + 1) r s K → dopsL P ops nx0 nt0 (placed (i + 1) r) s (fun s => K { s with nx := nx0 + (i + (o :: r).length), nt := nt0 + (i + (o :: r).length) }) := fun s hs => by
      have := dops_dopsL r (i + 1) s hs
      rw [show i + (o :: r).length = i + 1 + r.length by simp; omega]
      exact this
    simp only [dops0] at h
    simp only [placed, dopsL, elemD]
    cases hg : o.guard with
    | none => rw [hg] at h; exact stepD_mono (fun d hd => ih _ hd) h
    | some gb =>
      obtain ⟨g, b⟩ := gb
      rw [hg] at h
      obtain ⟨t, ⟨h1, h2⟩, hk⟩ := guardK_elim h
      exact hk _ ⟨fun e => stepD_mono (fun d hd => ih _ hd) (h1 e), fun e => ih _ (h2 e)⟩
theorem dopsL_eqv {nx0 nt0 : Nat} {K : PS → Prop} (hK : ∀ s s', Eqv s s' → K s → K s') : ∀ (l : List (Nat × Oper)) (s s' : PS), Eqv s s' → dopsL P ops nx0 nt0 l s K → dopsL P ops nx0 nt0 l s' K
  | [], s, s', e, h => hK s s' e h
  | (i, o) :: r, s, s', e, h => by
    simp only [dopsL] at h ⊢
    exact elemD_det.mono (fun d hd => dopsL_eqv hK r _ _ (e.apply _ d) hd) (elemD_congr (AgreeO.of_eqv e) h)
end

section
variable {P : Program} {own : Nat → Prop} {S0 : Base} {w0 : World} {N : Nat} {ops : Array Oper}
def With (U : Nat → Prop) (k : Nat) : Nat → Prop := fun i => U i ∨ i = k
/-- The machine goes a step where the pure reading does. -/
theorem elem_sound {o : Oper} {st : PS} {U V : Nat → Prop} {a : Act} {w : World} {id tk : Nat} {K : Delta → Prop} (hf : fitsDst N o.dst = true) (h : StN own S0 w0 N U V st a w) (hU : ¬ U id) (hV : ¬ V tk) (k : elemD P ops o st id tk K) {Q : Exit → Act → World → Prop} :
    if Region.wanted o (yielded ops a.tmps) then o.wp P a w (fun a' w' => ∃ d, K d ∧ StN own S0 w0 N (With U id) (With V tk) (d.apply o.dst st) a' w') Q else
      ∃ d, K d ∧ StN own S0 w0 N (With U id) (With V tk) (d.apply o.dst st) (a.put o.dst undef) w := by
  have step : stepD P o st id tk K → o.wp P a w (fun a' w' => ∃ d, K d ∧ StN own S0 w0 N (With U id) (With V tk) (d.apply o.dst st) a' w') Q := fun k => by
    obtain ⟨h1, h2, C, R, E⟩ := h
    refine Oper.wp_mono ?_ (stepN_sound (U' := With U id) (V' := With V tk) (K := fun s => ∃ d, K d ∧ s = d.apply o.dst st) E R h1 h2 hf (fun i h => .inl h) (fun i h => .inl h) (fun _ => ⟨hU, .inr rfl⟩) (fun _ => ⟨hV, .inr rfl⟩) (stepD_mono (fun d hd => ⟨d, hd, rfl⟩) k))
    rintro a' w' ⟨st', ⟨d, hd, rfl⟩, hs⟩
    exact ⟨d, hd, hs⟩
  unfold elemD at k
  split at k
  · rename_i hg
    have : Region.wanted o (yielded ops a.tmps) = true := by simp [Region.wanted, hg]
    rw [if_pos this]
    exact step k
  · rename_i g b hg
    obtain ⟨t, ht, k1, k2⟩ := guard_sound h k
    by_cases htb : t = some b
    · have : Region.wanted o (yielded ops a.tmps) = true := by simp [Region.wanted, hg, ht, htb]
      rw [if_pos this]
      exact step (k1 htb)
    · have : Region.wanted o (yielded ops a.tmps) = false := by simp [Region.wanted, hg, ht, htb]
      rw [if_neg (by rw [this]; simp)]
      exact ⟨_, k2 htb, ((h.kill o.dst hf).wide (fun j hj => .inl hj) (fun j hj => .inl hj))⟩
theorem upon_out {o : Oper} {a : Act} {R : Act → World → Prop} {r : Result Next} (h : o.upon P a R (fun _ _ _ => False) r) : ∃ a' w', R a' w' := by
  unfold Oper.upon at h
  split at h
  · exact ⟨_, _, h⟩
  · exact ⟨_, _, h⟩
  · exact ⟨_, _, h⟩
  · obtain ⟨e, w', fr, hr, _⟩ := h []
    cases e with
    | returned v => exact ⟨_, _, hr⟩
    | panicked c => exact hr.elim
    | outgrown => obtain ⟨a, w, h⟩ := hr; exact h.elim
  · rename_i row args w'
    obtain ⟨v, w'', hr, _⟩ := h (Frame.ofRow P row args .normal) []
    exact ⟨_, _, hr⟩
  · exact h.elim
  · exact h.elim
theorem wp_out {o : Oper} {a : Act} {w : World} {R : Act → World → Prop} (h : o.wp P a w R (fun _ _ _ => False)) : ∃ a' w', R a' w' := upon_out h
theorem elem_next {o : Oper} {st : PS} {U V : Nat → Prop} {a : Act} {w : World} {id tk : Nat} {K : Delta → Prop} (hf : fitsDst N o.dst = true) (h : StN own S0 w0 N U V st a w) (hU : ¬ U id) (hV : ¬ V tk) (k : elemD P ops o st id tk K) :
    ∃ d a' w', K d ∧ StN own S0 w0 N (With U id) (With V tk) (d.apply o.dst st) a' w' := by
  have := elem_sound (Q := fun _ _ _ => False) hf h hU hV k
  split at this
  · obtain ⟨a', w', d, hd, hs⟩ := wp_out this; exact ⟨d, a', w', hd, hs⟩
  · obtain ⟨d, hd, hs⟩ := this; exact ⟨d, _, _, hd, hs⟩

/-- What meets nobody ahead of it may come first. -/
theorem front {nx0 nt0 : Nat} {K : PS → Prop} (hK : ∀ s s', Eqv s s' → K s → K s') {i : Nat} {o : Oper} {post : List (Nat × Oper)} : ∀ (pre : List (Nat × Oper)) (st : PS) (U V : Nat → Prop) (a : Act) (w : World),
    StN own S0 w0 N U V st a w → dopsL P ops nx0 nt0 (pre ++ (i, o) :: post) st K → (∀ e ∈ pre, fitsDst N e.2.dst = true ∧ e.1 ≠ i ∧ Indep ops o e.2 ∧ ¬ U (nx0 + e.1) ∧ ¬ V (nt0 + e.1)) → (pre.map (·.1)).Nodup → ¬ U (nx0 + i) → ¬ V (nt0 + i) →
    ∃ d, elemD P ops o st (nx0 + i) (nt0 + i) (· = d) ∧ dopsL P ops nx0 nt0 (pre ++ post) (d.apply o.dst st) K
  | [], st, U, V, a, w, h, k, _, _, hU, hV => by
    simp only [List.nil_append, dopsL] at k ⊢
    obtain ⟨d, h1, h2⟩ := elemD_det.out _ k
    exact ⟨d, h2 _ rfl, h1⟩
  | (j, y) :: pre, st, U, V, a, w, h, k, hp, hn, hU, hV => by
    simp only [List.cons_append, dopsL] at k ⊢
    obtain ⟨dy, k1, k2⟩ := elemD_det.out _ k
    obtain ⟨hfy, hji, hI, hUj, hVj⟩ := hp (j, y) (by simp)
    simp only at hfy hji hI hUj hVj
    obtain ⟨dy', a', w', e, hs⟩ := elem_next (K := (· = dy)) hfy h hUj hVj (k2 _ rfl)
    subst e
    simp only [List.map_cons, List.nodup_cons] at hn
    obtain ⟨dx, e1, e2⟩ := front hK pre _ (With U (nx0 + j)) (With V (nt0 + j)) a' w' hs k1 (fun e he => by
      obtain ⟨g1, g2, g3, g4, g5⟩ := hp e (by simp [he])
      have : e.1 ≠ j := fun e' => hn.1 (List.mem_map.2 ⟨e, he, e'⟩)
      exact ⟨g1, g2, g3, fun h => h.elim g4 (fun h => this (by omega)), fun h => h.elim g5 (fun h => this (by omega))⟩) hn.2
      (fun h => h.elim hU (fun h => hji (by omega))) (fun h => h.elim hV (fun h => hji (by omega)))
    obtain ⟨f1, f2, f3⟩ := swap hI h.inh hU hV hUj hVj (by omega) (by omega) (k2 _ rfl) e1
    exact ⟨dx, f1, elemD_det.mono (fun d hd => by subst hd; exact dopsL_eqv hK _ _ _ f3 e2) f2⟩

theorem StN.eqv {U V : Nat → Prop} {st st' : PS} {a : Act} {w : World} (h : StN own S0 w0 N U V st a w) (e : Eqv st' st) : StN own S0 w0 N U V st' a w := by
  obtain ⟨h1, h2, C, R, E⟩ := h
  have X : Ext C C st.toks st'.toks U V U V := ⟨SLe.refl _, fun _ _ => rfl, fun k t _ h => ⟨t, (e.toks k) ▸ h, Nat.le_refl _, rfl, fun _ => rfl⟩, fun _ h => h, fun _ h => h⟩
  refine ⟨h1, h2, C, ⟨R.frame, R.stable, ?_, ?_, ?_, ?_, ?_, ?_, ?_, R.snew, R.sold, R.base.trans X, R.glob⟩, ?_⟩
  · intro id T cs h
    obtain ⟨vs, g1, g2, g3⟩ := R.box id T cs ((e.heap id) ▸ h)
    exact ⟨vs, g1, g2, fun i v p hv hp => ⟨(g3 i v p hv hp).1, (g3 i v p hv hp).2.ext X⟩⟩
  · exact fun id s pos h => R.iter id s pos ((e.heap id) ▸ h)
  · exact fun id o h => R.hown id o ((e.heap id) ▸ h)
  · exact fun i j oi oj g1 g2 => R.hinj i j oi oj ((e.heap i) ▸ g1) ((e.heap j) ▸ g2)
  · exact fun k t h => R.tok k t ((e.toks k) ▸ h)
  · exact fun i oi k t g1 g2 => R.tbox i oi k t ((e.heap i) ▸ g1) ((e.toks k) ▸ g2)
  · exact fun i j oi oj g1 g2 => R.tinj i j oi oj ((e.toks i) ▸ g1) ((e.toks j) ▸ g2)
  · intro t p h
    obtain ⟨v, g1, g2⟩ := E t p ((e.env t) ▸ h)
    exact ⟨v, g1, g2.ext X⟩
end
end Go.Pw
