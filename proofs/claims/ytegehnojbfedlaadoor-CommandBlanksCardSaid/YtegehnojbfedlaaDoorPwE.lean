/-
  A step hangs on what it reads alone; what it may turn.
-/
import Derived.Test.YtegehnojbfedlaaDoorPw12
namespace Go.Pw
open Go Go.RowKit
set_option linter.unusedVariables false
set_option linter.unusedSimpArgs false
section
variable {P : Program} {st st' : PS}

/-- The states agree on what operands read. -/
structure Agree (l : List Operand) (mem : Prop) (toks : Prop) (st st' : PS) : Prop where
  env : ∀ x ∈ l, st'.ev x = st.ev x
  ptr : mem → ∀ x ∈ l, ∀ id off, st.ev x = some (.ptr id off) → ∀ ob, lkp st.heap id = some ob → lkp st'.heap id = some ob
  ms : mem → ∀ x ∈ l, ∀ id lo n c, st.ev x = some (.ms id lo n c) → ∀ ob, lkp st.heap id = some ob → lkp st'.heap id = some ob
  tok : toks → ∀ x ∈ l, ∀ k xs, st.ev x = some (.row k xs) → ∀ t, lkp st.toks k = some t → lkp st'.toks k = some t

theorem evParts_congr : ∀ (l : List (Nat × Operand)), (∀ e ∈ l, st'.ev e.2 = st.ev e.2) → evParts st' l = evParts st l
  | [], _ => rfl
  | (i, x) :: r, h => by
    simp only [evParts]
    rw [h (i, x) (by simp), evParts_congr r (fun e he => h e (by simp [he]))]
theorem evAll_congr : ∀ (l : List Operand), (∀ x ∈ l, st'.ev x = st.ev x) → evAll st' l = evAll st l
  | [], _ => rfl
  | x :: r, h => by
    simp only [evAll]
    rw [h x (by simp), evAll_congr r (fun e he => h e (by simp [he]))]
theorem bounds_congr {lo hi : Option Operand} {len : Nat} {K : Nat → Nat → Prop} (h1 : ∀ x, lo = some x → st'.ev x = st.ev x) (h2 : ∀ x, hi = some x → st'.ev x = st.ev x) : boundsK st' lo hi len K = boundsK st lo hi len K := by
  unfold boundsK
  cases lo <;> cases hi <;> simp only
  · rw [h2 _ rfl]
  · rw [h1 _ rfl]
  · rw [h1 _ rfl, h2 _ rfl]

theorem valK_congr {op : Op} {K : PV → Prop} {mem toks : Prop} (A : Agree op.operands.toList mem toks st st') (hm : (∃ t x, op = .load t x) → mem) (h : valK P st op K) : valK P st' op K := by
  have ev : ∀ x, x ∈ op.operands.toList → st'.ev x = st.ev x := A.env
  unfold valK at h ⊢
  split at h
  · rename_i x; rw [ev x (by simp [Op.operands])]; exact h
  · rename_i x; rw [ev x (by simp [Op.operands])]; exact h
  · rename_i c a b
    rw [ev c (by simp [Op.operands]), ev a (by simp [Op.operands]), ev b (by simp [Op.operands])]
    exact h
  · rename_i t x
    have hx := ev x (by simp [Op.operands])
    unfold loadK at h ⊢
    rw [hx]
    replace h := bindO_elim h
    obtain ⟨p, hp, h⟩ := h
    rw [hp, bindO_some]
    split at h
    · rename_i id off
      replace h := bindO_elim h
      obtain ⟨ob, hob, h⟩ := h
      try simp only
      rw [A.ptr (hm ⟨t, x, rfl⟩) x (by simp [Op.operands]) id off hp ob hob]
      exact h
    · exact h
    · exact h.elim
  · rename_i t parts
    have hp : evParts st' parts.toList = evParts st parts.toList := evParts_congr _ (fun e he => ev e.2 (by simp only [Op.operands]; exact List.mem_map.2 ⟨e, he, rfl⟩))
    unfold buildK at h ⊢
    rw [hp]
    exact h
  · rename_i op t x y _
    unfold binK at h ⊢
    rw [ev x (by simp [Op.operands]), ev y (by simp [Op.operands])]
    exact h
  · rename_i op _ x; rw [ev x (by simp [Op.operands])]; exact h
  · rename_i s d x; rw [ev x (by simp [Op.operands])]; exact h
  · rename_i t x lo hi
    have hb : ∀ (len : Nat) (K : Nat → Nat → Prop), boundsK st' lo hi len K = boundsK st lo hi len K := fun len K =>
      bounds_congr (fun y hy => ev y (by simp [Op.operands, hy])) (fun y hy => ev y (by simp [Op.operands, hy]))
    unfold sliceK at h ⊢
    rw [ev x (by simp [Op.operands])]
    simp only [hb]
    exact h
  · rename_i s x f
    unfold fieldAddrK at h ⊢
    rw [ev x (by simp [Op.operands])]
    exact h
  · rename_i s x f
    unfold fieldK at h ⊢
    rw [ev x (by simp [Op.operands])]
    exact h
  · rename_i t x i
    unfold indexAddrK at h ⊢
    rw [ev x (by simp [Op.operands]), ev i (by simp [Op.operands])]
    exact h
  · rename_i t x i
    unfold indexK at h ⊢
    rw [ev x (by simp [Op.operands]), ev i (by simp [Op.operands])]
    exact h
  · rename_i x i; rw [ev x (by simp [Op.operands])]; exact h
  · rename_i t x; rw [ev x (by simp [Op.operands])]; exact h
  · rename_i f first caps
    rw [evAll_congr caps.toList (fun y hy => ev y (by simp only [Op.operands, Array.toList_append]; exact List.mem_append.2 (.inr hy)))]
    exact h
  · rename_i x; rw [ev x (by simp [Op.operands])]; exact h
  · rename_i c
    have ev' : ∀ x ∈ c.args.toList, st'.ev x = st.ev x := fun x hx => ev x (by simp only [Op.operands, Call.operands, Array.toList_append]; exact List.mem_append.2 (.inr hx))
    unfold callV at h ⊢
    split at h
    · split at h
      · rename_i x t hx ht
        unfold lenK at h ⊢
        rw [ev' x (by rw [hx]; simp)]
        exact h
      · exact h.elim
    · split at h
      · rename_i x y hx
        rw [ev' x (by rw [hx]; simp), ev' y (by rw [hx]; simp)]
        exact h
      · exact h.elim
    · split at h
      · rename_i x y hx
        rw [ev' x (by rw [hx]; simp), ev' y (by rw [hx]; simp)]
        exact h
      · exact h.elim
    · exact h.elim
  · exact h.elim

theorem srcXs_congr {sz : Nat} {p : PV} {ys : List (List PV)} (h : srcXs st sz p = some ys) (hm : ∀ id lo n c, p = .ms id lo n c → ∀ ob, lkp st.heap id = some ob → lkp st'.heap id = some ob) : srcXs st' sz p = some ys := by
  unfold srcXs at h ⊢
  split at h
  · exact h
  · exact h
  · exact h
  · rename_i id lo n c
    try simp only
    split at h
    · rename_i T cs ho
      rw [hm id lo n c rfl _ ho]
      exact h
    · cases h
  · cases h
theorem appTail_congr {tk0 sz by_ : Nat} {e : TypeId} {d : PV} {ys : List (List PV)} {K : Delta → Prop} (htok : ∀ k xs, d = .row k xs → ∀ t, lkp st.toks k = some t → lkp st'.toks k = some t) (hms : ∀ id lo n c, d = .ms id lo n c → ∀ ob, lkp st.heap id = some ob → lkp st'.heap id = some ob) (h : appTail st tk0 e sz by_ d ys K) : appTail st' tk0 e sz by_ d ys K := by
  unfold appTail at h ⊢
  cases ys with
  | nil => exact h
  | cons y0 r =>
    try simp only at h ⊢
    split at h
    · exact h
    · rename_i k xs
      try simp only
      replace h := bindO_elim h
      obtain ⟨t1, ht1, h⟩ := h
      rw [htok k xs rfl t1 ht1]
      exact h
    · rename_i id lo n cap
      obtain ⟨h3, h⟩ := h
      refine ⟨h3, ?_⟩
      replace h := bindO_elim h
      obtain ⟨xs0, hxs0, h⟩ := h
      rw [srcXs_congr (st' := st') hxs0 (fun id lo n c' e ob ho => hms id lo n c' e ob ho), bindO_some]
      exact h
    · exact h.elim
theorem append_congr {c : Call} {tk : Nat} {K : Delta → Prop} (A : Agree c.args.toList True True st st') (h : appendK P st tk c K) : appendK P st' tk c K := by
  unfold appendK at h ⊢
  split at h
  · rename_i x y t t' hx ht
    split at h
    · rename_i e hu
      replace h := bindO_elim h
      obtain ⟨sz, hsz, h⟩ := h
      replace h := bindO_elim h
      obtain ⟨by_, hby, h⟩ := h
      replace h := bindO_elim h
      obtain ⟨z, hz, h1, h2, h⟩ := h
      replace h := bindO_elim h
      obtain ⟨d, hd, h⟩ := h
      replace h := bindO_elim h
      obtain ⟨s, hs, h⟩ := h
      have ex := A.env x (by rw [hx]; simp)
      have ey := A.env y (by rw [hx]; simp)
      have hT : ∀ k xs, d = .row k xs → ∀ t, lkp st.toks k = some t → lkp st'.toks k = some t := fun k xs hr t1 ht1 => A.tok trivial x (by rw [hx]; simp) k xs (by rw [hd, hr]) t1 ht1
      have hM : ∀ id lo n c, d = .ms id lo n c → ∀ ob, lkp st.heap id = some ob → lkp st'.heap id = some ob := fun id lo n c' hr ob ho => A.ms trivial x (by rw [hx]; simp) id lo n c' (by rw [hd, hr]) ob ho
      rw [hsz, bindO_some, hby, bindO_some, hz, bindO_some]
      refine ⟨h1, h2, ?_⟩
      rw [ex, hd, bindO_some, ey, hs, bindO_some]
      split at h
      · obtain ⟨h3, h4, h5, h⟩ := h
        exact ⟨h3, h4, h5, appTail_congr hT hM h⟩
      · obtain ⟨h3, h⟩ := h
        replace h := bindO_elim h
        obtain ⟨ys0, hys0, h⟩ := h
        replace h := bindO_elim h
        obtain ⟨ys, hys, hl, h⟩ := h
        refine ⟨h3, ?_⟩
        rw [srcXs_congr (st' := st') hys0 (fun id lo n c' e ob ho => A.ms trivial y (by rw [hx]; simp) id lo n c' (by rw [hs, e]) ob ho), bindO_some, hys, bindO_some]
        exact ⟨hl, appTail_congr hT hM h⟩
    · exact h.elim
  · exact h.elim

theorem stepD_congr {o : Oper} {id tk : Nat} {K : Delta → Prop} (A : Agree o.op.operands.toList (kindOf o = 1 ∨ kindOf o = 3 ∨ kindOf o = 4) (kindOf o = 4) st st') (h : stepD P o st id tk K) : stepD P o st' id tk K := by
  have ev : ∀ x, x ∈ o.op.operands.toList → st'.ev x = st.ev x := A.env
  unfold stepD at h ⊢
  split at h
  · exact h
  · rename_i T x ho
    rw [ev x (by simp [ho, Op.operands])]
    exact h
  · rename_i t x y ho
    rw [ev x (by simp [ho, Op.operands]), ev y (by simp [ho, Op.operands])]
    replace h := bindO_elim h
    obtain ⟨p, hp, h⟩ := h
    replace h := bindO_elim h
    obtain ⟨q, hq, h⟩ := h
    rw [hp, bindO_some, hq, bindO_some]
    split at h
    · rename_i id1 off
      replace h := bindO_elim h
      obtain ⟨ob, hob, h⟩ := h
      try simp only
      rw [A.ptr (.inr (.inl (by simp [kindOf, ho]))) x (by simp [ho, Op.operands]) id1 off hp ob hob]
      exact h
    · exact h.elim
  · rename_i t len parts ho
    rw [evParts_congr (st' := st') (st := st) parts.toList (fun e he => ev e.2 (by simp only [ho, Op.operands]; exact List.mem_map.2 ⟨e, he, rfl⟩))]
    exact h
  · rename_i t l c ho
    rw [ev l (by simp [ho, Op.operands]), ev c (by simp [ho, Op.operands])]
    exact h
  · rename_i t x ho
    rw [ev x (by simp [ho, Op.operands])]
    exact h
  · rename_i x ho
    rw [ev x (by simp [ho, Op.operands])]
    replace h := bindO_elim h
    obtain ⟨p, hp, h⟩ := h
    rw [hp, bindO_some]
    split at h
    · rename_i id1
      replace h := bindO_elim h
      obtain ⟨ob, hob, h⟩ := h
      try simp only
      rw [A.ptr (.inr (.inl (by simp [kindOf, ho]))) x (by simp [ho, Op.operands]) id1 0 hp ob hob]
      exact h
    · exact h.elim
  · rename_i c ho
    have hargs : ∀ x ∈ c.args.toList, x ∈ o.op.operands.toList := fun x hx => by simp only [ho, Op.operands, Call.operands, Array.toList_append]; exact List.mem_append.2 (.inr hx)
    split at h
    · rename_i hc
      have hk : kindOf o = 4 := by simp [kindOf, ho, hc]
      exact append_congr ⟨fun x hx => ev x (hargs x hx), fun _ x hx => A.ptr (.inr (.inr hk)) x (hargs x hx), fun _ x hx => A.ms (.inr (.inr hk)) x (hargs x hx), fun _ x hx => A.tok hk x (hargs x hx)⟩ h
    · have A' : Agree (Op.call c).operands.toList True True st st → True := fun _ => trivial
      have hh : valK P st (.call c) (fun p => K (.val p)) := h
      have := valK_congr (P := P) (st := st) (st' := st') (op := .call c) (mem := False) (toks := False) ⟨fun x hx => ev x (by rw [ho]; exact hx), fun f => f.elim, fun f => f.elim, fun f => f.elim⟩ (fun ⟨t, x, e⟩ => by cases e) hh
      exact this
    · unfold callK at h ⊢
      split at h
      · rename_i f hc
        rw [ev f (by simp [ho, Op.operands, Call.operands, hc]), evAll_congr (st' := st') (st := st) c.args.toList (fun x hx => ev x (hargs x hx))]
        exact h
      · exact h.elim
  · refine valK_congr (mem := kindOf o = 1) (toks := False) ⟨ev, fun hm => A.ptr (.inl hm), fun hm => A.ms (.inl hm), fun f => f.elim⟩ ?_ h
    rintro ⟨t, x, e⟩
    simp [kindOf, e]

/-- What a step may turn. -/
theorem stepD_shape {o : Oper} {id tk : Nat} {δ : Delta} (h : stepD P o st id tk (· = δ)) :
    (∀ i ob, δ.obj = some (true, i, ob) → i = id) ∧ (∀ i ob, δ.obj = some (false, i, ob) → kindOf o = 3 ∧ ∃ ob', lkp st.heap i = some ob') ∧
    (∀ k t, δ.tok = some (k, t) → k = tk ∧ (kindOf o = 2 ∨ kindOf o = 4) ∨ kindOf o = 4 ∧ ∃ t', lkp st.toks k = some t') := by
  have vals : ∀ {F : (PV → Prop) → Prop}, Det F → F (fun p => Delta.val p = δ) → δ.obj = none ∧ δ.tok = none := fun hF h => by
    obtain ⟨p, hp, _⟩ := hF.out _ h
    rw [← hp]
    exact ⟨rfl, rfl⟩
  have fin : δ.obj = none ∧ δ.tok = none → _ := fun (h : δ.obj = none ∧ δ.tok = none) => (⟨fun i ob e => (by rw [h.1] at e; cases e), fun i ob e => (by rw [h.1] at e; cases e), fun k t e => (by rw [h.2] at e; cases e)⟩ :
    (∀ i ob, δ.obj = some (true, i, ob) → i = id) ∧ (∀ i ob, δ.obj = some (false, i, ob) → kindOf o = 3 ∧ ∃ ob', lkp st.heap i = some ob') ∧
    (∀ k t, δ.tok = some (k, t) → k = tk ∧ (kindOf o = 2 ∨ kindOf o = 4) ∨ kindOf o = 4 ∧ ∃ t', lkp st.toks k = some t'))
  unfold stepD at h
  split at h
  · replace h := bindO_elim h
    obtain ⟨z, hz, _, rfl⟩ := h
    exact ⟨fun i ob e => (by injection e with e; injection e with _ e; injection e with e; exact e.symm), fun i ob e => (by injection e with e; injection e with e; cases e), fun k t e => (by cases e)⟩
  · replace h := bindO_elim h
    obtain ⟨z, hz, _, rfl⟩ := h
    exact ⟨fun i ob e => (by injection e with e; injection e with _ e; injection e with e; exact e.symm), fun i ob e => (by injection e with e; injection e with e; cases e), fun k t e => (by cases e)⟩
  · rename_i t x y ho
    replace h := bindO_elim h
    obtain ⟨p, hp, h⟩ := h
    replace h := bindO_elim h
    obtain ⟨q, hq, h⟩ := h
    split at h
    · replace h := bindO_elim h
      obtain ⟨ob, hob, h⟩ := h
      split at h
      · obtain ⟨_, _, _, rfl⟩ := h
        exact ⟨fun i ob e => (by injection e with e; injection e with e; cases e), fun i ob e => (by injection e with e; injection e with _ e; injection e with e _; subst e; exact ⟨by simp [kindOf, ho], _, hob⟩), fun k t e => (by cases e)⟩
      · exact h.elim
    · exact h.elim
  · rename_i t len parts ho
    split at h
    · replace h := bindO_elim h
      obtain ⟨sz, hsz, h⟩ := h
      replace h := bindO_elim h
      obtain ⟨z, hz, h⟩ := h
      replace h := bindO_elim h
      obtain ⟨ps, hps, h⟩ := h
      replace h := bindO_elim h
      obtain ⟨xs, hxs, _, _, _, _, _, rfl⟩ := h
      exact ⟨fun i ob e => (by cases e), fun i ob e => (by cases e), fun k t e => by injection e with e; injection e with e _; exact .inl ⟨e.symm, .inl (by simp [kindOf, ho])⟩⟩
    · exact h.elim
  · split at h
    · replace h := bindO_elim h
      obtain ⟨sz, hsz, h⟩ := h
      replace h := bindO_elim h
      obtain ⟨b, hb, h⟩ := h
      replace h := bindO_elim h
      obtain ⟨z, hz, h⟩ := h
      replace h := bindO_elim h
      obtain ⟨p, hp, h⟩ := h
      replace h := bindO_elim h
      obtain ⟨q, hq, h⟩ := h
      replace h := intK_elim h
      obtain ⟨_, n, _, h⟩ := h
      replace h := intK_elim h
      obtain ⟨_, m, _, _, _, _, _, _, _, _, rfl⟩ := h
      exact ⟨fun i ob e => (by injection e with e; injection e with _ e; injection e with e; exact e.symm), fun i ob e => (by injection e with e; injection e with e; cases e), fun k t e => (by cases e)⟩
    · exact h.elim
  · obtain ⟨_, h⟩ := h
    replace h := bindO_elim h
    obtain ⟨p, hp, h⟩ := h
    split at h
    · subst h
      exact ⟨fun i ob e => (by injection e with e; injection e with _ e; injection e with e; exact e.symm), fun i ob e => (by injection e with e; injection e with e; cases e), fun k t e => (by cases e)⟩
    · exact h.elim
  · rename_i x ho
    replace h := bindO_elim h
    obtain ⟨p, hp, h⟩ := h
    split at h
    · replace h := bindO_elim h
      obtain ⟨ob, hob, h⟩ := h
      split at h
      · rename_i s pos
        by_cases hlt : pos < s.size
        · have := h.1 hlt
          subst this
          exact ⟨fun i ob e => (by injection e with e; injection e with e; cases e), fun i ob e => (by injection e with e; injection e with _ e; injection e with e _; subst e; exact ⟨by simp [kindOf, ho], _, hob⟩), fun k t e => (by cases e)⟩
        · have := h.2 (by omega)
          subst this
          exact fin ⟨rfl, rfl⟩
      · exact h.elim
    · exact h.elim
  · rename_i c ho
    split at h
    · rename_i hc
      have hk : kindOf o = 4 := by simp [kindOf, ho, hc]
      unfold appendK at h
      split at h
      · split at h
        · replace h := bindO_elim h
          obtain ⟨sz, hsz, h⟩ := h
          replace h := bindO_elim h
          obtain ⟨by_, hby, h⟩ := h
          replace h := bindO_elim h
          obtain ⟨z, hz, _, _, h⟩ := h
          replace h := bindO_elim h
          obtain ⟨d, hd, h⟩ := h
          replace h := bindO_elim h
          obtain ⟨s, hs, h⟩ := h
          split at h
          · obtain ⟨_, _, _, h⟩ := h
            unfold appTail at h
            split at h
            · obtain ⟨_, rfl⟩ := h
              exact fin ⟨rfl, rfl⟩
            · split at h
              · obtain ⟨_, _, rfl⟩ := h
                exact ⟨fun i ob e => (by cases e), fun i ob e => (by cases e), fun k t e => by injection e with e; injection e with e _; exact .inl ⟨e.symm, .inr hk⟩⟩
              · replace h := bindO_elim h
                obtain ⟨tk1, htk1, _, _, _, _, _, rfl⟩ := h
                exact ⟨fun i ob e => (by cases e), fun i ob e => (by cases e), fun k t e => by injection e with e; injection e with e _; subst e; exact .inr ⟨hk, _, htk1⟩⟩
              · obtain ⟨_, h⟩ := h
                replace h := bindO_elim h
                obtain ⟨xs0, hxs0, h⟩ := h
                replace h := bindO_elim h
                obtain ⟨xs, hxs, _, _, _, rfl⟩ := h
                exact ⟨fun i ob e => (by cases e), fun i ob e => (by cases e), fun k t e => by injection e with e; injection e with e _; exact .inl ⟨e.symm, .inr hk⟩⟩
              · exact h.elim
          · obtain ⟨_, h⟩ := h
            replace h := bindO_elim h
            obtain ⟨ys0, hys0, h⟩ := h
            replace h := bindO_elim h
            obtain ⟨ys, hys, _, h⟩ := h
            unfold appTail at h
            split at h
            · obtain ⟨_, rfl⟩ := h
              exact fin ⟨rfl, rfl⟩
            · split at h
              · obtain ⟨_, _, rfl⟩ := h
                exact ⟨fun i ob e => (by cases e), fun i ob e => (by cases e), fun k t e => by injection e with e; injection e with e _; exact .inl ⟨e.symm, .inr hk⟩⟩
              · replace h := bindO_elim h
                obtain ⟨tk1, htk1, _, _, _, _, _, rfl⟩ := h
                exact ⟨fun i ob e => (by cases e), fun i ob e => (by cases e), fun k t e => by injection e with e; injection e with e _; subst e; exact .inr ⟨hk, _, htk1⟩⟩
              · obtain ⟨_, h⟩ := h
                replace h := bindO_elim h
                obtain ⟨xs0, hxs0, h⟩ := h
                replace h := bindO_elim h
                obtain ⟨xs, hxs, _, _, _, rfl⟩ := h
                exact ⟨fun i ob e => (by cases e), fun i ob e => (by cases e), fun k t e => by injection e with e; injection e with e _; exact .inl ⟨e.symm, .inr hk⟩⟩
              · exact h.elim
        · exact h.elim
      · exact h.elim
    · exact fin (vals callV_det h)
    · exact fin (vals call_det h)
  · exact fin (vals valK_det h)
end
end Go.Pw
