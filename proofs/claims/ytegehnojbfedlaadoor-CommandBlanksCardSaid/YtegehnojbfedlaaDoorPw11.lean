/-
  The machine does what stepK says: all steps.
-/
import Derived.Test.YtegehnojbfedlaaDoorPw10
namespace Go.Pw
open Go Go.RowKit
set_option linter.unusedVariables false
set_option linter.unusedSimpArgs false
section
variable {P : Program} {own : Nat → Prop} {S0 : Base} {w0 w : World} {C : Cx} {U V : Nat → Prop} {st : PS} {a : Act} {N : Nat}

/-- A list's literal, cell by cell. -/
theorem fill_rows {sz : Nat} : ∀ (parts : List (Nat × Value)) (k : Nat) (cells : Array Value), (∀ (j : Nat) (e : Nat × Value), parts[j]? = some e → e.1 = k + j ∧ e.2.cells.size = sz) → (k + parts.length) * sz ≤ cells.size →
    ∃ out, Instr.fill (fun i => some (i * sz, sz)) cells parts = some out ∧ out.toList = cells.toList.take (k * sz) ++ (parts.flatMap fun e => e.2.cells.toList) ++ cells.toList.drop ((k + parts.length) * sz)
  | [], k, cells, _, h => ⟨cells, rfl, by simp⟩
  | (i, v) :: r, k, cells, hp, h => by
    obtain ⟨h1, h2⟩ := hp 0 (i, v) rfl
    simp only [Nat.add_zero] at h1 h2
    subst h1
    have hle : i * sz + sz ≤ cells.size := by
      have : (i + 1) * sz ≤ (i + (r.length + 1)) * sz := Nat.mul_le_mul_right _ (by omega)
      rw [Nat.add_mul, Nat.one_mul] at this
      simp only [List.length_cons] at h
      omega
    have hfold : v.cells.zipIdx.foldl (fun cs (c, j) => cs.setIfInBounds (i * sz + j) c) cells = (v.cells.toList.zipIdx 0).foldl (fun cs (c, j) => cs.setIfInBounds (i * sz + j) c) cells := by
      rw [← Array.foldl_toList]
      simp
    have hvl : v.cells.toList.length = sz := by simpa using h2
    have hput := fold_put v.cells.toList (i * sz) 0 cells (by rw [hvl]; omega)
    rw [Nat.add_zero, hvl] at hput
    have hsize : ((v.cells.toList.zipIdx 0).foldl (fun cs (c, j) => cs.setIfInBounds (i * sz + j) c) cells).size = cells.size := by
      have := congrArg List.length hput
      simp only [List.length_append, List.length_take, List.length_drop, Array.length_toList, hvl] at this
      rw [this, Nat.min_eq_left (by omega)]
      omega
    obtain ⟨out, ho, hl⟩ := fill_rows r (i + 1) ((v.cells.toList.zipIdx 0).foldl (fun cs (c, j) => cs.setIfInBounds (i * sz + j) c) cells) (fun j e he => by
      obtain ⟨g1, g2⟩ := hp (j + 1) e (by simpa using he)
      exact ⟨by omega, g2⟩) (by rw [hsize]; simp only [List.length_cons] at h; rw [show i + 1 + r.length = i + (r.length + 1) by omega]; exact h)
    refine ⟨out, ?_, ?_⟩
    · unfold Instr.fill
      simp only
      rw [if_neg (by simp only [ne_eq, h2, not_true_eq_false, decide_false, Bool.false_or, gt_iff_lt, decide_eq_true_eq]; omega), hfold]
      exact ho
    · rw [hl, hput]
      have e1 : (i + 1) * sz = i * sz + sz := by rw [Nat.add_mul, Nat.one_mul]
      have e2 : (i + 1 + r.length) * sz = i * sz + sz + r.length * sz := by rw [Nat.add_mul, e1]
      have e3 : (i + (r.length + 1)) * sz = i * sz + sz + r.length * sz := by rw [← e2]; congr 1; omega
      have htl : (cells.toList.take (i * sz) ++ v.cells.toList).length = i * sz + sz := by
        rw [List.length_append, List.length_take, Array.length_toList, hvl, Nat.min_eq_left (by omega)]
      rw [e1, e2, List.flatMap_cons, List.length_cons, e3, List.take_left' htl, List.drop_append, htl]
      rw [List.drop_eq_nil_of_le (by rw [htl]; omega)]
      simp only [List.nil_append, List.drop_drop, List.append_assoc]
      congr 4
      omega

theorem flatMap_get {α β : Type} (f : α → List β) (sz : Nat) : ∀ (l : List α), (∀ x ∈ l, (f x).length = sz) → (l.flatMap f).length = l.length * sz ∧ ∀ (j i : Nat) (x : α), l[j]? = some x → i < sz → (l.flatMap f)[j * sz + i]? = (f x)[i]?
  | [], _ => ⟨by simp, fun j i x h => by simp at h⟩
  | y :: r, h => by
    obtain ⟨h1, h2⟩ := flatMap_get f sz r (fun x hx => h x (by simp [hx]))
    have hy := h y (by simp)
    refine ⟨by rw [List.flatMap_cons, List.length_append, h1, hy, List.length_cons, Nat.add_mul, Nat.one_mul]; omega, fun j i x hx hi => ?_⟩
    rw [List.flatMap_cons]
    cases j with
    | zero =>
      simp at hx
      subst hx
      rw [Nat.zero_mul, Nat.zero_add, List.getElem?_append_left (by omega)]
    | succ j =>
      rw [List.getElem?_append_right (by rw [hy, Nat.add_mul, Nat.one_mul]; omega)]
      have e : (j + 1) * sz + i - (f y).length = j * sz + i := by rw [hy, Nat.add_mul, Nat.one_mul]; omega
      rw [e]
      exact h2 j i x (by simpa using hx) hi

theorem Rel.wide (R : Rel own S0 w0 C U V st w) {U' V' : Nat → Prop} (hUU : ∀ i, U i → U' i) (hVV : ∀ i, V i → V' i) : Rel own S0 w0 C U' V' st w := by
  have X : Ext C C st.toks st.toks U V U' V' := ⟨SLe.refl _, fun _ _ => rfl, fun k t _ h => ⟨t, h, Nat.le_refl _, rfl, fun _ => rfl⟩, hUU, hVV⟩
  refine ⟨R.frame, R.stable, fun id T cs h => ?_, R.iter, fun id o h => ?_, R.hinj, fun k t h => ?_, R.tbox, R.tinj, R.snew, R.sold, R.base.trans X, R.glob⟩
  · obtain ⟨vs, h1, h2, h3⟩ := R.box id T cs h
    exact ⟨vs, h1, h2, fun i v p hv hp => ⟨(h3 i v p hv hp).1, (h3 i v p hv hp).2.ext X⟩⟩
  · obtain ⟨h1, h2⟩ := R.hown id o h
    exact ⟨hUU _ h1, h2⟩
  · obtain ⟨h1, h2⟩ := R.tok k t h
    exact ⟨hVV _ h1, h2⟩
theorem Rel.nxnt (R : Rel own S0 w0 C U V st w) (a b : Nat) : Rel own S0 w0 C U V { st with nx := a, nt := b } w := ⟨R.frame, R.stable, R.box, R.iter, R.hown, R.hinj, R.tok, R.tbox, R.tinj, R.snew, R.sold, R.base, R.glob⟩
theorem Ext.wider {C C' : Cx} {T T' : List (Nat × Tok)} {U V U' V' V'' : Nat → Prop} (e : Ext C C' T T' U V U' V') (h : ∀ i, V' i → V'' i) : Ext C C' T T' U V U' V'' := ⟨e.S, e.ρ, e.tok, e.nx, fun i hi => h i (e.nt i hi)⟩
theorem Ext.wideU {C C' : Cx} {T T' : List (Nat × Tok)} {U V U' U'' V' : Nat → Prop} (e : Ext C C' T T' U V U' V') (h : ∀ i, U' i → U'' i) : Ext C C' T T' U V U'' V' := ⟨e.S, e.ρ, e.tok, fun i hi => h i (e.nx i hi), e.nt⟩
theorem RepL.ext {C C' : Cx} {T T' : List (Nat × Tok)} {U V U' V' : Nat → Prop} (e : Ext C C' T T' U V U' V') {vs : List Value} {cs : List PV} (r : RepL C T U V vs cs) : RepL C' T' U' V' vs cs :=
  ⟨r.1, fun i v p hv hp => ⟨(r.2 i v p hv hp).1, (r.2 i v p hv hp).2.ext e⟩⟩
theorem RepL.mkPV {T : List (Nat × Tok)} {U V : Nat → Prop} {v : Value} {p : PV} (r : RepV C T U V v p) (h : notTup p = true) : RepL C T U V v.cells.toList p.cells :=
  r.cells (fun cs e => by subst e; simp [notTup] at h)

theorem stepN_sound (E : Env C U V st a) (R : Rel own S0 w0 C U V st w) (hd : a.defers = []) (hs : a.tmps.size = N) {o : Oper} (hf : fitsDst N o.dst = true) {K : PS → Prop} {id tk : Nat} {U' V' : Nat → Prop} (hUU : ∀ i, U i → U' i) (hVV : ∀ i, V i → V' i)
    (hid : makesObj o = true → ¬ U id ∧ U' id) (htk : makesTok o = true → ¬ V tk ∧ V' tk) (h : stepN0 P o st id tk K) {Q : Exit → Act → World → Prop} :
    Oper.wp P o a w (fun a' w' => ∃ st', K st' ∧ StN own S0 w0 N U' V' st' a' w') Q := by
  unfold Oper.wp
  have Xw : Ext C C st.toks st.toks U V U' V' := ⟨SLe.refl _, fun _ _ => rfl, fun k t _ h => ⟨t, h, Nat.le_refl _, rfl, fun _ => rfl⟩, hUU, hVV⟩
  have Rw : Rel own S0 w0 C U' V' st w := R.wide hUU hVV
  -- a value, in a world that may have grown
  have val : ∀ (v : Value) (p : PV) (st' : PS) (w' : World) (C' : Cx), (execOp a.eval o).run P w = .ok (.value v) w' → Rel own S0 w0 C' U' V' st' w' → Ext C C' st.toks st'.toks U V U' V' → st'.env = st.env →
      RepV C' st'.toks U' V' v p → K (st'.put o.dst p) → o.upon P a (fun a' w' => ∃ st', K st' ∧ StN own S0 w0 N U' V' st' a' w') Q ((execOp a.eval o).run P w) := by
    intro v p st' w' C' hr R' X' he r hk
    rw [hr, Oper.upon_value]
    exact ⟨_, hk, StN.of_put hd hs hf R' (E.ext X' he) r⟩
  have pure : ∀ {op : Op}, o.op = op → valK P st op (fun p => K (st.put o.dst p)) → o.upon P a (fun a' w' => ∃ st', K st' ∧ StN own S0 w0 N U' V' st' a' w') Q ((execOp a.eval o).run P w) := by
    intro op ho h
    obtain ⟨v, p, h1, h2, h3⟩ := valK_sound E R ho h
    exact val v p st w C h1 Rw Xw rfl (h2.ext Xw) h3
  unfold stepN0 stepD at h
  split at h
  · -- alloc
    rename_i T ho
    replace h := bindO_elim h
    obtain ⟨z, hz, hc, hk⟩ := h
    have hrl : RepL C st.toks U V z.cells.toList (constPV z).cells := (constPV_rep hc).cells (fun cs e => by cases z <;> simp [constPV] at e)
    obtain ⟨hid1, hid2⟩ := hid (by simp [makesObj, ho])
    have R' := (R.newObj id hid1 hUU hid2 (.box T (constPV z).cells) (.cells z.cells T) (fun T' cs e => by injection e with e1 e2; subst e1 e2; exact ⟨_, rfl, hrl⟩) (fun s pos e => by cases e) st.nx st.nt).wide (fun _ h => h) hVV
    have X' := (R.ext_at w.heap.size id hid1 hUU).trans ((Ext.refl _ _ _ _).wider hVV)
    refine val (.pointer (some ⟨w.heap.size, 0, none⟩)) _ _ _ _ ?_ R' X' rfl ?_ hk
    · simp [execOp, ho, Instr.alloc, run_zeroOf? hz, newVar, newRow]
    · have : RepV (C.at id w.heap.size) st.toks U' V' (.pointer (some ⟨(C.at id w.heap.size).ρ id, 0, none⟩)) (.ptr id 0) := .ptr hid2
      simpa [Cx.at] using this
  · -- box
    rename_i T x ho
    replace h := bindO_elim h
    obtain ⟨p, hp, hnt, hk⟩ := h
    have hrl := RepL.mkPV (ev_rep E hp) hnt
    obtain ⟨hid1, hid2⟩ := hid (by simp [makesObj, ho])
    have R' := (R.newObj id hid1 hUU hid2 (.box T p.cells) (.cells (a.eval x).cells T) (fun T' cs e => by injection e with e1 e2; subst e1 e2; exact ⟨_, rfl, hrl⟩) (fun s pos e => by cases e) st.nx st.nt).wide (fun _ h => h) hVV
    have X' := (R.ext_at w.heap.size id hid1 hUU).trans ((Ext.refl _ _ _ _).wider hVV)
    refine val (.pointer (some ⟨w.heap.size, 0, none⟩)) _ _ _ _ ?_ R' X' rfl ?_ hk
    · simp [execOp, ho, Instr.box, newVar, newRow]
    · have : RepV (C.at id w.heap.size) st.toks U' V' (.pointer (some ⟨(C.at id w.heap.size).ρ id, 0, none⟩)) (.ptr id 0) := .ptr hid2
      simpa [Cx.at] using this
  · -- store
    rename_i t x y ho
    replace h := bindO_elim h
    obtain ⟨p, hp, h⟩ := h
    replace h := bindO_elim h
    obtain ⟨q, hq, h⟩ := h
    split at h
    · rename_i id1 off
      replace h := bindO_elim h
      obtain ⟨ob, hob, h⟩ := h
      split at h
      · rename_i T cs
        obtain ⟨hsz, hnt, hfit, hk⟩ := h
        obtain ⟨ev, hid0⟩ := rep_ptr (ev_rep E hp)
        obtain ⟨vs, hb, hvs, hrep⟩ := R.box id1 T cs hob
        have hql := RepL.mkPV (ev_rep E hq) hnt
        have hvl : RepL C st.toks U V vs.toList cs := ⟨by simpa using hvs, fun i v p hv hp => hrep i v p (by simpa using hv) hp⟩
        have hlq : (a.eval y).cells.toList.length = q.cells.length := hql.1
        have h1 : ∀ v ∈ (a.eval y).cells.toList, v.oneCell' = true := fun v hv => by
          obtain ⟨i, hi, e⟩ := List.getElem_of_mem hv
          have hv' : (a.eval y).cells.toList[i]? = some v := by rw [List.getElem?_eq_getElem hi, e]
          exact (hql.2 i v _ hv' (List.getElem?_eq_getElem (by omega))).1
        have hst := run_storeCells_at P (C.ρ id1) off T (a.eval y).cells.toList 0 vs w hb (by rw [hlq, hvs]; omega) h1
        rw [Nat.add_zero] at hst
        have R' := R.store hob (cs' := cs.take off ++ q.cells ++ cs.drop (off + q.cells.length)) (vs' := (vs.toList.take off ++ (a.eval y).cells.toList ++ vs.toList.drop (off + (a.eval y).cells.toList.length)).toArray)
          (by rw [hlq]; simpa using ((hvl.take off).app hql).app (hvl.drop _))
        have hrun : (execOp a.eval o).run P w = .ok .skip (w.setRow (C.ρ id1) (vs.toList.take off ++ (a.eval y).cells.toList ++ vs.toList.drop (off + (a.eval y).cells.toList.length)).toArray) := by
          have hne : ¬ ((a.eval y).cells.size ≠ q.cells.length) := by simpa using hlq
          simp only [execOp, ho, Instr.storeAt, ev, Instr.sureAddr, storeVar, Sem.run_bind, Sem.run_pure, Result.andThen_ok, run_sizeOf? hsz, if_neg hne, hst]
        rw [hrun, Oper.upon_skip]
        exact ⟨_, hk, StN.of_kill hd hs hf (R'.wide hUU hVV) (E.ext Xw rfl)⟩
      · exact h.elim
    · exact h.elim
  · -- a list's literal
    rename_i t len parts ho
    split at h
    · rename_i e hu
      replace h := bindO_elim h
      obtain ⟨sz, hsz, h⟩ := h
      replace h := bindO_elim h
      obtain ⟨z, hz, h⟩ := h
      replace h := bindO_elim h
      obtain ⟨ps, hps, h⟩ := h
      replace h := bindO_elim h
      obtain ⟨xs, hxs, h0, hzs, hxl, hlen, hlim, hk⟩ := h
      have hev : ∀ (ops : List (Nat × Operand)) (ps : List (Nat × PV)), evParts st ops = some ps → ops.length = ps.length ∧ ∀ (j : Nat) (x : Nat × Operand) (y : Nat × PV), ops[j]? = some x → ps[j]? = some y → x.1 = y.1 ∧ st.ev x.2 = some y.2 := by
        intro ops
        induction ops with
        | nil => intro ps h; simp only [evParts, Option.some.injEq] at h; subst h; exact ⟨rfl, fun j x y hx => by simp at hx⟩
        | cons b r ih =>
          intro ps h
          obtain ⟨i, x⟩ := b
          simp only [evParts] at h
          split at h
          · rename_i p l hp hl
            obtain rfl := Option.some.inj h
            obtain ⟨g1, g2⟩ := ih l hl
            refine ⟨by simp [g1], fun j u y hu hy => ?_⟩
            cases j with
            | zero => simp at hu hy; subst hu hy; exact ⟨rfl, hp⟩
            | succ j => exact g2 j u y (by simpa using hu) (by simpa using hy)
          · cases h
      obtain ⟨hl1, hg1⟩ := hev _ _ hps
      obtain ⟨hl2, hg2⟩ := valsOf_get hxs
      have hpl : (parts.toList.map fun x => (x.1, a.eval x.2)).length = len := by simp only [List.length_map]; omega
      -- each part's cells
      have hpart : ∀ (j : Nat) (e' : Nat × Value), (parts.toList.map fun x => (x.1, a.eval x.2))[j]? = some e' → e'.1 = j ∧ e'.2.cells.size = sz ∧ ∃ x, xs[j]? = some x ∧ ∀ (i : Nat) (p : PV), x[i]? = some p → ∃ u, e'.2.cells.toList[i]? = some u ∧ RepF C.S u p := by
        intro j e' he
        have hj : j < parts.toList.length := by
          have := (List.getElem?_eq_some_iff.1 he).1
          simpa using this
        have hx1 := List.getElem?_eq_getElem hj
        have hx2 := List.getElem?_eq_getElem (show j < ps.length by omega)
        have hx3 := List.getElem?_eq_getElem (show j < xs.length by omega)
        obtain ⟨g1, g2⟩ := hg1 j _ _ hx1 hx2
        obtain ⟨g3, g4⟩ := hg2 j _ _ hx2 hx3
        have he' : e' = ((parts.toList[j]).1, a.eval (parts.toList[j]).2) := by
          rw [List.getElem?_map, hx1] at he
          exact (Option.some.inj he).symm
        subst he'
        have hnt : notTup (ps[j]).2 = true := by
          cases hq : (ps[j]).2 <;> first | rfl | (rw [hq] at g4; simp [PV.cells, fzL, fz] at g4)
        have hcl := RepL.mkPV (ev_rep E g2) hnt
        obtain ⟨g5, g6⟩ := fzL_get g4
        have hxj := hxl _ (List.mem_of_getElem? hx3)
        have hcs : (a.eval (parts.toList[j]).2).cells.toList.length = sz := by rw [hcl.1, g5, hxj]
        refine ⟨by simp only; omega, by simpa using hcs, _, hx3, fun i p hp => ?_⟩
        have hi : i < (xs[j]).length := (List.getElem?_eq_some_iff.1 hp).1
        have h1 := List.getElem?_eq_getElem (show i < (a.eval (parts.toList[j]).2).cells.toList.length by omega)
        have h2 := List.getElem?_eq_getElem (show i < (ps[j]).2.cells.length by omega)
        exact ⟨_, h1, fz_rep (C := C) (g6 i _ p h2 hp) (hcl.2 i _ _ h1 h2).2⟩
      obtain ⟨out, hfill, hout⟩ := fill_rows (sz := sz) (parts.toList.map fun x => (x.1, a.eval x.2)) 0 ((Array.range (len * sz)).map fun i => (if len * sz = 0 then #[] else z.cells)[i % (if len * sz = 0 then #[] else z.cells).size]!)
        (fun j e' he => ⟨by have := (hpart j e' he).1; omega, (hpart j e' he).2.1⟩) (by simp [hpl])
      have hmapL : ((parts.map fun x => (x.1, a.eval x.2)).toList) = parts.toList.map fun x => (x.1, a.eval x.2) := by simp
      have hnlim : ¬ (len * sz > 2 ^ 24) := by omega
      have hrun : (execOp a.eval o).run P w = .ok (.value (.slice (some ⟨w.heap.size, 0, none⟩) len len)) (w.alloc (.cells out e)) := by
        by_cases hz0 : len * sz = 0
        · simp only [if_pos hz0] at hfill
          simp only [execOp, ho, Instr.buildSlice, Sem.run_bind, run_underlying hu, Result.andThen_ok, run_sizeOf? hsz, if_neg hnlim, if_pos hz0, hmapL, hfill, newRow, run_newObj, Sem.run_pure]
          rfl
        · simp only [if_neg hz0] at hfill
          simp only [execOp, ho, Instr.buildSlice, Sem.run_bind, run_underlying hu, Result.andThen_ok, run_sizeOf? hsz, if_neg hnlim, if_neg hz0, run_zeroOf? hz, hmapL, hfill, newRow, run_newObj, Sem.run_pure]
          rfl
      have hsizes : ∀ x ∈ (parts.toList.map fun x => (x.1, a.eval x.2)), ((fun e' : Nat × Value => e'.2.cells.toList) x).length = sz := fun x hx => by
        obtain ⟨j, hj, ej⟩ := List.getElem_of_mem hx
        have := (hpart j x (by rw [List.getElem?_eq_getElem hj, ej])).2.1
        simpa using this
      obtain ⟨hfl, hfg⟩ := flatMap_get (fun e' : Nat × Value => e'.2.cells.toList) sz _ hsizes
      rw [hpl] at hfl
      have hout' : out.toList = (parts.toList.map fun x => (x.1, a.eval x.2)).flatMap (fun e' : Nat × Value => e'.2.cells.toList) := by
        rw [hout, Nat.zero_mul, Nat.zero_add, hpl, List.take_zero, List.nil_append, List.drop_eq_nil_of_le (by simp), List.append_nil]
      have hosz : out.size = len * sz := by
        rw [← hfl, ← hout']
        simp
      obtain ⟨htk1, htk2⟩ := htk (by simp [makesTok, ho])
      obtain ⟨R', X'⟩ := R.row (w' := w.alloc (.cells out e)) (k := tk) (g := w.heap.size) (cap := len) (n := len) (e := e) (sz := sz) (cur := out)
        ⟨rfl, rfl, rfl, by simp, fun b hb _ => by show (w.heap.push _)[b]? = _; rw [Array.getElem?_push, if_neg (by omega)]⟩ (heap_alloc_at _) hosz (Nat.le_refl _)
        (by have := Nat.le_mul_of_pos_right len h0; simp only [maxLen]; omega)
        (.inl ⟨by cases hl : lkp st.toks tk with | none => rfl | some t => exact absurd (R.tok _ _ hl).1 htk1, htk1, Nat.le_refl _⟩) hVV htk2 st.nx st.nt
      refine val _ _ _ _ _ hrun (R'.wide hUU (fun _ h => h)) (X'.wideU hUU) rfl ?_ hk
      have hrows := rowsF (S := (C.keep tk w.heap.size len (len * sz) out).S) (sz := sz) (xs := []) (ys := xs) (olds := []) (news := out.toList) (cur := out) (rest := []) (by simp) (by simp) (by simp [hosz, hlen]) (by simp) hxl (by simp)
        (fun j i x p hx hp => by
          have hj : j < (parts.toList.map fun x => (x.1, a.eval x.2)).length := by rw [hpl, ← hlen]; exact (List.getElem?_eq_some_iff.1 hx).1
          have h1 := List.getElem?_eq_getElem hj
          obtain ⟨_, _, x', hx', hc⟩ := hpart j _ h1
          rw [hx] at hx'
          obtain rfl := Option.some.inj hx'
          obtain ⟨u, g1, g2⟩ := hc i p hp
          have hi : i < sz := by rw [← hxl x (List.mem_of_getElem? hx)]; exact (List.getElem?_eq_some_iff.1 hp).1
          refine ⟨u, ?_, g2.mono X'.S⟩
          rw [hout', hfg j i _ h1 hi]
          exact g1)
      simp only [List.nil_append] at hrows
      have hrF := rowF (S := (C.keep tk w.heap.size len (len * sz) out).S) (sz := sz) (g := w.heap.size) (cap := len) (cur := out) (xs := xs) (fun o' ho' => by
        rw [hlen] at ho'
        show (if w.heap.size = w.heap.size ∧ o' < len * sz then out[o']? else C.S w.heap.size o') = _
        rw [if_pos ⟨rfl, ho'⟩]) (by omega) (by rw [hosz, hlen]; exact Nat.le_refl _) hrows.1 hrows.2
      rw [hlen] at hrF
      refine .row hrF htk2 (fun t ht => ?_)
      rw [lkp_upd, if_pos rfl] at ht
      obtain rfl := Option.some.inj ht
      exact ⟨by rw [hlen]; exact Nat.le_refl _, hxl, fun _ => by simp [Cx.keep]⟩
    · exact h.elim
  · -- make
    rename_i t l c ho
    split at h
    · rename_i e hu
      replace h := bindO_elim h
      obtain ⟨sz, hsz, h⟩ := h
      replace h := bindO_elim h
      obtain ⟨by_, hby, h⟩ := h
      replace h := bindO_elim h
      obtain ⟨z, hz, h⟩ := h
      replace h := bindO_elim h
      obtain ⟨p, hp, h⟩ := h
      replace h := bindO_elim h
      obtain ⟨q, hq, h⟩ := h
      replace h := intK_elim h
      obtain ⟨k1, n, rfl, h⟩ := h
      replace h := intK_elim h
      obtain ⟨k2, m, rfl, hc, hzs, h0, hnm, hn0, hn1, hbytes, hk⟩ := h
      subst hnm
      obtain ⟨i, hi, hi1, hi2, hi3⟩ := info_of hsz hby hz
      have el := (rep_val (ev_rep E hp)).1
      have ec := (rep_val (ev_rep E hq)).1
      have hw : IntKind.i64.wrap n = n := by
        simp [IntKind.wrap, IntKind.signed, IntKind.bits]
        omega
      have hge : ¬ n < 0 := by omega
      have hbn : ¬ (281474976710656 < (by_ : Int) * n) := by omega
      let cells : Array Value := (Array.range (n.toNat * sz)).map fun i => z.cells[i % z.cells.size]!
      have hrun : (execOp a.eval o).run P w = .ok (.value (.slice (some ⟨w.heap.size, 0, none⟩) n.toNat n.toNat)) (w.alloc (.cells cells e)) := by
        have hti : (typeInfo e).run P w = .ok i w := by simp [typeInfo, hi]
        by_cases hn00 : n.toNat * sz = 0
        · have hcz : cells = #[] := by simp [cells, hn00]
          simp only [execOp, ho, Instr.makeSlice, Sem.run_bind, run_underlying hu, Result.andThen_ok, el, ec, asInt, asIntOf, Sem.run_pure, hti, hw, hi2]
          simp [hge, hbn, run_sizeOf? hsz, hn00, newRow, hcz, show Array.range 0 = #[] from rfl]
        · simp only [execOp, ho, Instr.makeSlice, Sem.run_bind, run_underlying hu, Result.andThen_ok, el, ec, asInt, asIntOf, Sem.run_pure, hti, hw, hi2]
          simp [hge, hbn, run_sizeOf? hsz, hn00, run_zeroOf? hz, newRow, cells]
      have hzl : RepL C st.toks U V z.cells.toList (constPV z).cells := (constPV_rep hc).cells (fun cs e => by cases z <;> simp [constPV] at e)
      have hrl : RepL C st.toks U V cells.toList ((List.range (n.toNat * sz)).map fun i => (constPV z).cells.getD (i % sz) (.val .nilIface)) := by
        refine ⟨by simp [cells], fun j v p hv hp => ?_⟩
        have hj : j < n.toNat * sz := by
          have := (List.getElem?_eq_some_iff.1 hp).1
          simpa using this
        have hm : j % sz < z.cells.toList.length := by simp only [Array.length_toList, hzs]; exact Nat.mod_lt _ h0
        have h1 := List.getElem?_eq_getElem hm
        have h2 := List.getElem?_eq_getElem (show j % sz < (constPV z).cells.length by rw [← hzl.1]; exact hm)
        have hv' : v = z.cells.toList[j % sz] := by
          simp [cells, hj, hzs] at hv
          rw [← hv]
          simp [Array.getElem!_eq_getD, Array.getD, show j % sz < z.cells.size by simpa using hm]
        have hp' : p = (constPV z).cells[j % sz]'(by rw [← hzl.1]; exact hm) := by
          simp [List.getElem?_map, List.getElem?_range, hj] at hp
          rw [← hp, h2]
          rfl
        subst hv' hp'
        exact hzl.2 _ _ _ h1 h2
      obtain ⟨hid1, hid2⟩ := hid (by simp [makesObj, ho])
      have R' := (R.newObj id hid1 hUU hid2 (.box e _) (.cells cells e) (fun T' cs e' => by injection e' with e1 e2; subst e1 e2; exact ⟨_, rfl, hrl⟩) (fun s pos e => by cases e) st.nx st.nt).wide (fun _ h => h) hVV
      have X' := (R.ext_at w.heap.size id hid1 hUU).trans ((Ext.refl _ _ _ _).wider hVV)
      refine val _ _ _ _ _ hrun R' X' rfl ?_ hk
      have : RepV (C.at id w.heap.size) st.toks U' V' (.slice (some ⟨(C.at id w.heap.size).ρ id, 0, none⟩) n.toNat n.toNat) (.ms id 0 n.toNat n.toNat) := .ms hid2 (Nat.le_refl _)
      simpa [Cx.at] using this
    · exact h.elim
  · -- a text is gone through
    rename_i t x ho
    obtain ⟨hu, h⟩ := h
    replace h := bindO_elim h
    obtain ⟨p, hp, h⟩ := h
    split at h
    · rename_i s
      have ev := (rep_val (ev_rep E hp)).1
      obtain ⟨hid1, hid2⟩ := hid (by simp [makesObj, ho])
      have R' := (R.newObj id hid1 hUU hid2 (.iter s 0) (.stringIter s 0) (fun T' cs e => by cases e) (fun s' pos e => by injection e with e1 e2; subst e1 e2; rfl) st.nx st.nt).wide (fun _ h => h) hVV
      have X' := (R.ext_at w.heap.size id hid1 hUU).trans ((Ext.refl _ _ _ _).wider hVV)
      refine val (.pointer (some ⟨w.heap.size, 0, none⟩)) _ _ _ _ ?_ R' X' rfl ?_ h
      · simp [execOp, ho, Instr.range, run_underlying hu, ev]
      · have : RepV (C.at id w.heap.size) st.toks U' V' (.pointer (some ⟨(C.at id w.heap.size).ρ id, 0, none⟩)) (.ptr id 0) := .ptr hid2
        simpa [Cx.at] using this
    · exact h.elim
  · -- the next point
    rename_i x ho
    replace h := bindO_elim h
    obtain ⟨p, hp, h⟩ := h
    split at h
    · rename_i id1
      replace h := bindO_elim h
      obtain ⟨ob, hob, h⟩ := h
      split at h
      · rename_i s pos
        obtain ⟨ev, hid0⟩ := rep_ptr (ev_rep E hp)
        have hit := R.iter id1 s pos hob
        have hrep3 : ∀ (C : Cx) (T : List (Nat × Tok)) (U V : Nat → Prop) (vs : List Value), (∀ v ∈ vs, v.oneCell' = true) → RepV C T U V (.tuple vs.toArray) (.tup (vs.map .val)) := by
          intro C T nx nt vs h1
          refine .tup (by simp) (fun i v p hv hp => ?_)
          have hv' : vs[i]? = some v := by simpa using hv
          rw [List.getElem?_map, hv'] at hp
          obtain rfl := Option.some.inj hp
          exact .frz (.val (h1 v (List.mem_of_getElem? hv')))
        by_cases hlt : pos < s.size
        · refine val (.tuple #[.bool true, .int .i64 pos, .int .i32 (Utf8.decode s pos).1]) _ _ _ _ ?_ ((R.step hob (pos + (Utf8.decode s pos).2)).wide hUU hVV) Xw rfl ?_ (h.1 hlt)
          · simp only [execOp, ho, Instr.next, ev, Sem.run_bind, getObj, Sem.run, hit, Result.andThen_ok, if_pos hlt, setObj, Sem.run_pure, goInt]
          · exact hrep3 _ _ _ _ [.bool true, .int .i64 pos, .int .i32 (Utf8.decode s pos).1] (by simp [Value.oneCell'])
        · refine val (.tuple #[.bool false]) _ _ _ _ ?_ Rw Xw rfl ?_ (h.2 (by omega))
          · simp only [execOp, ho, Instr.next, ev, Sem.run_bind, getObj, Sem.run, hit, Result.andThen_ok, if_neg hlt, Sem.run_pure]
          · exact hrep3 _ _ _ _ [.bool false] (by simp [Value.oneCell'])
      · exact h.elim
    · exact h.elim
  · -- a call
    rename_i c ho
    split at h
    · rename_i hc
      obtain ⟨htk1, htk2⟩ := htk (by simp [makesTok, ho, hc])
      obtain ⟨v, p, st', w', C', h1, h2, h3, h4, h5, d, h6, hd'⟩ := append_sound E R ho hc htk1 hVV htk2 h
      have XX : Ext C' C' st'.toks st'.toks U V' U' V' := ⟨SLe.refl _, fun _ _ => rfl, fun k t _ h => ⟨t, h, Nat.le_refl _, rfl, fun _ => rfl⟩, hUU, fun _ h => h⟩
      exact val v p st' w' C' h1 (h2.wide hUU (fun _ h => h)) (h3.wideU hUU) h4 (h5.ext XX) (hd' ▸ h6)
    · obtain ⟨v, p, h1, h2, h3⟩ := call_sound (P := P) (w := w) E ho h
      exact val v p st w C h1 Rw Xw rfl (h2.ext Xw) h3
    · unfold callK at h
      split at h
      · rename_i f hc
        replace h := bindO_elim h
        obtain ⟨pf, hpf, h⟩ := h
        split at h
        · rename_i g caps
          replace h := bindO_elim h
          obtain ⟨as, has, h⟩ := h
          obtain ⟨vs, ef, hcs, hcr⟩ := rep_fn (ev_rep E hpf)
          obtain ⟨ha1, ha2⟩ := evAll_rep E _ _ has
          have hall : ∀ (i : Nat) (v : Value) (p : PV), (c.args.map a.eval ++ vs)[i]? = some v → (as ++ caps)[i]? = some p → RepV C st.toks U V v p := by
            intro i v p hv hp
            have hal : (c.args.map a.eval).size = as.length := by simpa using ha1
            by_cases hi : i < as.length
            · rw [List.getElem?_append_left hi] at hp
              rw [Array.getElem?_append_left (by omega)] at hv
              exact ha2 i v p (by simpa using hv) hp
            · rw [List.getElem?_append_right (by omega)] at hp
              rw [Array.getElem?_append_right (by omega)] at hv
              exact hcr _ v p (by rw [hal] at hv; exact hv) hp
          have hsz : (c.args.map a.eval ++ vs).size = (as ++ caps).length := by
            have : c.args.size = as.length := by simpa using ha1
            simp [this, hcs]
          cases h with
          | ext ws r ha hr ho' k =>
            have hvs : c.args.map a.eval ++ vs = ws.toArray := by
              apply Array.ext_getElem?
              intro i
              have hw : ws.toArray[i]? = ws[i]? := by simp
              rw [hw]
              by_cases hi : i < ws.length
              · have h1 : ws[i]? = some ws[i] := List.getElem?_eq_getElem hi
                have h2 : (as ++ caps)[i]? = some (.val ws[i]) := by rw [ha, List.getElem?_map, h1]; rfl
                have hi' : i < (c.args.map a.eval ++ vs).size := by rw [hsz]; exact (List.getElem?_eq_some_iff.1 h2).1
                have h3 := Array.getElem?_eq_getElem hi'
                have := (rep_val (hall i _ _ h3 h2)).1
                rw [h3, h1, this]
              · rw [List.getElem?_eq_none (by omega), Array.getElem?_eq_none (by rw [hsz, ha, List.length_map]; omega)]
            have hrun : (execOp a.eval o).run P w = .ok (.value r) w := by
              have hcf := hr w
              rw [← hvs] at hcf
              simp only [execOp, ho, Sem.run_bind, resolve, hc, ef, Deferred.ofValue, Sem.run_pure, Result.andThen_ok, invoke]
              simpa using hcf
            exact val r _ st w C hrun Rw Xw rfl ((extPV_rep ho').ext Xw) k
          | pure as' r hfz ok k =>
            obtain ⟨hent, ok⟩ := ok
            obtain ⟨hl, hget⟩ := fzAs_get hfz
            have hrun : (execOp a.eval o).run P w = .ok (.enter g (c.args.map a.eval ++ vs)) w := by
              have hcf := run_callFunc hent (c.args.map a.eval ++ vs) w
              simp only [execOp, ho, Sem.run_bind, resolve, hc, ef, Deferred.ofValue, Sem.run_pure, Result.andThen_ok, invoke]
              simpa using hcf
            rw [hrun, Oper.upon_enter]
            have hargs : ∀ (i : Nat) (v : Value) (p : PV), (c.args.map a.eval ++ vs)[i]? = some v → as'[i]? = some p → RepA C.S v p := by
              intro i v p hv hp
              have hi : i < (as ++ caps).length := by rw [hl]; exact (List.getElem?_eq_some_iff.1 hp).1
              have hp0 := List.getElem?_eq_getElem hi
              exact fzA_rep (hget i _ p hp0 hp) (hall i v _ hv hp0)
            refine (ok C.S w _ R.known R.stable (by rw [hsz, hl]) hargs).mono ?_
            rintro e w' ⟨v, S', rfl, hS, hst, hnew, hr, hb⟩
            -- the relation in the world behind the call
            let C' : Cx := { C with S := S' }
            have X' : Ext C C' st.toks st.toks U V U V := ⟨hS, fun _ _ => rfl, fun k t _ h => ⟨t, h, Nat.le_refl _, rfl, fun _ => rfl⟩, fun _ h => h, fun _ h => h⟩
            have hold : ∀ b, b < w.heap.size → w'.heap[b]? = w.heap[b]? := hb.block
            have hfree : ∀ b o, b < w.heap.size → C.S b o = none → S' b o = none := by
              intro b o hb' hn
              cases h : S' b o with
              | none => rfl
              | some u =>
                rcases hnew b o u h with h1 | h1
                · rw [hn] at h1; cases h1
                · omega
            have hs0 := R.frame.size
            have R' : Rel own S0 w0 C' U V st w' := by
              refine ⟨⟨hb.os.trans R.frame.os, hb.tape.trans R.frame.tape, hb.output.trans R.frame.output, Nat.le_trans hs0 hb.size, fun k hk hn => (hold k (by omega)).trans (R.frame.block k hk hn)⟩, hst, ?_, ?_, ?_, R.hinj, ?_, R.tbox, R.tinj, ?_, R.sold.trans hS, R.base.trans X', R.glob⟩
              · intro id T cs h
                obtain ⟨us, h1, h2, h3⟩ := R.box id T cs h
                exact ⟨us, (hold _ (heap_lt h1)).trans h1, h2, fun i v p hv hp => ⟨(h3 i v p hv hp).1, (h3 i v p hv hp).2.ext X'⟩⟩
              · intro id s pos h
                have h1 := R.iter id s pos h
                exact (hold _ (heap_lt h1)).trans h1
              · intro id o h
                obtain ⟨h1, h2, h3, h4⟩ := R.hown id o h
                exact ⟨h1, Nat.lt_of_lt_of_le h2 hb.size, h3, fun o' => hfree _ _ h2 (h4 o')⟩
              · intro k t h
                obtain ⟨h1, h2, ⟨us, h3, h4⟩, h5, h6, h7⟩ := R.tok k t h
                exact ⟨h1, h2, ⟨us, (hold _ (heap_lt h3)).trans h3, h4⟩, h5, h6, fun o ho' => hfree _ _ (heap_lt h3) (h7 o ho')⟩
              · intro b o u h
                rcases hnew b o u h with h1 | h1
                · exact R.snew b o u h1
                · exact .inr (.inr (by omega))
            exact ⟨_, k, StN.of_put hd hs hf (R'.wide hUU hVV) (E.ext ((X'.wider hVV).wideU hUU) rfl) (RepA.up (C := C') hr)⟩
        · exact h.elim
      · exact h.elim
  · rename_i hne1 hne2 hne3 hne4 hne5 hne6 hne7 hne8
    exact pure rfl h
end
end Go.Pw
