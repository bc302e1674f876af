/-
  The operations that only tell a value, all of them: loads, fields, indexes, cuts, literals of structs, lengths.
-/
import Derived.Test.YtegehnojbfedlaaDoorPw2
import Derived.Laws.Rows
namespace Go.Pw
open Go Go.RowKit
set_option linter.unusedVariables false
set_option linter.unusedSimpArgs false

def bindO {α : Type} (o : Option α) (K : α → Prop) : Prop := match o with | some x => K x | none => False
@[simp] theorem bindO_some {α : Type} (x : α) (K : α → Prop) : bindO (some x) K = K x := rfl
@[simp] theorem bindO_none {α : Type} (K : α → Prop) : bindO (none : Option α) K = False := rfl
theorem bindO_elim {α : Type} {o : Option α} {K : α → Prop} (h : bindO o K) : ∃ x, o = some x ∧ K x := by
  cases o with
  | none => exact h.elim
  | some x => exact ⟨x, rfl, h⟩

def aggT (P : Program) (t : TypeId) : Option Bool :=
  match P.underlying t with
  | some (.struct _) | some (.array _ _) => some true
  | some _ => some false
  | none => none
theorem run_isAgg {P : Program} {t : TypeId} {b : Bool} (h : aggT P t = some b) (w : World) : (isAgg t).run P w = .ok b w := by
  unfold aggT at h
  unfold isAgg
  split at h
  · rename_i u hu
    obtain rfl := Option.some.inj h
    simp [run_underlying hu]
  · rename_i n e hu
    obtain rfl := Option.some.inj h
    simp [run_underlying hu]
  · rename_i d h1 h2 hu
    obtain rfl := Option.some.inj h
    rw [Sem.run_bind, run_underlying hu]
    simp only [Result.andThen_ok]
    cases d <;> first | rfl | exact absurd rfl (h1 _) | exact absurd rfl (h2 _ _)
  · cases h

/-- A value of type t out of cells, from one of them on. -/
def readCells (P : Program) (t : TypeId) (cs : List PV) (off : Nat) : Option PV :=
  match aggT P t with
  | some true => match sizeOf? P t with
    | some n => if off + n ≤ cs.length then some (.agg ((cs.drop off).take n)) else none
    | none => none
  | some false => cs[off]?
  | none => none

theorem run_loadVar_cells {P : Program} {t : TypeId} {b off : Nat} {w : World} {vs : List Value} {cs : List PV} {p : PV} {C : Cx} {T : List (Nat × Tok)} {U V : Nat → Prop}
    (hr : readCells P t cs off = some p) (hc : ∀ i q, cs[i]? = some q → ∃ v, w.cell? ⟨b, i + off - off, none⟩ = some v ∧ v.oneCell' = true ∧ RepV C T U V v q) :
    ∃ v, (loadVar t ⟨b, off, none⟩).run P w = .ok v w ∧ RepV C T U V v p := by
  have hc' : ∀ i q, cs[i]? = some q → ∃ v, w.cell? ⟨b, i, none⟩ = some v ∧ v.oneCell' = true ∧ RepV C T U V v q := fun i q h => by
    have := hc i q h
    rwa [Nat.add_sub_cancel] at this
  unfold readCells at hr
  split at hr
  · rename_i ha
    split at hr
    · rename_i n hn
      split at hr
      · rename_i hl
        obtain rfl := Option.some.inj hr
        let f : Nat → Value := fun j => (w.cell? ⟨b, off + j, none⟩).getD undef
        have hf : ∀ j, j < n → ∃ q, cs[off + j]? = some q ∧ w.cell? ⟨b, off + j, none⟩ = some (f j) ∧ (f j).oneCell' = true ∧ RepV C T U V (f j) q := fun j hj => by
          have hlt : off + j < cs.length := by omega
          obtain ⟨v, h1, h2, h3⟩ := hc' (off + j) _ (List.getElem?_eq_getElem hlt)
          have : f j = v := by simp [f, h1]
          exact ⟨_, List.getElem?_eq_getElem hlt, by rw [this]; exact h1, by rw [this]; exact h2, by rw [this]; exact h3⟩
        refine ⟨.agg ((List.range n).map f).toArray, ?_, ?_⟩
        · have hl := run_loadCells (P := P) w ⟨b, off, none⟩ n f (fun j hj => by rw [Addr.add_lit]; obtain ⟨_, _, h, _⟩ := hf j hj; exact h)
          simp [loadVar, run_isAgg ha, run_sizeOf? hn, hl]
        · refine .agg (by simp; omega) (fun i v q hv hq => ?_) (fun i v hv => ?_)
          · have hi : i < n := by
              have := (Array.getElem?_eq_some_iff.1 hv).1
              simpa using this
            obtain ⟨q', h1, h2, h3, h4⟩ := hf i hi
            have hv' : v = f i := by simp [hi] at hv; exact hv.symm
            have hq' : q = q' := by
              rw [List.getElem?_take, if_pos hi, List.getElem?_drop, h1] at hq
              exact (Option.some.inj hq).symm
            subst hv' hq'
            exact h4
          · have hi : i < n := by
              have := (Array.getElem?_eq_some_iff.1 hv).1
              simpa using this
            obtain ⟨q', h1, h2, h3, h4⟩ := hf i hi
            have hv' : v = f i := by simp [hi] at hv; exact hv.symm
            subst hv'
            exact h3
      · cases hr
    · cases hr
  · rename_i ha
    obtain ⟨v, h1, h2, h3⟩ := hc' off p hr
    exact ⟨v, by simp [loadVar, run_isAgg ha, h1], h3⟩
  · cases hr

/-- A struct's literal: the parts laid into the cells. -/
def fillP (place : Nat → Option (Nat × Nat)) (cells : List PV) : List (Nat × PV) → Option (List PV)
  | [] => some cells
  | (i, v) :: rest =>
    match place i with
    | none => none
    | some (off, size) =>
      if v.cells.length ≠ size || off + v.cells.length > cells.length then none
      else fillP place (cells.take off ++ v.cells ++ cells.drop (off + v.cells.length)) rest
def placesOf (P : Program) : List Field → Option (List (Nat × Nat))
  | [] => some []
  | f :: r => match sizeOf? P f.type, placesOf P r with
    | some n, some l => some ((f.offset, n) :: l)
    | _, _ => none
def evAll (st : PS) : List Operand → Option (List PV)
  | [] => some []
  | x :: r => match st.ev x, evAll st r with
    | some p, some l => some (p :: l)
    | _, _ => none
def evParts (st : PS) : List (Nat × Operand) → Option (List (Nat × PV))
  | [] => some []
  | (i, x) :: r => match st.ev x, evParts st r with
    | some p, some l => some ((i, p) :: l)
    | _, _ => none

/-- Rows of one-cell values, cell by cell. -/
def RepL (C : Cx) (T : List (Nat × Tok)) (U V : Nat → Prop) (vs : List Value) (cs : List PV) : Prop :=
  vs.length = cs.length ∧ ∀ (i : Nat) (v : Value) (p : PV), vs[i]? = some v → cs[i]? = some p → v.oneCell' = true ∧ RepV C T U V v p
theorem RepL.app {C : Cx} {T : List (Nat × Tok)} {U V : Nat → Prop} {vs us : List Value} {cs ds : List PV} (h : RepL C T U V vs cs) (k : RepL C T U V us ds) : RepL C T U V (vs ++ us) (cs ++ ds) := by
  refine ⟨by simp [h.1, k.1], fun i v p hv hp => ?_⟩
  by_cases hi : i < vs.length
  · rw [List.getElem?_append_left hi] at hv
    rw [List.getElem?_append_left (h.1 ▸ hi)] at hp
    exact h.2 i v p hv hp
  · rw [List.getElem?_append_right (by omega)] at hv
    rw [List.getElem?_append_right (by have := h.1; omega), ← h.1] at hp
    exact k.2 _ v p hv hp
theorem RepL.take {C : Cx} {T : List (Nat × Tok)} {U V : Nat → Prop} {vs : List Value} {cs : List PV} (h : RepL C T U V vs cs) (n : Nat) : RepL C T U V (vs.take n) (cs.take n) := by
  refine ⟨by simp [h.1], fun i v p hv hp => ?_⟩
  rw [List.getElem?_take] at hv hp
  split at hv
  · rw [if_pos (by assumption)] at hp
    exact h.2 i v p hv hp
  · cases hv
theorem RepL.drop {C : Cx} {T : List (Nat × Tok)} {U V : Nat → Prop} {vs : List Value} {cs : List PV} (h : RepL C T U V vs cs) (n : Nat) : RepL C T U V (vs.drop n) (cs.drop n) := by
  refine ⟨by simp [h.1], fun i v p hv hp => ?_⟩
  rw [List.getElem?_drop] at hv hp
  exact h.2 _ v p hv hp
theorem RepL.nil {C : Cx} {T : List (Nat × Tok)} {U V : Nat → Prop} : RepL C T U V [] [] := ⟨rfl, fun i v p h => by simp at h⟩
theorem RepL.cons {C : Cx} {T : List (Nat × Tok)} {U V : Nat → Prop} {v : Value} {p : PV} {vs : List Value} {cs : List PV} (h1 : v.oneCell' = true) (r : RepV C T U V v p) (h : RepL C T U V vs cs) : RepL C T U V (v :: vs) (p :: cs) :=
  RepL.app (vs := [v]) (cs := [p]) ⟨rfl, fun i u q hu hq => by
    cases i with
    | zero => simp at hu hq; subst hu hq; exact ⟨h1, r⟩
    | succ i => simp at hu⟩ h

theorem RepV.single {C : Cx} {T : List (Nat × Tok)} {U V : Nat → Prop} {v : Value} {p : PV} (h1 : v.oneCell' = true) (r : RepV C T U V v p) (hp : p.cells = [p]) : RepL C T U V v.cells.toList p.cells := by
  have : v.cells = #[v] := by cases v <;> first | rfl | simp [Value.oneCell'] at h1
  rw [this, hp]
  exact RepL.cons h1 r RepL.nil
theorem RepV.cells {C : Cx} {T : List (Nat × Tok)} {U V : Nat → Prop} {v : Value} {p : PV} (h : RepV C T U V v p) (h1 : ∀ cs, p ≠ .tup cs) : RepL C T U V v.cells.toList p.cells := by
  cases h with
  | frz h =>
    cases h with
    | val h2 => exact RepV.single h2 (.frz (.val h2)) rfl
    | sl f hn hc hsz hA hr => exact RepV.single rfl (.frz (.sl f hn hc hsz hA hr)) rfl
  | row h hk ht => exact RepV.single h.one (.row h hk ht) rfl
  | ptr h => exact RepV.single rfl (.ptr h) rfl
  | ms h hc => exact RepV.single rfl (.ms h hc) rfl
  | fp h => exact RepV.single rfl (.fp h) rfl
  | agg hs h h1' =>
    exact ⟨by simpa [Value.cells, PV.cells] using hs, fun i u p hv hp => ⟨h1' i u (by simpa [Value.cells] using hv), h i u p (by simpa [Value.cells] using hv) (by simpa [PV.cells] using hp)⟩⟩
  | tup hs h => exact absurd rfl (h1 _)
  | fn hs h => exact RepV.single rfl (.fn hs h) rfl
  | iface h => exact RepV.single rfl (.iface h) rfl
theorem fold_set (l : List Value) (off : Nat) : ∀ (k : Nat) (cs : Array Value), (l.zipIdx k).foldl (fun cs (c, j) => cs.setIfInBounds (off + j) c) cs = (l.zipIdx k).foldl (fun cs (c, j) => cs.setIfInBounds (off + j) c) cs := fun _ _ => rfl
theorem fold_put : ∀ (l : List Value) (off k : Nat) (cs : Array Value), off + k + l.length ≤ cs.size →
    ((l.zipIdx k).foldl (fun cs (c, j) => cs.setIfInBounds (off + j) c) cs).toList = cs.toList.take (off + k) ++ l ++ cs.toList.drop (off + k + l.length)
  | [], off, k, cs, _ => by simp
  | v :: r, off, k, cs, h => by
    have h' : off + (k + 1) + r.length ≤ (cs.setIfInBounds (off + k) v).size := by simp at h ⊢; omega
    rw [List.zipIdx_cons, List.foldl_cons, fold_put r off (k + 1) _ h']
    have e := list_seg_step cs.toList (off + k) v r (by simp at h ⊢; omega)
    simpa [Array.toList_setIfInBounds, Nat.add_assoc] using e
theorem fill_rep {C : Cx} {T : List (Nat × Tok)} {U V : Nat → Prop} {place : Nat → Option (Nat × Nat)} : ∀ (parts : List (Nat × Value)) (ps : List (Nat × PV)) (vs : Array Value) (cs out : List PV),
    parts.length = ps.length → (∀ (i : Nat) (x : Nat × Value) (y : Nat × PV), parts[i]? = some x → ps[i]? = some y → x.1 = y.1 ∧ RepL C T U V x.2.cells.toList y.2.cells) → RepL C T U V vs.toList cs →
    fillP place cs ps = some out → ∃ us, Instr.fill place vs parts = some us ∧ RepL C T U V us.toList out
  | [], ps, vs, cs, out, hl, _, hr, ho => by
    have : ps = [] := by cases ps <;> simp_all
    subst this
    simp only [fillP, Option.some.injEq] at ho
    subst ho
    exact ⟨vs, rfl, hr⟩
  | (i, v) :: parts, ps, vs, cs, out, hl, hp, hr, ho => by
    cases ps with
    | nil => simp at hl
    | cons y ps =>
      obtain ⟨i', p⟩ := y
      obtain ⟨e1, e2⟩ := hp 0 (i, v) (i', p) rfl rfl
      simp only at e1 e2
      subst e1
      simp only [fillP] at ho
      unfold Instr.fill
      cases hpl : place i with
      | none => simp [hpl] at ho
      | some os =>
        obtain ⟨off, size⟩ := os
        rw [hpl] at ho
        simp only at ho ⊢
        have hsz : v.cells.size = p.cells.length := by simpa using e2.1
        have hsv : vs.size = cs.length := by simpa using hr.1
        split at ho
        · cases ho
        · rename_i hc
          simp only [ne_eq, decide_not, Bool.or_eq_true, Bool.not_eq_true', decide_eq_false_iff_not, decide_eq_true_eq, not_or, Classical.not_not, Nat.not_lt, gt_iff_lt] at hc
          rw [if_neg (by simp only [ne_eq, decide_not, Bool.or_eq_true, Bool.not_eq_true', decide_eq_false_iff_not, decide_eq_true_eq, not_or, Classical.not_not, Nat.not_lt, gt_iff_lt, hsz, hsv]; exact hc)]
          have hcells : v.cells.zipIdx.foldl (fun cs (c, j) => cs.setIfInBounds (off + j) c) vs = (v.cells.toList.zipIdx 0).foldl (fun cs (c, j) => cs.setIfInBounds (off + j) c) vs := by
            rw [← Array.foldl_toList]
            simp
          refine fill_rep parts ps _ _ out (by simpa using hl) (fun j x y hx hy => hp (j + 1) x y hx hy) ?_ ho
          rw [hcells, fold_put _ off 0 _ (by simp; omega)]
          simp only [Nat.add_zero]
          have hlen : v.cells.toList.length = p.cells.length := e2.1
          rw [hlen]
          exact ((hr.take off).app e2).app (hr.drop _)
end Go.Pw
