/-
  How the relation moves: a new object, a store, a row that is made or grown.
-/
import Derived.Test.YtegehnojbfedlaaDoorPw6
import Derived.Laws.Tables
namespace Go.Pw
open Go Go.RowKit
set_option linter.unusedVariables false
set_option linter.unusedSimpArgs false
section
variable {P : Program} {own : Nat → Prop} {S0 : Base} {w0 w : World} {C : Cx} {U V : Nat → Prop} {st : PS} {a : Act}

theorem Rel.fresh (R : Rel own S0 w0 C U V st w) (o : Nat) : C.S w.heap.size o = none := by
  cases h : C.S w.heap.size o with
  | none => rfl
  | some v =>
    have h1 := R.stable _ _ _ h
    have := World.block_lt_of_cell? w _ h1
    simp at this
theorem cell_alloc_old {o : Obj} {b i : Nat} {v : Value} (h : w.cell? ⟨b, i, none⟩ = some v) : (w.alloc o).cell? ⟨b, i, none⟩ = some v := by
  have := World.block_lt_of_cell? w _ h
  rw [World.cell?_alloc_lt _ _ _ this]
  exact h
theorem heap_lt {b : Nat} {o : Obj} (h : w.heap[b]? = some o) : b < w.heap.size := (Array.getElem?_eq_some_iff.1 h).1
theorem heap_alloc_lt {b : Nat} {o o' : Obj} (h : w.heap[b]? = some o) : (w.alloc o').heap[b]? = some o := by
  show (w.heap.push o')[b]? = some o
  have := heap_lt h
  rw [Array.getElem?_push, if_neg (by omega)]
  exact h
theorem heap_alloc_at (o : Obj) : (w.alloc o).heap[w.heap.size]? = some o := by
  show (w.heap.push o)[w.heap.size]? = some o
  simp

/-- What a draw turns is no memory. -/
theorem Rel.drew (R : Rel own S0 w0 C U V st w) : Rel own S0 w0 C U V st w.drew :=
  ⟨⟨R.frame.os, R.frame.tape, R.frame.output, R.frame.size, R.frame.block⟩, R.stable, R.box, R.iter, R.hown, R.hinj, R.tok, R.tbox, R.tinj, R.snew, R.sold, R.base, R.glob⟩

def Cx.at (C : Cx) (id b : Nat) : Cx := { C with ρ := fun i => if i = id then b else C.ρ i }
theorem Rel.ext_at (R : Rel own S0 w0 C U V st w) (b id : Nat) (hid : ¬ U id) {U' : Nat → Prop} (hU : ∀ i, U i → U' i) : Ext C (C.at id b) st.toks st.toks U V U' V :=
  ⟨SLe.refl _, fun i hi => by simp [Cx.at, show i ≠ id from fun e => hid (e ▸ hi)], fun k t _ h => ⟨t, h, Nat.le_refl _, rfl, fun _ => rfl⟩, hU, fun _ h => h⟩

/-- A new object. -/
theorem Rel.newObj (R : Rel own S0 w0 C U V st w) (nid : Nat) (hid : ¬ U nid) {U' : Nat → Prop} (hU : ∀ i, U i → U' i) (hU' : U' nid) (ob : PObj) (o : Obj)
    (hb : ∀ T cs, ob = .box T cs → ∃ vs : Array Value, o = .cells vs T (0, 0) ∧ RepL C st.toks U V vs.toList cs) (hi : ∀ s pos, ob = .iter s pos → o = .stringIter s pos) (nx' nt' : Nat) :
    Rel own S0 w0 (C.at nid w.heap.size) U' V { st with heap := (nid, ob) :: st.heap, nx := nx', nt := nt' } (w.alloc o) := by
  have E := R.ext_at w.heap.size nid hid hU
  have hne : ∀ id o, lkp st.heap id = some o → id ≠ nid := fun id o h e => hid (e ▸ (R.hown id o h).1)
  have hρ : ∀ id o, lkp st.heap id = some o → (C.at nid w.heap.size).ρ id = C.ρ id := fun id o h => by simp [Cx.at, hne id o h]
  have hnew : (C.at nid w.heap.size).ρ nid = w.heap.size := by simp [Cx.at]
  refine ⟨⟨R.frame.os, R.frame.tape, R.frame.output, by have := R.frame.size; simp; omega, fun k hk hn => ?_⟩, fun b o v h => cell_alloc_old (R.stable b o v h), ?_, ?_, ?_, ?_, ?_, ?_, R.tinj, R.snew, R.sold, R.base.trans E, R.glob⟩
  · have hs := R.frame.size
    rw [← R.frame.block k hk hn]
    show (w.heap.push _)[k]? = _
    rw [Array.getElem?_push, if_neg (by omega)]
  · intro id T cs h
    simp only [lkp_cons] at h
    split at h
    · rename_i e
      subst e
      obtain ⟨vs, rfl, hr⟩ := hb T cs (Option.some.inj h)
      refine ⟨vs, by rw [hnew]; exact heap_alloc_at _, by simpa using hr.1, fun i v p hv hp => ?_⟩
      have := hr.2 i v p (by simpa using hv) hp
      exact ⟨this.1, this.2.ext E⟩
    · obtain ⟨vs, h1, h2, h3⟩ := R.box id T cs h
      exact ⟨vs, by rw [hρ id _ h]; exact heap_alloc_lt h1, h2, fun i v p hv hp => ⟨(h3 i v p hv hp).1, (h3 i v p hv hp).2.ext E⟩⟩
  · intro id s pos h
    simp only [lkp_cons] at h
    split at h
    · rename_i e
      subst e
      rw [hnew, hi s pos (Option.some.inj h)]
      exact heap_alloc_at _
    · rw [hρ id _ h]
      exact heap_alloc_lt (R.iter id s pos h)
  · intro id ob' h
    simp only [lkp_cons] at h
    split at h
    · rename_i e
      subst e
      rw [hnew]
      exact ⟨hU', by simp, .inr (by have := R.frame.size; omega), fun o' => R.fresh o'⟩
    · obtain ⟨h1, h2, h3, h4⟩ := R.hown id ob' h
      rw [hρ id _ h]
      exact ⟨hU _ h1, by simp; omega, h3, h4⟩
  · intro i j oi oj h1 h2 he
    simp only [lkp_cons] at h1 h2
    split at h1 <;> split at h2
    · rename_i e1 e2
      rw [e1, e2]
    · rename_i e1 e2
      subst e1
      rw [hnew, hρ j _ h2] at he
      have := (R.hown j oj h2).2.1
      omega
    · rename_i e1 e2
      subst e2
      rw [hnew, hρ i _ h1] at he
      have := (R.hown i oi h1).2.1
      omega
    · rw [hρ i _ h1, hρ j _ h2] at he
      exact R.hinj i j oi oj h1 h2 he
  · intro k t h
    obtain ⟨h1, h2, ⟨vs, h3, h4⟩, h5, h6, h7⟩ := R.tok k t h
    exact ⟨h1, h2, ⟨vs, heap_alloc_lt h3, h4⟩, h5, h6, h7⟩
  · intro i oi k t h1 h2
    obtain ⟨_, _, ⟨vs, h3, _⟩, _⟩ := R.tok k t h2
    simp only [lkp_cons] at h1
    split at h1
    · rename_i e
      subst e
      rw [hnew]
      have h4 := heap_lt h3
      show w.heap.size ≠ (C.τ k).1
      omega
    · rw [hρ i _ h1]
      exact R.tbox i oi k t h1 h2

/-- A store into an object. -/
theorem Rel.store (R : Rel own S0 w0 C U V st w) {id : Nat} {T : TypeId} {cs : List PV} (ho : lkp st.heap id = some (.box T cs)) {cs' : List PV} {vs' : Array Value}
    (hr : RepL C st.toks U V vs'.toList cs') : Rel own S0 w0 C U V { st with heap := upd st.heap id (.box T cs') } (w.setRow (C.ρ id) vs') := by
  obtain ⟨vs, hb, hs, _⟩ := R.box id T cs ho
  obtain ⟨hid, hlt, hown, hS⟩ := R.hown id _ ho
  have hother : ∀ k, k ≠ C.ρ id → (w.setRow (C.ρ id) vs').heap[k]? = w.heap[k]? := fun k hk => setRow_other w _ k _ hk
  have hup : ∀ j o, lkp (upd st.heap id (.box T cs')) j = some o → (j = id ∧ o = .box T cs') ∨ (j ≠ id ∧ lkp st.heap j = some o) := fun j o h => by
    rw [lkp_upd] at h
    split at h
    · exact .inl ⟨by assumption, (Option.some.inj h).symm⟩
    · exact .inr ⟨by assumption, h⟩
  have hsize : (w.setRow (C.ρ id) vs').heap.size = w.heap.size := by simp [World.setRow]
  refine ⟨⟨R.frame.os, R.frame.tape, R.frame.output, by rw [hsize]; exact R.frame.size, fun k hk hn => ?_⟩, fun b o v h => ?_, ?_, ?_, ?_, ?_, ?_, ?_, R.tinj, R.snew, R.sold, R.base, R.glob⟩
  · rw [hother k (fun e => by subst e; rcases hown with h | h; exact hn h; omega)]
    exact R.frame.block k hk hn
  · have hne : b ≠ C.ρ id := fun e => by subst e; rw [hS o] at h; cases h
    rw [World.cell?_of_block (w := w) (hother b hne)]
    exact R.stable b o v h
  · intro j T' cs'' h
    rcases hup j _ h with ⟨rfl, e⟩ | ⟨hne, h⟩
    · injection e with e1 e2
      subst e1 e2
      exact ⟨vs', setRow_heap w _ vs vs' _ _ hb, by simpa using hr.1, fun i v p hv hp => hr.2 i v p (by simpa using hv) hp⟩
    · obtain ⟨us, h1, h2, h3⟩ := R.box j T' cs'' h
      exact ⟨us, by rw [hother _ (fun e => hne (R.hinj j id _ _ h ho e))]; exact h1, h2, h3⟩
  · intro j s pos h
    rcases hup j _ h with ⟨rfl, e⟩ | ⟨hne, h⟩
    · cases e
    · rw [hother _ (fun e => hne (R.hinj j id _ _ h ho e))]
      exact R.iter j s pos h
  · intro j o h
    rw [hsize]
    rcases hup j _ h with ⟨rfl, e⟩ | ⟨hne, h⟩
    · exact ⟨hid, hlt, hown, hS⟩
    · exact R.hown j o h
  · intro i j oi oj h1 h2 he
    rcases hup i _ h1 with ⟨ei, e1⟩ | ⟨hne1, g1⟩ <;> rcases hup j _ h2 with ⟨ej, e2⟩ | ⟨hne2, g2⟩
    · rw [ei, ej]
    · rw [ei] at he ⊢; exact R.hinj _ _ _ _ ho g2 he
    · rw [ej] at he ⊢; exact R.hinj _ _ _ _ g1 ho he
    · exact R.hinj i j oi oj g1 g2 he
  · intro k t h
    obtain ⟨h1, h2, ⟨us, h3, h4⟩, h5, h6, h7⟩ := R.tok k t h
    exact ⟨h1, h2, ⟨us, by rw [hother _ (fun e => R.tbox id _ k t ho h e.symm)]; exact h3, h4⟩, h5, h6, h7⟩
  · intro i oi k t h1 h2
    rcases hup i _ h1 with ⟨rfl, e1⟩ | ⟨hne1, h1⟩
    · exact R.tbox _ _ k t ho h2
    · exact R.tbox i oi k t h1 h2

/-- The iterator of a text goes on. -/
theorem Rel.step (R : Rel own S0 w0 C U V st w) {id : Nat} {s : ByteArray} {pos : Nat} (ho : lkp st.heap id = some (.iter s pos)) (pos' : Nat) :
    Rel own S0 w0 C U V { st with heap := upd st.heap id (.iter s pos') } { w with heap := w.heap.setIfInBounds (C.ρ id) (.stringIter s pos') } := by
  obtain ⟨hid, hlt, hown, hS⟩ := R.hown id _ ho
  have hother : ∀ k, k ≠ C.ρ id → (w.heap.setIfInBounds (C.ρ id) (.stringIter s pos'))[k]? = w.heap[k]? := fun k hk => Array.getElem?_setIfInBounds_ne (Ne.symm hk)
  have hup : ∀ j o, lkp (upd st.heap id (.iter s pos')) j = some o → (j = id ∧ o = .iter s pos') ∨ (j ≠ id ∧ lkp st.heap j = some o) := fun j o h => by
    rw [lkp_upd] at h
    split at h
    · exact .inl ⟨by assumption, (Option.some.inj h).symm⟩
    · exact .inr ⟨by assumption, h⟩
  refine ⟨⟨R.frame.os, R.frame.tape, R.frame.output, by simpa using R.frame.size, fun k hk hn => ?_⟩, fun b o v h => ?_, ?_, ?_, ?_, ?_, ?_, ?_, R.tinj, R.snew, R.sold, R.base, R.glob⟩
  · show (w.heap.setIfInBounds (C.ρ id) (.stringIter s pos'))[k]? = _
    rw [hother k (fun e => by subst e; rcases hown with h | h; exact hn h; omega)]
    exact R.frame.block k hk hn
  · have hne : b ≠ C.ρ id := fun e => by subst e; rw [hS o] at h; cases h
    rw [World.cell?_of_block (w := w) (a := ⟨b, o, none⟩) (hother b hne)]
    exact R.stable b o v h
  · intro j T' cs'' h
    rcases hup j _ h with ⟨rfl, e⟩ | ⟨hne, h⟩
    · cases e
    · obtain ⟨us, h1, h2, h3⟩ := R.box j T' cs'' h
      exact ⟨us, by rw [hother _ (fun e => hne (R.hinj j id _ _ h ho e))]; exact h1, h2, h3⟩
  · intro j s' q h
    rcases hup j _ h with ⟨rfl, e⟩ | ⟨hne, h⟩
    · injection e with e1 e2
      subst e1 e2
      show (w.heap.setIfInBounds (C.ρ j) (.stringIter s' q))[C.ρ j]? = _
      simp [Array.getElem?_setIfInBounds, hlt]
    · rw [hother _ (fun e => hne (R.hinj j id _ _ h ho e))]
      exact R.iter j s' q h
  · intro j o h
    rcases hup j _ h with ⟨rfl, e⟩ | ⟨hne, h⟩
    · exact ⟨hid, by simpa using hlt, hown, hS⟩
    · obtain ⟨h1, h2, h3, h4⟩ := R.hown j o h
      exact ⟨h1, by simpa using h2, h3, h4⟩
  · intro i j oi oj h1 h2 he
    rcases hup i _ h1 with ⟨ei, e1⟩ | ⟨hne1, g1⟩ <;> rcases hup j _ h2 with ⟨ej, e2⟩ | ⟨hne2, g2⟩
    · rw [ei, ej]
    · rw [ei] at he ⊢; exact R.hinj _ _ _ _ ho g2 he
    · rw [ej] at he ⊢; exact R.hinj _ _ _ _ g1 ho he
    · exact R.hinj i j oi oj g1 g2 he
  · intro k t h
    obtain ⟨h1, h2, ⟨us, h3, h4⟩, h5, h6, h7⟩ := R.tok k t h
    exact ⟨h1, h2, ⟨us, by rw [hother _ (fun e => R.tbox id _ k t ho h e.symm)]; exact h3, h4⟩, h5, h6, h7⟩
  · intro i oi k t h1 h2
    rcases hup i _ h1 with ⟨rfl, e1⟩ | ⟨hne1, h1⟩
    · exact R.tbox _ _ k t ho h2
    · exact R.tbox i oi k t h1 h2

/-- The first m cells of block g turn no more. -/
def Cx.keep (C : Cx) (k g cap m : Nat) (cur : Array Value) : Cx :=
  { ρ := C.ρ, τ := fun i => if i = k then (g, cap) else C.τ i, S := fun b o => if b = g ∧ o < m then cur[o]? else C.S b o }

/-- A row (new, or one that has grown in its block or into a new one) that may be appended to. -/
theorem Rel.row (R : Rel own S0 w0 C U V st w) {w' : World} {k g cap n : Nat} {e : TypeId} {sz : Nat} {cur : Array Value}
    (hfr : w'.os = w.os ∧ w'.tape = w.tape ∧ w'.output = w.output ∧ w.heap.size ≤ w'.heap.size ∧ ∀ b, b < w.heap.size → b ≠ g → w'.heap[b]? = w.heap[b]?)
    (hg : w'.heap[g]? = some (.cells cur e (0, 0))) (hcur : cur.size = cap * sz) (hn : n ≤ cap) (hcap : cap ≤ maxLen)
    (hk : (lkp st.toks k = none ∧ ¬ V k ∧ w.heap.size ≤ g) ∨ ∃ t, lkp st.toks k = some t ∧ t.n < n ∧ t.sz = sz ∧ ((g = (C.τ k).1 ∧ cap = (C.τ k).2 ∧ ∀ o v, C.S g o = some v → cur[o]? = some v) ∨ w.heap.size ≤ g))
    {V' : Nat → Prop} (hnt : ∀ i, V i → V' i) (hk' : V' k) (nx' nt' : Nat) :
    Rel own S0 w0 (C.keep k g cap (n * sz) cur) U V' { st with toks := upd st.toks k ⟨e, sz, n⟩, nx := nx', nt := nt' } w' ∧ Ext C (C.keep k g cap (n * sz) cur) st.toks (upd st.toks k ⟨e, sz, n⟩) U V U V' := by
  obtain ⟨f1, f2, f3, f4, f5⟩ := hfr
  have hglt : g < w'.heap.size := heap_lt hg
  have hSg : ∀ o v, C.S g o = some v → cur[o]? = some v ∧ o < n * sz := by
    intro o v h
    rcases hk with ⟨_, _, hge⟩ | ⟨t, ht, htn, hts, hcase⟩
    · have := World.block_lt_of_cell? w _ (R.stable g o v h)
      simp at this
      omega
    · rcases hcase with ⟨hgτ, _, hc⟩ | hge
      · refine ⟨hc o v h, ?_⟩
        obtain ⟨_, _, _, _, _, h7⟩ := R.tok k t ht
        apply Classical.byContradiction
        intro hlt
        have hle : t.n * t.sz ≤ o := Nat.le_trans (by rw [hts]; exact Nat.mul_le_mul_right _ (Nat.le_of_lt htn)) (Nat.le_of_not_lt hlt)
        have := h7 o hle
        rw [← hgτ, h] at this
        cases this
      · have := World.block_lt_of_cell? w _ (R.stable g o v h)
        simp at this
        omega
  have hgowned : own g ∨ w0.heap.size ≤ g := by
    have hs := R.frame.size
    rcases hk with ⟨_, _, hge⟩ | ⟨t, ht, _, _, ⟨hgτ, _⟩ | hge⟩
    · exact .inr (by omega)
    · rw [hgτ]; exact (R.tok k t ht).2.1
    · exact .inr (by omega)
  have hgbox : ∀ i oi, lkp st.heap i = some oi → C.ρ i ≠ g := by
    intro i oi h
    rcases hk with ⟨_, _, hge⟩ | ⟨t, ht, _, _, ⟨hgτ, _⟩ | hge⟩
    · have := (R.hown i oi h).2.1; omega
    · rw [hgτ]; exact R.tbox i oi k t h ht
    · have := (R.hown i oi h).2.1; omega
  have hgtok : ∀ j tj, lkp st.toks j = some tj → j ≠ k → (C.τ j).1 ≠ g := by
    intro j tj h hne
    obtain ⟨_, _, ⟨us, h3, _⟩, _⟩ := R.tok j tj h
    have := heap_lt h3
    rcases hk with ⟨_, _, hge⟩ | ⟨t, ht, _, _, ⟨hgτ, _⟩ | hge⟩
    · omega
    · rw [hgτ]; exact fun e => hne (R.tinj j k tj t h ht e)
    · omega
  have hSle : SLe C.S (C.keep k g cap (n * sz) cur).S := by
    intro b o v h
    show (if b = g ∧ o < n * sz then cur[o]? else C.S b o) = some v
    split
    · rename_i hc
      rw [hc.1] at h
      exact (hSg o v h).1
    · exact h
  have hup : ∀ j t, lkp (upd st.toks k ⟨e, sz, n⟩) j = some t → (j = k ∧ t = ⟨e, sz, n⟩) ∨ (j ≠ k ∧ lkp st.toks j = some t) := fun j t h => by
    rw [lkp_upd] at h
    split at h
    · exact .inl ⟨by assumption, (Option.some.inj h).symm⟩
    · exact .inr ⟨by assumption, h⟩
  have hτk : (C.keep k g cap (n * sz) cur).τ k = (g, cap) := by simp [Cx.keep]
  have hτ : ∀ j, j ≠ k → (C.keep k g cap (n * sz) cur).τ j = C.τ j := fun j hj => by simp [Cx.keep, hj]
  have hext : Ext C (C.keep k g cap (n * sz) cur) st.toks (upd st.toks k ⟨e, sz, n⟩) U V U V' := by
    refine ⟨hSle, fun _ _ => rfl, fun j t' hj h => ?_, fun _ h => h, hnt⟩
    rcases hup j t' h with ⟨rfl, rfl⟩ | ⟨hne, h⟩
    · rcases hk with ⟨_, hge, _⟩ | ⟨t, ht, htn, hts, _⟩
      · exact absurd hj hge
      · exact ⟨t, ht, Nat.le_of_lt htn, hts.symm, fun e => by simp only at e; omega⟩
    · exact ⟨t', h, Nat.le_refl _, rfl, fun _ => hτ j hne⟩
  refine ⟨⟨⟨f1.trans R.frame.os, f2.trans R.frame.tape, f3.trans R.frame.output, Nat.le_trans R.frame.size f4, fun b hb hno => ?_⟩, ?_, ?_, ?_, ?_, R.hinj, ?_, ?_, ?_, ?_, R.sold.trans hSle, R.base.trans hext, R.glob⟩, hext⟩
  · have hs := R.frame.size
    rw [f5 b (by omega) (fun e => by subst e; rcases hgowned with h | h; exact hno h; omega)]
    exact R.frame.block b hb hno
  · intro b o v h
    by_cases hb : b = g
    · subst hb
      have hc : cur[o]? = some v := by
        have h' : (if b = b ∧ o < n * sz then cur[o]? else C.S b o) = some v := h
        split at h'
        · exact h'
        · exact (hSg o v h').1
      simp [World.cell?, hg, hc]
    · have h' : C.S b o = some v := by
        have h' : (if b = g ∧ o < n * sz then cur[o]? else C.S b o) = some v := h
        rwa [if_neg (fun e => hb e.1)] at h'
      have h1 := R.stable b o v h'
      have hlt := World.block_lt_of_cell? w _ h1
      rw [World.cell?_of_block (w := w) (a := ⟨b, o, none⟩) (f5 b hlt hb)]
      exact h1
  · intro id T cs h
    obtain ⟨vs, h1, h2, h3⟩ := R.box id T cs h
    refine ⟨vs, ?_, h2, fun i v p hv hp => ⟨(h3 i v p hv hp).1, (h3 i v p hv hp).2.ext hext⟩⟩
    show w'.heap[C.ρ id]? = _
    rw [f5 _ (heap_lt h1) (hgbox id _ h)]
    exact h1
  · intro id s pos h
    have h1 := R.iter id s pos h
    show w'.heap[C.ρ id]? = _
    rw [f5 _ (heap_lt h1) (hgbox id _ h)]
    exact h1
  · intro id o h
    obtain ⟨h1, h2, h3, h4⟩ := R.hown id o h
    refine ⟨h1, Nat.lt_of_lt_of_le h2 f4, h3, fun o' => ?_⟩
    show (if C.ρ id = g ∧ o' < n * sz then cur[o']? else C.S (C.ρ id) o') = none
    rw [if_neg (fun e => hgbox id _ h e.1)]
    exact h4 o'
  · intro j t h
    rcases hup j t h with ⟨rfl, rfl⟩ | ⟨hne, h⟩
    · rw [hτk]
      refine ⟨hk', hgowned, ⟨cur, hg, hcur⟩, hn, hcap, fun o ho => ?_⟩
      show (if g = g ∧ o < n * sz then cur[o]? else C.S g o) = none
      rw [if_neg (fun e => by simp only at ho; omega)]
      cases hS : C.S g o with
      | none => rfl
      | some v => have := (hSg o v hS).2; simp only at ho; omega
    · obtain ⟨h1, h2, ⟨vs, h3, h4⟩, h5, h6, h7⟩ := R.tok j t h
      have hjg := hgtok j t h hne
      rw [hτ j hne]
      refine ⟨hnt _ h1, h2, ⟨vs, by rw [f5 _ (heap_lt h3) hjg]; exact h3, h4⟩, h5, h6, fun o ho => ?_⟩
      show (if (C.τ j).1 = g ∧ o < n * sz then cur[o]? else C.S (C.τ j).1 o) = none
      rw [if_neg (fun e => hjg e.1)]
      exact h7 o ho
  · intro i oi j t h1 h2
    show C.ρ i ≠ _
    rcases hup j t h2 with ⟨rfl, rfl⟩ | ⟨hne, h2⟩
    · rw [hτk]; exact hgbox i oi h1
    · rw [hτ j hne]; exact R.tbox i oi j t h1 h2
  · intro i j ti tj h1 h2 he
    rcases hup i ti h1 with ⟨ei, e1⟩ | ⟨hne1, g1⟩ <;> rcases hup j tj h2 with ⟨ej, e2⟩ | ⟨hne2, g2⟩
    · rw [ei, ej]
    · rw [ei, hτk, hτ j hne2] at he
      exact absurd he.symm (hgtok j tj g2 hne2)
    · rw [ej, hτk, hτ i hne1] at he
      exact absurd he (hgtok i ti g1 hne1)
    · rw [hτ i hne1, hτ j hne2] at he
      exact R.tinj i j ti tj g1 g2 he
  · intro b o v h
    have h' : (if b = g ∧ o < n * sz then cur[o]? else C.S b o) = some v := h
    split at h'
    · rename_i hc
      rw [hc.1]
      exact .inr hgowned
    · exact R.snew b o v h'
end
end Go.Pw
