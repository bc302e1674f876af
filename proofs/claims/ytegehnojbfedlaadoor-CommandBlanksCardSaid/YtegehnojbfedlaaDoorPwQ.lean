/-
  Contracts that don't tell all of a result.
-/
import Derived.Test.YtegehnojbfedlaaDoorPwH
namespace Go.Pw
open Go Go.RowKit
set_option linter.unusedVariables false
set_option linter.unusedSimpArgs false
section
variable {P : Program}
/-- ████ As Ok; of the result no more is told than Q. -/
def OkQ (P : Program) (f : FuncId) (args : List PV) (Q : PV → Prop) : Prop :=
  enters P f = true ∧ ∀ (S : Cells) (w : World) (vals : Array Value), Known w → Stable S w → vals.size = args.length → (∀ (i : Nat) (v : Value) (p : PV), vals[i]? = some v → args[i]? = some p → RepA S v p) →
    Calls P f vals w fun e w' => ∃ r v S', Q r ∧ e = .returned v ∧ SLe S S' ∧ Stable S' w' ∧ (∀ b o u, S' b o = some u → S b o = some u ∨ w.heap.size ≤ b) ∧ RepA S' v r ∧ Below w.heap.size w w'
def outQ (P : Program) (fn : Func) (Q : PV → Prop) : Exit → PS → Prop
  | .normal, st => bindO (resAll P st fn.results.toList) fun l => bindO (fzHAs P st.heap l) fun l' => Q (packR l')
  | .ret, st => bindO (resAll P st fn.results.toList) fun l => bindO (fzHAs P st.heap l) fun l' => Q (packR l')
  | _, _ => False
/-- ████ A function does what its code says, of which not all is told. -/
theorem OkQ.of_pwp (hm : P.follows .mixedOrders = true) {f : FuncId} {fn : Func} {c : Code} {args : List PV} {Q : PV → Prop} (hf : P.funcs[f]? = some fn) (hb : fn.body = some c) (hent : enters P f = true)
    (hfit : fitsC (args.length + (fn.ntmps - args.length)) c = true) {bar : Nat → Option Nat} (h : pwp P ⟨(0, 0), bar⟩ c (enterPS args) (outQ P fn Q)) : OkQ P f args Q := by
  refine ⟨hent, fun S w vals hkn hS hsz hrep => ?_⟩
  refine calls_of_wp hf hb ?_
  have hst : Stt Never ⟨S, C0 S, [], Never, Never⟩ w (args.length + (fn.ntmps - args.length)) (enterPS args) { tmps := vals ++ Array.replicate (fn.ntmps - vals.size) undef, defers := [] } w := by
    refine ⟨rfl, by simp [hsz], C0 S, ⟨Frame.refl _ _, hS, ?_, ?_, ?_, ?_, ?_, ?_, ?_, fun b o v h => .inl h, SLe.refl _, ⟨SLe.refl _, fun _ h => h.elim, fun _ _ h => h.elim, fun _ h => h.elim, fun _ h => h.elim⟩, ⟨hkn.2, hkn.1, fun _ _ h => h⟩⟩, ?_⟩
    · intro id T cs h; cases h
    · intro id s pos h; cases h
    · intro id o h; cases h
    · intro i j oi oj h; cases h
    · intro k t h; cases h
    · intro i oi k t h; cases h
    · intro i j ti tj h; cases h
    · intro t p h
      obtain ⟨_, h2⟩ := enterEnv_lkp args 0 t p h
      rw [Nat.sub_zero] at h2
      have ht : t < vals.size := by rw [hsz]; exact (List.getElem?_eq_some_iff.1 h2).1
      have hv : vals[t]? = some vals[t] := Array.getElem?_eq_getElem ht
      refine ⟨vals[t], ?_, RepV.ext (C := C0 S) (C' := C0 S) (T := []) (T' := []) ⟨SLe.refl _, fun _ h => h.elim, fun _ _ h => h.elim, fun _ h => h.elim, fun _ h => h.elim⟩ (hrep t _ p hv h2)⟩
      show (vals ++ Array.replicate _ undef)[t]? = _
      rw [Array.getElem?_append_left ht]
      exact hv
  refine wp_mono (pwp_sound (S0 := ⟨S, C0 S, [], Never, Never⟩) hm ⟨fun _ h => False.elim h, fun _ h => False.elim h⟩ c _ _ _ w hfit h hst) ?_
  have fin : ∀ (st : PS) (a' : Act) (w' : World), Stt Never ⟨S, C0 S, [], Never, Never⟩ w (args.length + (fn.ntmps - args.length)) st a' w' → (bindO (resAll P st fn.results.toList) fun l => bindO (fzHAs P st.heap l) fun l' => Q (packR l')) →
      a'.defers = [] ∧ ∃ v, (results fn a'.tmps).run P w' = .ok v w' ∧ ∃ r v' S', Q r ∧ Ending.returned v = Ending.returned v' ∧ SLe S S' ∧ Stable S' w' ∧ (∀ b o u, S' b o = some u → S b o = some u ∨ w.heap.size ≤ b) ∧ RepA S' v' r ∧ Below w.heap.size w w' := by
    intro st a' w' ⟨h1, h2, C, R, E⟩ hk
    replace hk := bindO_elim hk
    obtain ⟨l, hl, hk⟩ := hk
    replace hk := bindO_elim hk
    obtain ⟨l', hl', hq⟩ := hk
    let S' : Cells := fun b o => if w.heap.size ≤ b then w'.cell? ⟨b, o, none⟩ else S b o
    have hO : Over C st w' S' := by
      refine ⟨fun b o v h => ?_, fun id o ho i v hv => ?_⟩
      · show (if _ then _ else _) = _
        split
        · exact R.stable b o v h
        · rcases R.snew b o v h with h | h | h
          · exact h
          · exact h.elim
          · contradiction
      · show (if _ then _ else _) = _
        rcases (R.hown id o ho).2.2.1 with h | h
        · exact h.elim
        · rw [if_pos h]; exact hv
    obtain ⟨v, hv, hr⟩ := results_soundH (P := P) R E hO hl hl'
    refine ⟨h1, v, hv, packR l', v, S', hq, rfl, fun b o u h => hO.s _ _ _ (R.sold _ _ _ h), fun b o u h => ?_, fun b o u h => ?_, hr, ⟨R.frame.os, R.frame.tape, R.frame.output, R.frame.size, fun k hk => R.frame.block k hk (fun h => h)⟩⟩
    · replace h : (if w.heap.size ≤ b then w'.cell? ⟨b, o, none⟩ else S b o) = some u := h
      split at h
      · exact h
      · exact R.stable b o u (R.sold _ _ _ h)
    · replace h : (if w.heap.size ≤ b then w'.cell? ⟨b, o, none⟩ else S b o) = some u := h
      split at h
      · exact .inr ‹_›
      · exact .inl h
  rintro e a' w' ⟨st, hq, hs⟩
  cases e with
  | normal => exact fin st a' w' hs hq
  | ret => exact fin st a' w' hs hq
  | _ => exact hq.elim

theorem Rel.afterPure {own : Nat → Prop} {S0 : Base} {w0 w w' : World} {C : Cx} {U V : Nat → Prop} {st : PS} {S' : Cells} (R : Rel own S0 w0 C U V st w) (hS : SLe C.S S') (hst : Stable S' w') (hnew : ∀ b o u, S' b o = some u → C.S b o = some u ∨ w.heap.size ≤ b) (hb : Below w.heap.size w w') :
    Rel own S0 w0 { C with S := S' } U V st w' ∧ Ext C { C with S := S' } st.toks st.toks U V U V := by
  have X' : Ext C { C with S := S' } st.toks st.toks U V U V := ⟨hS, fun _ _ => rfl, fun k t _ h => ⟨t, h, Nat.le_refl _, rfl, fun _ => rfl⟩, fun _ h => h, fun _ h => h⟩
  have heap_lt : ∀ {b : Nat} {x : Obj}, w.heap[b]? = some x → b < w.heap.size := fun h => (Array.getElem?_eq_some_iff.1 h).1
  have hold : ∀ b, b < w.heap.size → w'.heap[b]? = w.heap[b]? := hb.block
  have hfree : ∀ b o, b < w.heap.size → C.S b o = none → S' b o = none := by
    intro b o hb' hn
    cases h : S' b o with
    | none => rfl
    | some u =>
      rcases hnew b o u h with h1 | h1
      · rw [hn] at h1; cases h1
      · omega
  have hs0 := R.frame.size
  refine ⟨?_, X'⟩
  refine ⟨⟨hb.os.trans R.frame.os, hb.tape.trans R.frame.tape, hb.output.trans R.frame.output, Nat.le_trans hs0 hb.size, fun k hk hn => (hold k (by omega)).trans (R.frame.block k hk hn)⟩, hst, ?_, ?_, ?_, R.hinj, ?_, R.tbox, R.tinj, ?_, R.sold.trans hS, R.base.trans X', R.glob⟩
  · intro id T cs h
    obtain ⟨us, h1, h2, h3⟩ := R.box id T cs h
    exact ⟨us, (hold _ (heap_lt h1)).trans h1, h2, fun i v p hv hp => ⟨(h3 i v p hv hp).1, (h3 i v p hv hp).2.ext X'⟩⟩
  · intro id s pos h
    have h1 := R.iter id s pos h
    exact (hold _ (heap_lt h1)).trans h1
  · intro id o h
    obtain ⟨h1, h2, h3, h4⟩ := R.hown id o h
    exact ⟨h1, Nat.lt_of_lt_of_le h2 hb.size, h3, fun o' => hfree _ _ h2 (h4 o')⟩
  · intro k t h
    obtain ⟨h1, h2, ⟨us, h3, h4⟩, h5, h6, h7⟩ := R.tok k t h
    exact ⟨h1, h2, ⟨us, (hold _ (heap_lt h3)).trans h3, h4⟩, h5, h6, fun o ho' => hfree _ _ (heap_lt h3) (h7 o ho')⟩
  · intro b o u h
    rcases hnew b o u h with h1 | h1
    · exact R.snew b o u h1
    · exact .inr (.inr (by omega))
theorem Ok.q {f : FuncId} {args : List PV} {r : PV} (h : Ok P f args r) : OkQ P f args (· = r) :=
  ⟨h.1, fun S w vals hk hS hn hr => (h.2 S w vals hk hS hn hr).mono (fun e w' ⟨v, S', h1, h2, h3, h4, h5, h6⟩ => ⟨r, v, S', rfl, h1, h2, h3, h4, h5, h6⟩)⟩
theorem OkQ.mono {f : FuncId} {args : List PV} {Q Q' : PV → Prop} (h : OkQ P f args Q) (k : ∀ r, Q r → Q' r) : OkQ P f args Q' :=
  ⟨h.1, fun S w vals hk hS hn hr => (h.2 S w vals hk hS hn hr).mono (fun e w' ⟨r, v, S', h0, h1⟩ => ⟨r, v, S', k r h0, h1⟩)⟩
/-- Such a call in a state's memory. -/
theorem OkI.ofQ {g : FuncId} {st : PS} {as as' : List PV} {Q : PV → Prop} (ok : OkQ P g as' Q) (hf : fzAs as = some as') : OkI P g as st (fun r' st' => Q r' ∧ st' = st) := by
  refine ⟨ok.1, fun own S0 w0 w C vals R hn hr => ?_⟩
  obtain ⟨h4, h5⟩ := fzAs_get hf
  refine (ok.2 C.S w vals R.known R.stable (by omega) (fun i v q hv hq => ?_)).mono ?_
  · have hi : i < as.length := by rw [h4]; exact (List.getElem?_eq_some_iff.1 hq).1
    have hp := List.getElem?_eq_getElem hi
    exact fzA_rep (h5 i _ q hp hq) (hr i v _ hv hp)
  · rintro e w' ⟨r, v, S', hq, rfl, hS, hst, hnew, hr', hbel⟩
    obtain ⟨R', X'⟩ := R.afterPure hS hst hnew hbel
    exact ⟨r, st, v, { C with S := S' }, ⟨hq, rfl⟩, rfl, R', X', RepA.up (C := { C with S := S' }) hr'⟩
end
end Go.Pw
