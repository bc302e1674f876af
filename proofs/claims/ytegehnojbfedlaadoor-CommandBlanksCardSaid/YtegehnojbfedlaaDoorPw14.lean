/-
  ████ Code is sound; a function's contract out of its code.
-/
import Derived.Test.YtegehnojbfedlaaDoorPwF
import Derived.Scope
namespace Go.Pw
open Go Go.RowKit
set_option linter.unusedVariables false
set_option linter.unusedSimpArgs false
section
variable {P : Program} {own : Nat → Prop} {S0 : Base} {w0 : World} {N : Nat}
theorem pwp_sound (hm : P.follows .mixedOrders = true) {L : Lim} (hL : (∀ i, S0.U i → i < L.l.1) ∧ ∀ i, S0.V i → i < L.l.2) : ∀ (c : Code) (Q : Exit → PS → Prop) (st : PS) (a : Act) (w : World), fitsC N c = true → pwp P L c st Q → Stt own S0 w0 N st a w → c.wp P (liftN own S0 w0 N Q) a w := by
  intro c
  induction c with
  | skip => exact fun Q st a w _ k h => wp_skip ⟨st, k, h⟩
  | label l => exact fun Q st a w _ k h => wp_label ⟨st, k, h⟩
  | region id ops draw =>
    intro Q st a w hf k h
    simp only [fitsC, Bool.and_eq_true] at hf
    cases draw with
    | true =>
      simp only [pwp] at k
      cases hb : L.bar id with
      | none => rw [hb] at k; exact pdraw_sound hm hf.1 (by simpa using hf.2) k h
      | some n =>
        rw [hb] at k
        simp only at k
        split at k
        · exact bar_sound hm hf.1 (by simpa using hf.2) k.1 k.2 h
        · exact expl_sound hL hm hf.1 k h
    | false => exact wp_region_list (dopsS_sound ops.toList 0 st a w hf.1 k h)
  | seq x y ihx ihy =>
    intro Q st a w hf k h
    simp only [fitsC, Bool.and_eq_true] at hf
    simp only [pwp] at k
    refine wp_seq (wp_mono (ihx _ st a w hf.1 k h) ?_)
    rintro e a' w' ⟨st', hq, hs⟩
    cases e with
    | normal => exact ihy Q st' a' w' hf.2 hq hs
    | _ => exact ⟨st', hq, hs⟩
  | cond c t e iht ihe =>
    intro Q st a w hf k h
    simp only [fitsC, Bool.and_eq_true] at hf
    simp only [pwp] at k
    replace k := bindO_elim k
    obtain ⟨p, hp, k⟩ := k
    split at k
    · rename_i b
      obtain ⟨h1, h2, C, R, E⟩ := h
      have hb := (rep_val (ev_rep E hp)).1
      refine wp_cond hb ?_
      cases b with
      | true => exact iht Q st a w hf.1 (k.1 rfl) ⟨h1, h2, C, R, E⟩
      | false => exact ihe Q st a w hf.2 (k.2 rfl) ⟨h1, h2, C, R, E⟩
    · exact k.elim
  | block id c ih =>
    intro Q st a w hf k h
    simp only [fitsC] at hf
    simp only [pwp] at k
    refine wp_block (wp_mono (ih _ st a w hf k h) ?_)
    rintro e a' w' ⟨st', hq, hs⟩
    cases e with
    | exit i =>
      simp only [Exit.inBlock]
      simp only at hq
      split
      · rw [if_pos (by assumption)] at hq; exact ⟨st', hq, hs⟩
      · rw [if_neg (by assumption)] at hq; exact ⟨st', hq, hs⟩
    | _ => exact ⟨st', hq, hs⟩
  | loop c ih =>
    intro Q st a w hf k h
    simp only [fitsC] at hf
    simp only [pwp] at k
    obtain ⟨ι, I, m, i0, hw, k⟩ := k
    have key : ∀ (n : Nat) (i : ι), m i < n → ∀ a w, Stt own S0 w0 N (I i) a w → Code.rounds P c (liftN own S0 w0 N Q) n a w := by
      intro n
      induction n with
      | zero => intro i hi; exact absurd hi (Nat.not_lt_zero _)
      | succ n ihn =>
        intro i hi a w hs
        rw [rounds_succ]
        refine wp_mono (ih _ (I i) a w hf (k i) hs) ?_
        rintro e a' w' ⟨st', hq, hs'⟩
        cases e with
        | normal =>
          obtain ⟨j, hj, hw'⟩ := hq
          exact ihn j (by omega) a' w' (hs'.weak hL hw')
        | _ => exact ⟨st', hq, hs'⟩
    exact wp_loop_rounds _ (key (m i0 + 1) i0 (by omega) a w (h.weak hL hw))
  | scope c ih =>
    intro Q st a w hf k h
    simp only [fitsC] at hf
    simp only [pwp] at k
    refine wp_scope_straight (wp_mono (ih _ st a w hf k h) ?_)
    rintro e a' w' ⟨st', hq, hs⟩
    cases e with
    | goto l => exact hq.elim
    | _ => exact ⟨st', hq, hs⟩
  | exit id => exact fun Q st a w _ k h => wp_exit ⟨st, k, h⟩
  | ret => exact fun Q st a w _ k h => wp_ret ⟨st, k, h⟩
  | _ => intro Q st a w _ k h; exact k.elim

/-! ### A function -/
def enterEnv : Nat → List PV → List (Nat × PV)
  | _, [] => []
  | i, p :: r => (i, p) :: enterEnv (i + 1) r
theorem enterEnv_lkp : ∀ (args : List PV) (k t : Nat) (p : PV), lkp (enterEnv k args) t = some p → k ≤ t ∧ args[t - k]? = some p
  | [], k, t, p, h => by simp [enterEnv, lkp] at h
  | q :: r, k, t, p, h => by
    simp only [enterEnv, lkp_cons] at h
    split at h
    · rename_i e
      subst e
      exact ⟨Nat.le_refl _, by simpa using h⟩
    · obtain ⟨h1, h2⟩ := enterEnv_lkp r (k + 1) t p h
      refine ⟨by omega, ?_⟩
      rw [show t - k = (t - (k + 1)) + 1 by omega]
      simpa using h2
def enterPS (args : List PV) : PS := { env := enterEnv 0 args, heap := [], toks := [], nx := 0, nt := 0 }
def resOf (P : Program) (st : PS) : ResultVar → Option PV
  | .tmp t => lkp st.env t
  | .cell a t => match lkp st.env a with
    | some (.ptr id off) => match lkp st.heap id with
      | some (.box _ cs) => readCells P t cs off
      | _ => none
    | _ => none
def resAll (P : Program) (st : PS) : List ResultVar → Option (List PV)
  | [] => some []
  | x :: r => match resOf P st x, resAll P st r with
    | some p, some l => some (p :: l)
    | _, _ => none
def packR : List PV → PV
  | [p] => p
  | l => .tup l
/-- What comes out at a function's end. -/
def outK (P : Program) (fn : Func) (r : PV) : Exit → PS → Prop
  | .normal, st => bindO (resAll P st fn.results.toList) fun l => bindO (fzAs l) fun l' => packR l' = r
  | .ret, st => bindO (resAll P st fn.results.toList) fun l => bindO (fzAs l) fun l' => packR l' = r
  | _, _ => False

def resSem (tmps : Array Value) : ResultVar → Sem Value
  | .tmp t => Pure.pure (tmps.getD t undef)
  | .cell b t => do loadVar t (← asAddr (tmps.getD b undef))
theorem results_eq (fn : Func) (tmps : Array Value) : results fn tmps = (do let vs ← fn.results.mapM (resSem tmps); Pure.pure (if h : vs.size = 1 then vs[0] else .tuple vs)) := by
  unfold results
  congr 1
theorem res_sound {C : Cx} {U V : Nat → Prop} {st : PS} {a : Act} {w : World} (R : Rel own S0 w0 C U V st w) (E : Env C U V st a) {x : ResultVar} {p : PV} (h : resOf P st x = some p) :
    ∃ v, (resSem a.tmps x).run P w = .ok v w ∧ RepV C st.toks U V v p := by
  cases x with
  | tmp t =>
    obtain ⟨v, hv, r⟩ := E t p h
    exact ⟨v, by simp [resSem, hv], r⟩
  | cell b t =>
    simp only [resOf] at h
    split at h
    · rename_i id off hb
      split at h
      · rename_i T cs ho
        obtain ⟨v, hv, r⟩ := E b _ hb
        obtain ⟨rfl, hid⟩ := rep_ptr r
        obtain ⟨vs, hbk, hsz, hrep⟩ := R.box id T cs ho
        obtain ⟨u, hu, hr⟩ := run_loadVar_cells (P := P) (b := C.ρ id) (w := w) (vs := []) (C := C) (T := st.toks) (U := U) (V := V) h (fun i q hq => by
          have hi : i < vs.size := by rw [hsz]; exact (List.getElem?_eq_some_iff.1 hq).1
          have h1 : vs[i]? = some vs[i] := Array.getElem?_eq_getElem hi
          exact ⟨vs[i], by rw [Nat.add_sub_cancel, cell_of_row w (C.ρ id) i vs T (0, 0) hbk]; exact h1, (hrep i _ q h1 hq).1, (hrep i _ q h1 hq).2⟩)
        exact ⟨u, by simp [resSem, hv, asAddr, hu], hr⟩
      · cases h
    · cases h
theorem resAll_sound {C : Cx} {U V : Nat → Prop} {st : PS} {a : Act} {w : World} (R : Rel own S0 w0 C U V st w) (E : Env C U V st a) : ∀ (xs : List ResultVar) (l : List PV), resAll P st xs = some l →
    ∃ vs : List Value, (xs.mapM (resSem a.tmps)).run P w = .ok vs w ∧ vs.length = l.length ∧ ∀ (i : Nat) (v : Value) (p : PV), vs[i]? = some v → l[i]? = some p → RepV C st.toks U V v p
  | [], l, h => by
    simp only [resAll, Option.some.injEq] at h
    subst h
    exact ⟨[], by simp, rfl, fun i v p hv => by simp at hv⟩
  | x :: r, l, h => by
    simp only [resAll] at h
    split at h
    · rename_i p l' hp hl
      obtain rfl := Option.some.inj h
      obtain ⟨v, h1, h2⟩ := res_sound (P := P) R E hp
      obtain ⟨vs, h3, h4, h5⟩ := resAll_sound R E r l' hl
      refine ⟨v :: vs, ?_, by simp [h4], fun i u q hu hq => ?_⟩
      · rw [List.mapM_cons, Sem.run_bind, h1]
        simp only [Result.andThen_ok]
        rw [Sem.run_bind, h3]
        simp only [Result.andThen_ok, Sem.run_pure]
      · cases i with
        | zero => simp at hu hq; subst hu hq; exact h2
        | succ i => exact h5 i u q (by simpa using hu) (by simpa using hq)
    · cases h

theorem results_sound {C : Cx} {U V : Nat → Prop} {st : PS} {a : Act} {w : World} (R : Rel own S0 w0 C U V st w) (E : Env C U V st a) {fn : Func} {l l' : List PV} (h : resAll P st fn.results.toList = some l) (hf : fzAs l = some l') :
    ∃ v, (results fn a.tmps).run P w = .ok v w ∧ RepA C.S v (packR l') := by
  obtain ⟨vs, h1, h2, h3⟩ := resAll_sound (P := P) R E _ _ h
  obtain ⟨h4, h5⟩ := fzAs_get hf
  have hrun : (results fn a.tmps).run P w = .ok (if h : vs.toArray.size = 1 then vs.toArray[0] else .tuple vs.toArray) w := by
    rw [results_eq, Array.mapM_eq_mapM_toList, Sem.run_bind, Sem.run_map, h1]
    rfl
  refine ⟨_, hrun, ?_⟩
  have hrep : ∀ (i : Nat) (v : Value) (q : PV), vs[i]? = some v → l'[i]? = some q → RepA C.S v q := by
    intro i v q hv hq
    have hi : i < l.length := by rw [h4]; exact (List.getElem?_eq_some_iff.1 hq).1
    have hp := List.getElem?_eq_getElem hi
    exact fzA_rep (h5 i _ q hp hq) (h3 i v _ hv hp)
  by_cases hs : vs.toArray.size = 1
  · rw [dif_pos hs]
    match l', vs, hs, h2, h4, hrep with
    | [q], [v], _, _, _, hrep => exact hrep 0 v q rfl rfl
    | [], [v], _, h2, h4, _ => simp only [List.length_cons, List.length_nil] at h2 h4; omega
    | _ :: _ :: _, [v], _, h2, h4, _ => simp only [List.length_cons, List.length_nil] at h2 h4; omega
  · rw [dif_neg hs]
    have : packR l' = .tup l' := by
      match l', h4 with
      | [q], h4 => exfalso; apply hs; simp at h4 ⊢; omega
      | [], _ => rfl
      | _ :: _ :: _, _ => rfl
    rw [this]
    exact .tup (by simp; omega) (fun i v p hv hp => hrep i v p (by simpa using hv) hp)

/-- ████ A function does what its code says. -/
theorem Ok.of_pwpB (hm : P.follows .mixedOrders = true) {f : FuncId} {fn : Func} {c : Code} {args : List PV} {r : PV} (hf : P.funcs[f]? = some fn) (hb : fn.body = some c) (hent : enters P f = true)
    (hfit : fitsC (args.length + (fn.ntmps - args.length)) c = true) {bar : Nat → Option Nat} (h : pwp P ⟨(0, 0), bar⟩ c (enterPS args) (outK P fn r)) : Ok P f args r := by
  refine ⟨hent, fun S w vals hkn hS hsz hrep => ?_⟩
  refine calls_of_wp hf hb ?_
  have hst : Stt Never ⟨S, C0 S, [], Never, Never⟩ w (args.length + (fn.ntmps - args.length)) (enterPS args) { tmps := vals ++ Array.replicate (fn.ntmps - vals.size) undef, defers := [] } w := by
    refine ⟨rfl, by simp [hsz], C0 S, ⟨Frame.refl _ _, hS, ?_, ?_, ?_, ?_, ?_, ?_, ?_, fun b o v h => .inl h, SLe.refl _, ⟨SLe.refl _, fun _ h => h.elim, fun _ _ h => h.elim, fun _ h => h.elim, fun _ h => h.elim⟩, ⟨hkn.2, hkn.1, fun _ _ h => h⟩⟩, ?_⟩
    · intro id T cs h; cases h
    · intro id s pos h; cases h
    · intro id o h; cases h
    · intro i j oi oj h; cases h
    · intro k t h; cases h
    · intro i oi k t h; cases h
    · intro i j ti tj h; cases h
    · intro t p h
      obtain ⟨_, h2⟩ := enterEnv_lkp args 0 t p h
      rw [Nat.sub_zero] at h2
      have ht : t < vals.size := by rw [hsz]; exact (List.getElem?_eq_some_iff.1 h2).1
      have hv : vals[t]? = some vals[t] := Array.getElem?_eq_getElem ht
      refine ⟨vals[t], ?_, RepV.ext (C := C0 S) (C' := C0 S) (T := []) (T' := []) ⟨SLe.refl _, fun _ h => h.elim, fun _ _ h => h.elim, fun _ h => h.elim, fun _ h => h.elim⟩ (hrep t _ p hv h2)⟩
      show (vals ++ Array.replicate _ undef)[t]? = _
      rw [Array.getElem?_append_left ht]
      exact hv
  refine wp_mono (pwp_sound (S0 := ⟨S, C0 S, [], Never, Never⟩) hm ⟨fun _ h => False.elim h, fun _ h => False.elim h⟩ c _ _ _ w hfit h hst) ?_
  have fin : ∀ (st : PS) (a' : Act) (w' : World), Stt Never ⟨S, C0 S, [], Never, Never⟩ w (args.length + (fn.ntmps - args.length)) st a' w' → (bindO (resAll P st fn.results.toList) fun l => bindO (fzAs l) fun l' => packR l' = r) →
      a'.defers = [] ∧ ∃ v, (results fn a'.tmps).run P w' = .ok v w' ∧ ∃ v' S', Ending.returned v = Ending.returned v' ∧ SLe S S' ∧ Stable S' w' ∧ (∀ b o u, S' b o = some u → S b o = some u ∨ w.heap.size ≤ b) ∧ RepA S' v' r ∧ Below w.heap.size w w' := by
    intro st a' w' ⟨h1, h2, C, R, E⟩ hk
    replace hk := bindO_elim hk
    obtain ⟨l, hl, hk⟩ := hk
    replace hk := bindO_elim hk
    obtain ⟨l', hl', rfl⟩ := hk
    obtain ⟨v, hv, hr⟩ := results_sound (P := P) R E hl hl'
    refine ⟨h1, v, hv, v, C.S, rfl, R.sold, R.stable, fun b o u h => (R.snew b o u h).imp id (fun h => h.elim (fun h => h.elim) id), hr, ⟨R.frame.os, R.frame.tape, R.frame.output, R.frame.size, fun k hk => R.frame.block k hk (fun h => h)⟩⟩
  rintro e a' w' ⟨st, hq, hs⟩
  cases e with
  | normal => exact fin st a' w' hs hq
  | ret => exact fin st a' w' hs hq
  | _ => exact hq.elim
theorem Ok.of_pwp (hm : P.follows .mixedOrders = true) {f : FuncId} {fn : Func} {c : Code} {args : List PV} {r : PV} (hf : P.funcs[f]? = some fn) (hb : fn.body = some c) (hent : enters P f = true)
    (hfit : fitsC (args.length + (fn.ntmps - args.length)) c = true) (h : pwp P ⟨(0, 0), noBar⟩ c (enterPS args) (outK P fn r)) : Ok P f args r := Ok.of_pwpB hm hf hb hent hfit h
/-- What comes out at the end of a function that works in its caller's memory. -/
def outI (P : Program) (fn : Func) (L : Nat × Nat) (Q : PV → PS → Prop) : Exit → PS → Prop
  | .normal, st => bindO (resAll P st fn.results.toList) fun l => ∃ st', Q (packR l) st' ∧ Weak L { st with env := [(0, packR l)] } { st' with env := [(0, packR l)] }
  | .ret, st => bindO (resAll P st fn.results.toList) fun l => ∃ st', Q (packR l) st' ∧ Weak L { st with env := [(0, packR l)] } { st' with env := [(0, packR l)] }
  | _, _ => False
theorem packR_rep {C : Cx} {T : List (Nat × Tok)} {U V : Nat → Prop} {vs : List Value} {l : List PV} (hn : vs.length = l.length) (hrep : ∀ (i : Nat) (v : Value) (p : PV), vs[i]? = some v → l[i]? = some p → RepV C T U V v p) :
    RepV C T U V (if h : vs.toArray.size = 1 then vs.toArray[0] else .tuple vs.toArray) (packR l) := by
  by_cases hs : vs.toArray.size = 1
  · rw [dif_pos hs]
    match l, vs, hs, hn, hrep with
    | [q], [v], _, _, hrep => exact hrep 0 v q rfl rfl
    | [], [v], _, h2, _ => simp at h2
    | _ :: _ :: _, [v], _, h2, _ => simp at h2
  · rw [dif_neg hs]
    have : packR l = .tup l := by
      match l, hn with
      | [q], h4 => exfalso; apply hs; simp at h4 ⊢; omega
      | [], _ => rfl
      | _ :: _ :: _, _ => rfl
    rw [this]
    exact .tup (by simp; omega) (fun i v p hv hp => hrep i v p (by simpa using hv) hp)
/-- ████ A function does what its code says, in its caller's memory. -/
theorem OkI.of_pwpB (hm : P.follows .mixedOrders = true) {f : FuncId} {fn : Func} {c : Code} {args : List PV} {st : PS} {Q : PV → PS → Prop} (hf : P.funcs[f]? = some fn) (hb : fn.body = some c) (hent : enters P f = true)
    (hfit : fitsC (args.length + (fn.ntmps - args.length)) c = true) {bar : Nat → Option Nat} (h : pwp P ⟨(st.nx, st.nt), bar⟩ c { st with env := enterEnv 0 args } (outI P fn (st.nx, st.nt) Q)) : OkI P f args st Q := by
  refine ⟨hent, fun own S0 w0 w C vals R hsz hrep => ?_⟩
  refine calls_of_wp hf hb ?_
  have hst : Stt own ⟨S0.S, C, st.toks, (· < st.nx), (· < st.nt)⟩ w0 (args.length + (fn.ntmps - args.length)) { st with env := enterEnv 0 args } { tmps := vals ++ Array.replicate (fn.ntmps - vals.size) undef, defers := [] } w := by
    refine ⟨rfl, by simp [hsz], C, ⟨R.frame, R.stable, R.box, R.iter, R.hown, R.hinj, R.tok, R.tbox, R.tinj, R.snew, R.sold, Ext.refl _ _ _ _, R.glob⟩, ?_⟩
    intro t p h
    obtain ⟨_, h2⟩ := enterEnv_lkp args 0 t p h
    rw [Nat.sub_zero] at h2
    have ht : t < vals.size := by rw [hsz]; exact (List.getElem?_eq_some_iff.1 h2).1
    have hv : vals[t]? = some vals[t] := Array.getElem?_eq_getElem ht
    refine ⟨vals[t], ?_, hrep t _ p hv h2⟩
    show (vals ++ Array.replicate _ undef)[t]? = _
    rw [Array.getElem?_append_left ht]
    exact hv
  refine wp_mono (pwp_sound hm ⟨fun _ h => h, fun _ h => h⟩ c _ _ _ w hfit h hst) ?_
  have fin : ∀ (s : PS) (a' : Act) (w' : World), Stt own ⟨S0.S, C, st.toks, (· < st.nx), (· < st.nt)⟩ w0 (args.length + (fn.ntmps - args.length)) s a' w' →
      (bindO (resAll P s fn.results.toList) fun l => ∃ st', Q (packR l) st' ∧ Weak (st.nx, st.nt) { s with env := [(0, packR l)] } { st' with env := [(0, packR l)] }) →
      a'.defers = [] ∧ ∃ v, (results fn a'.tmps).run P w' = .ok v w' ∧ ∃ r st' v' C', Q r st' ∧ Ending.returned v = Ending.returned v' ∧ Rel own S0 w0 C' (· < st'.nx) (· < st'.nt) st' w' ∧
        Ext C C' st.toks st'.toks (· < st.nx) (· < st.nt) (· < st'.nx) (· < st'.nt) ∧ RepV C' st'.toks (· < st'.nx) (· < st'.nt) v' r := by
    intro s a' w' ⟨h1, h2, C1, R1, E1⟩ hk
    replace hk := bindO_elim hk
    obtain ⟨l, hl, st', hQ, hw⟩ := hk
    obtain ⟨vs, g1, g2, g3⟩ := resAll_sound (P := P) R1 E1 _ _ hl
    have hrun : (results fn a'.tmps).run P w' = .ok (if h : vs.toArray.size = 1 then vs.toArray[0] else .tuple vs.toArray) w' := by
      rw [results_eq, Array.mapM_eq_mapM_toList, Sem.run_bind, Sem.run_map, g1]
      rfl
    have hrep := packR_rep g2 g3
    generalize (if h : vs.toArray.size = 1 then vs.toArray[0] else .tuple vs.toArray) = v at hrun hrep
    -- the result as a slot
    have hs1 : Stt own ⟨S0.S, C, st.toks, (· < st.nx), (· < st.nt)⟩ w0 1 { s with env := [(0, packR l)] } { tmps := #[v], defers := [] } w' := by
      refine ⟨rfl, rfl, C1, R1.env_ _, ?_⟩
      intro t p h
      simp only [lkp] at h
      split at h
      · rename_i e
        subst e
        obtain rfl := Option.some.inj h
        exact ⟨v, rfl, hrep⟩
      · cases h
    obtain ⟨_, _, C2, R2, E2⟩ := hs1.weak ⟨fun _ h => h, fun _ h => h⟩ hw
    obtain ⟨u, hu, hr⟩ := E2 0 (packR l) (by simp [lkp])
    have hu' : u = v := by simpa using hu.symm
    subst hu'
    refine ⟨h1, u, hrun, packR l, st', u, C2, hQ, rfl, ?_, R2.base, hr⟩
    have R3 := R2.env_ st'.env
    exact ⟨R3.frame, R3.stable, R3.box, R3.iter, R3.hown, R3.hinj, R3.tok, R3.tbox, R3.tinj, R3.snew, R3.sold, R.base.trans R2.base, R.glob⟩
  rintro e a' w' ⟨s, hq, hs⟩
  cases e with
  | normal => exact fin s a' w' hs hq
  | ret => exact fin s a' w' hs hq
  | _ => exact hq.elim
theorem OkI.of_pwp (hm : P.follows .mixedOrders = true) {f : FuncId} {fn : Func} {c : Code} {args : List PV} {st : PS} {Q : PV → PS → Prop} (hf : P.funcs[f]? = some fn) (hb : fn.body = some c) (hent : enters P f = true)
    (hfit : fitsC (args.length + (fn.ntmps - args.length)) c = true) (h : pwp P ⟨(st.nx, st.nt), noBar⟩ c { st with env := enterEnv 0 args } (outI P fn (st.nx, st.nt) Q)) : OkI P f args st Q := OkI.of_pwpB hm hf hb hent hfit h
end
end Go.Pw
