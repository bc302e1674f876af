/-
  Contracts and plain laws on the way to the statement; each says its own conditions.
-/
import Derived.Test.YtcgmpcbkndpmbaaGreatDoorGW2
import Derived.Scope
import Derived.Laws.BitsLemmas
section
namespace Go.Pw
open Go Go.RowKit
set_option linter.unusedVariables false
set_option linter.unusedSimpArgs false
section
variable {P : Program} {own : Nat -> Prop} {S0 : Base} {w0 : World} {N : Nat}
theorem pwp_sound (hm : P.follows .mixedOrders = true) {L : Lim} (hL : (∀ i, S0.U i -> i < L.l.1) /\ ∀ i, S0.V i -> i < L.l.2) : ∀ (c : Code) (Q : Exit -> PS -> Prop) (st : PS) (a : Act) (w : World), fitsC L.bar N c = true -> pwp P L c st Q -> Stt own S0 w0 N st a w -> c.wp P (liftN own S0 w0 N Q) a w := by
 intro c
 induction c with
 | skip => exact fun Q st a w _ k h => wp_skip ⟨st, k, h⟩
 | label l => exact fun Q st a w _ k h => wp_label ⟨st, k, h⟩
 | region id ops draw =>
  intro Q st a w hf k h
  simp only [fitsC, Bool.and_eq_true] at hf
  cases draw with
  | true =>
   simp only [pwp] at k
   cases hb : L.bar id with
   | none =>
    rw [hb] at k hf
    exact pdraw_sound hm hf.1 (by simpa using hf.2) k h
   | some n =>
    rw [hb] at k hf
    simp only at k
    split at k
    ·rename_i hlt
     exact bar_sound hm hf.1 (by
      have := hf.2
      simp only [Bool.not_true, Bool.false_or, Bool.or_eq_true, decide_eq_true_eq] at this
      rcases this with h | h
      ·exact h
      ·omega) k.1 k.2 h
    ·exact expl_sound hL hm hf.1 k h
  | false =>
   simp only [pwp] at k
   cases hb : L.bar id with
   | none => rw [hb] at k; exact wp_region_list (dopsS_sound ops.toList 0 st a w hf.1 k h)
   | some n =>
    rw [hb] at k
    simp only at k
    split at k
    ·obtain ⟨st', hw, k⟩ := k
     exact wp_region_list (dopsS_sound ops.toList 0 st' a w hf.1 k (h.weak hL hw))
    ·exact wp_region_list (dopsM_sound n st a w hf.1 k h)
 | seq x y ihx ihy =>
  intro Q st a w hf k h
  simp only [fitsC, Bool.and_eq_true] at hf
  simp only [pwp] at k
  refine wp_seq (wp_mono (ihx _ st a w hf.1 k h) ?_)
  rintro e a' w' ⟨st', hq, hs⟩
  cases e with
  | normal => exact ihy Q st' a' w' hf.2 hq hs
  | _ => exact ⟨st', hq, hs⟩
 | cond c t e iht ihe =>
  intro Q st a w hf k h
  simp only [fitsC, Bool.and_eq_true] at hf
  simp only [pwp] at k
  replace k := bindO_elim k
  obtain ⟨p, hp, k⟩ := k
  split at k
  ·rename_i b
   obtain ⟨h1, h2, C, R, E⟩ := h
   have hb := (rep_val (ev_rep E hp)).1
   refine wp_cond hb ?_
   cases b with
   | true => exact iht Q st a w hf.1 (k.1 rfl) ⟨h1, h2, C, R, E⟩
   | false => exact ihe Q st a w hf.2 (k.2 rfl) ⟨h1, h2, C, R, E⟩
  ·exact k.elim
 | block id c ih =>
  intro Q st a w hf k h
  simp only [fitsC] at hf
  simp only [pwp] at k
  refine wp_block (wp_mono (ih _ st a w hf k h) ?_)
  rintro e a' w' ⟨st', hq, hs⟩
  cases e with
  | exit i =>
   simp only [Exit.inBlock]
   simp only at hq
   split
   ·rw [if_pos (by assumption)] at hq; exact ⟨st', hq, hs⟩
   ·rw [if_neg (by assumption)] at hq; exact ⟨st', hq, hs⟩
  | _ => exact ⟨st', hq, hs⟩
 | loop c ih =>
  intro Q st a w hf k h
  simp only [fitsC] at hf
  simp only [pwp] at k
  obtain ⟨ι, I, m, i0, hw, k⟩ := k
  have key : ∀ (n : Nat) (i : ι), m i < n -> ∀ a w, Stt own S0 w0 N (I i) a w -> Code.rounds P c (liftN own S0 w0 N Q) n a w := by
   intro n
   induction n with
   | zero => intro i hi; exact absurd hi (Nat.not_lt_zero _)
   | succ n ihn =>
    intro i hi a w hs
    rw [rounds_succ]
    refine wp_mono (ih _ (I i) a w hf (k i) hs) ?_
    rintro e a' w' ⟨st', hq, hs'⟩
    cases e with
    | normal =>
     obtain ⟨j, hj, hw'⟩ := hq
     exact ihn j (by omega) a' w' (hs'.weak hL hw')
    | _ => exact ⟨st', hq, hs'⟩
  exact wp_loop_rounds _ (key (m i0 + 1) i0 (by omega) a w (h.weak hL hw))
 | scope c ih =>
  intro Q st a w hf k h
  simp only [fitsC] at hf
  simp only [pwp] at k
  refine wp_scope_straight (wp_mono (ih _ st a w hf k h) ?_)
  rintro e a' w' ⟨st', hq, hs⟩
  cases e with
  | goto l => exact hq.elim
  | _ => exact ⟨st', hq, hs⟩
 | exit id => exact fun Q st a w _ k h => wp_exit ⟨st, k, h⟩
 | ret => exact fun Q st a w _ k h => wp_ret ⟨st, k, h⟩
 | _ => intro Q st a w _ k h; exact k.elim
def enterEnv : Nat -> List PV -> List (Nat × PV)
 | _, [] => []
 | i, p :: r => (i, p) :: enterEnv (i + 1) r
theorem enterEnv_lkp : ∀ (args : List PV) (k t : Nat) (p : PV), lkp (enterEnv k args) t = some p -> k <= t /\ args[t - k]? = some p
 | [], k, t, p, h => by simp [enterEnv, lkp] at h
 | q :: r, k, t, p, h => by
  simp only [enterEnv, lkp_cons] at h
  split at h
  ·rename_i e
   subst e
   exact ⟨Nat.le_refl _, by simpa using h⟩
  ·obtain ⟨h1, h2⟩ := enterEnv_lkp r (k + 1) t p h
   refine ⟨by omega, ?_⟩
   rw [show t - k = (t - (k + 1)) + 1 by omega]
   simpa using h2
def enterPS (args : List PV) : PS := { env := enterEnv 0 args, heap := [], toks := [], nx := 0, nt := 0 }
def resOf (P : Program) (st : PS) : ResultVar -> Option PV
 | .tmp t => lkp st.env t
 | .cell a t => match lkp st.env a with
  | some (.ptr id off) => match lkp st.heap id with
   | some (.box _ cs) => readCells P t cs off
   | _ => none
  | _ => none
def resAll (P : Program) (st : PS) : List ResultVar -> Option (List PV)
 | [] => some []
 | x :: r => match resOf P st x, resAll P st r with
  | some p, some l => some (p :: l)
  | _, _ => none
def packR : List PV -> PV
 | [p] => p
 | l => .tup l
def outK (P : Program) (fn : Func) (r : PV) : Exit -> PS -> Prop
 | .normal, st => bindO (resAll P st fn.results.toList) fun l => bindO (fzAs l) fun l' => packR l' = r
 | .ret, st => bindO (resAll P st fn.results.toList) fun l => bindO (fzAs l) fun l' => packR l' = r
 | _, _ => False
def resSem (tmps : Array Value) : ResultVar -> Sem Value
 | .tmp t => Pure.pure (tmps.getD t undef)
 | .cell b t => do loadVar t (<- asAddr (tmps.getD b undef))
theorem results_eq (fn : Func) (tmps : Array Value) : results fn tmps = (do let vs <- fn.results.mapM (resSem tmps); Pure.pure (if h : vs.size = 1 then vs[0] else .tuple vs)) := by
 unfold results
 congr 1
theorem res_sound {C : Cx} {U V : Nat -> Prop} {st : PS} {a : Act} {w : World} (R : Rel own S0 w0 C U V st w) (E : Env C U V st a) {x : ResultVar} {p : PV} (h : resOf P st x = some p) :
  ∃ v, (resSem a.tmps x).run P w = .ok v w /\ RepV C st.toks U V v p := by
 cases x with
 | tmp t =>
  obtain ⟨v, hv, r⟩ := E t p h
  exact ⟨v, by simp [resSem, hv], r⟩
 | cell b t =>
  simp only [resOf] at h
  split at h
  ·rename_i id off hb
   split at h
   ·rename_i T cs ho
    obtain ⟨v, hv, r⟩ := E b _ hb
    obtain ⟨rfl, hid⟩ := rep_ptr r
    obtain ⟨vs, hbk, hsz, hrep⟩ := R.box id T cs ho
    obtain ⟨u, hu, hr⟩ := run_loadVar_cells (P := P) (b := C.ρ id) (w := w) (vs := []) (C := C) (T := st.toks) (U := U) (V := V) h (fun i q hq => by
     have hi : i < vs.size := by rw [hsz]; exact (List.getElem?_eq_some_iff.1 hq).1
     have h1 : vs[i]? = some vs[i] := Array.getElem?_eq_getElem hi
     exact ⟨vs[i], by rw [Nat.add_sub_cancel, cell_of_row w (C.ρ id) i vs T (0, 0) hbk]; exact h1, (hrep i _ q h1 hq).1, (hrep i _ q h1 hq).2⟩)
    exact ⟨u, by simp [resSem, hv, asAddr, hu], hr⟩
   ·cases h
  ·cases h
theorem resAll_sound {C : Cx} {U V : Nat -> Prop} {st : PS} {a : Act} {w : World} (R : Rel own S0 w0 C U V st w) (E : Env C U V st a) : ∀ (xs : List ResultVar) (l : List PV), resAll P st xs = some l ->
  ∃ vs : List Value, (xs.mapM (resSem a.tmps)).run P w = .ok vs w /\ vs.length = l.length /\ ∀ (i : Nat) (v : Value) (p : PV), vs[i]? = some v -> l[i]? = some p -> RepV C st.toks U V v p
 | [], l, h => by
  simp only [resAll, Option.some.injEq] at h
  subst h
  exact ⟨[], by simp, rfl, fun i v p hv => by simp at hv⟩
 | x :: r, l, h => by
  simp only [resAll] at h
  split at h
  ·rename_i p l' hp hl
   obtain rfl := Option.some.inj h
   obtain ⟨v, h1, h2⟩ := res_sound (P := P) R E hp
   obtain ⟨vs, h3, h4, h5⟩ := resAll_sound R E r l' hl
   refine ⟨v :: vs, ?_, by simp [h4], fun i u q hu hq => ?_⟩
   ·rw [List.mapM_cons, Sem.run_bind, h1]
    simp only [Result.andThen_ok]
    rw [Sem.run_bind, h3]
    simp only [Result.andThen_ok, Sem.run_pure]
   ·cases i with
    | zero => simp at hu hq; subst hu hq; exact h2
    | succ i => exact h5 i u q (by simpa using hu) (by simpa using hq)
  ·cases h
theorem results_sound {C : Cx} {U V : Nat -> Prop} {st : PS} {a : Act} {w : World} (R : Rel own S0 w0 C U V st w) (E : Env C U V st a) {fn : Func} {l l' : List PV} (h : resAll P st fn.results.toList = some l) (hf : fzAs l = some l') :
  ∃ v, (results fn a.tmps).run P w = .ok v w /\ RepA C.S v (packR l') := by
 obtain ⟨vs, h1, h2, h3⟩ := resAll_sound (P := P) R E _ _ h
 obtain ⟨h4, h5⟩ := fzAs_get hf
 have hrun : (results fn a.tmps).run P w = .ok (if h : vs.toArray.size = 1 then vs.toArray[0] else .tuple vs.toArray) w := by
  rw [results_eq, Array.mapM_eq_mapM_toList, Sem.run_bind, Sem.run_map, h1]
  rfl
 refine ⟨_, hrun, ?_⟩
 have hrep : ∀ (i : Nat) (v : Value) (q : PV), vs[i]? = some v -> l'[i]? = some q -> RepA C.S v q := by
  intro i v q hv hq
  have hi : i < l.length := by rw [h4]; exact (List.getElem?_eq_some_iff.1 hq).1
  have hp := List.getElem?_eq_getElem hi
  exact fzA_rep (h5 i _ q hp hq) (h3 i v _ hv hp)
 by_cases hs : vs.toArray.size = 1
 ·rw [dif_pos hs]
  match l', vs, hs, h2, h4, hrep with
  | [q], [v], _, _, _, hrep => exact hrep 0 v q rfl rfl
  | [], [v], _, h2, h4, _ => simp only [List.length_cons, List.length_nil] at h2 h4; omega
  | _ :: _ :: _, [v], _, h2, h4, _ => simp only [List.length_cons, List.length_nil] at h2 h4; omega
 ·rw [dif_neg hs]
  have : packR l' = .tup l' := by
   match l', h4 with
   | [q], h4 => exfalso; apply hs; simp at h4 ⊢; omega
   | [], _ => rfl
   | _ :: _ :: _, _ => rfl
  rw [this]
  exact .tup (by simp; omega) (fun i v p hv hp => hrep i v p (by simpa using hv) hp)
theorem Ok.of_pwpB (hm : P.follows .mixedOrders = true) {f : FuncId} {fn : Func} {c : Code} {args : List PV} {r : PV} (hf : P.funcs[f]? = some fn) (hb : fn.body = some c) (hent : enters P f = true)
  {bar : Nat -> Option Nat} (hfit : fitsC bar (args.length + (fn.ntmps - args.length)) c = true) (h : pwp P ⟨(0, 0), bar⟩ c (enterPS args) (outK P fn r)) : Ok P f args r := by
 refine ⟨hent, fun S w vals hkn hS hsz hrep => ?_⟩
 refine calls_of_wp hf hb ?_
 have hst : Stt Never ⟨S, C0 S, [], Never, Never⟩ w (args.length + (fn.ntmps - args.length)) (enterPS args) { tmps := vals ++ Array.replicate (fn.ntmps - vals.size) undef, defers := [] } w := by
  refine ⟨rfl, by simp [hsz], C0 S, ⟨Frame.refl _ _, hS, ?_, ?_, ?_, ?_, ?_, ?_, ?_, fun b o v h => .inl h, SLe.refl _, ⟨SLe.refl _, fun _ h => h.elim, fun _ _ h => h.elim, fun _ h => h.elim, fun _ h => h.elim⟩, ⟨hkn.2, hkn.1, fun _ _ h => h⟩⟩, ?_⟩
  ·intro id T cs h; cases h
  ·intro id s pos h; cases h
  ·intro id o h; cases h
  ·intro i j oi oj h; cases h
  ·intro k t h; cases h
  ·intro i oi k t h; cases h
  ·intro i j ti tj h; cases h
  ·intro t p h
   obtain ⟨_, h2⟩ := enterEnv_lkp args 0 t p h
   rw [Nat.sub_zero] at h2
   have ht : t < vals.size := by rw [hsz]; exact (List.getElem?_eq_some_iff.1 h2).1
   have hv : vals[t]? = some vals[t] := Array.getElem?_eq_getElem ht
   refine ⟨vals[t], ?_, RepV.ext (C := C0 S) (C' := C0 S) (T := []) (T' := []) ⟨SLe.refl _, fun _ h => h.elim, fun _ _ h => h.elim, fun _ h => h.elim, fun _ h => h.elim⟩ (hrep t _ p hv h2)⟩
   show (vals ++ Array.replicate _ undef)[t]? = _
   rw [Array.getElem?_append_left ht]
   exact hv
 refine wp_mono (pwp_sound (S0 := ⟨S, C0 S, [], Never, Never⟩) hm ⟨fun _ h => False.elim h, fun _ h => False.elim h⟩ c _ _ _ w hfit h hst) ?_
 have fin : ∀ (st : PS) (a' : Act) (w' : World), Stt Never ⟨S, C0 S, [], Never, Never⟩ w (args.length + (fn.ntmps - args.length)) st a' w' -> (bindO (resAll P st fn.results.toList) fun l => bindO (fzAs l) fun l' => packR l' = r) ->
   a'.defers = [] /\ ∃ v, (results fn a'.tmps).run P w' = .ok v w' /\ ∃ v' S', Ending.returned v = Ending.returned v' /\ SLe S S' /\ Stable S' w' /\ (∀ b o u, S' b o = some u -> S b o = some u ∨ w.heap.size <= b) /\ RepA S' v' r /\ Below w.heap.size w w' := by
  intro st a' w' ⟨h1, h2, C, R, E⟩ hk
  replace hk := bindO_elim hk
  obtain ⟨l, hl, hk⟩ := hk
  replace hk := bindO_elim hk
  obtain ⟨l', hl', rfl⟩ := hk
  obtain ⟨v, hv, hr⟩ := results_sound (P := P) R E hl hl'
  refine ⟨h1, v, hv, v, C.S, rfl, R.sold, R.stable, fun b o u h => (R.snew b o u h).imp id (fun h => h.elim (fun h => h.elim) id), hr, ⟨R.frame.os, R.frame.tape, R.frame.output, R.frame.size, fun k hk => R.frame.block k hk (fun h => h)⟩⟩
 rintro e a' w' ⟨st, hq, hs⟩
 cases e with
 | normal => exact fin st a' w' hs hq
 | ret => exact fin st a' w' hs hq
 | _ => exact hq.elim
theorem Ok.of_pwp (hm : P.follows .mixedOrders = true) {f : FuncId} {fn : Func} {c : Code} {args : List PV} {r : PV} (hf : P.funcs[f]? = some fn) (hb : fn.body = some c) (hent : enters P f = true)
 (hfit : fitsC noBar (args.length + (fn.ntmps - args.length)) c = true) (h : pwp P ⟨(0, 0), noBar⟩ c (enterPS args) (outK P fn r)) : Ok P f args r := Ok.of_pwpB hm hf hb hent hfit h
def outI (P : Program) (fn : Func) (L : Nat × Nat) (Q : PV -> PS -> Prop) : Exit -> PS -> Prop
 | .normal, st => bindO (resAll P st fn.results.toList) fun l => ∃ st', Q (packR l) st' /\ Weak L { st with env := [(0, packR l)] } { st' with env := [(0, packR l)] }
 | .ret, st => bindO (resAll P st fn.results.toList) fun l => ∃ st', Q (packR l) st' /\ Weak L { st with env := [(0, packR l)] } { st' with env := [(0, packR l)] }
 | _, _ => False
theorem packR_rep {C : Cx} {T : List (Nat × Tok)} {U V : Nat -> Prop} {vs : List Value} {l : List PV} (hn : vs.length = l.length) (hrep : ∀ (i : Nat) (v : Value) (p : PV), vs[i]? = some v -> l[i]? = some p -> RepV C T U V v p) :
  RepV C T U V (if h : vs.toArray.size = 1 then vs.toArray[0] else .tuple vs.toArray) (packR l) := by
 by_cases hs : vs.toArray.size = 1
 ·rw [dif_pos hs]
  match l, vs, hs, hn, hrep with
  | [q], [v], _, _, hrep => exact hrep 0 v q rfl rfl
  | [], [v], _, h2, _ => simp at h2
  | _ :: _ :: _, [v], _, h2, _ => simp at h2
 ·rw [dif_neg hs]
  have : packR l = .tup l := by
   match l, hn with
   | [q], h4 => exfalso; apply hs; simp at h4 ⊢; omega
   | [], _ => rfl
   | _ :: _ :: _, _ => rfl
  rw [this]
  exact .tup (by simp; omega) (fun i v p hv hp => hrep i v p (by simpa using hv) hp)
theorem OkI.of_pwpB (hm : P.follows .mixedOrders = true) {f : FuncId} {fn : Func} {c : Code} {args : List PV} {st : PS} {Q : PV -> PS -> Prop} (hf : P.funcs[f]? = some fn) (hb : fn.body = some c) (hent : enters P f = true)
  {bar : Nat -> Option Nat} (hfit : fitsC bar (args.length + (fn.ntmps - args.length)) c = true) (h : pwp P ⟨(st.nx, st.nt), bar⟩ c { st with env := enterEnv 0 args } (outI P fn (st.nx, st.nt) Q)) : OkI P f args st Q := by
 refine ⟨hent, fun own S0 w0 w C vals R hsz hrep => ?_⟩
 refine calls_of_wp hf hb ?_
 have hst : Stt own ⟨S0.S, C, st.toks, (· < st.nx), (· < st.nt)⟩ w0 (args.length + (fn.ntmps - args.length)) { st with env := enterEnv 0 args } { tmps := vals ++ Array.replicate (fn.ntmps - vals.size) undef, defers := [] } w := by
  refine ⟨rfl, by simp [hsz], C, ⟨R.frame, R.stable, R.box, R.iter, R.hown, R.hinj, R.tok, R.tbox, R.tinj, R.snew, R.sold, Ext.refl _ _ _ _, R.glob⟩, ?_⟩
  intro t p h
  obtain ⟨_, h2⟩ := enterEnv_lkp args 0 t p h
  rw [Nat.sub_zero] at h2
  have ht : t < vals.size := by rw [hsz]; exact (List.getElem?_eq_some_iff.1 h2).1
  have hv : vals[t]? = some vals[t] := Array.getElem?_eq_getElem ht
  refine ⟨vals[t], ?_, hrep t _ p hv h2⟩
  show (vals ++ Array.replicate _ undef)[t]? = _
  rw [Array.getElem?_append_left ht]
  exact hv
 refine wp_mono (pwp_sound hm ⟨fun _ h => h, fun _ h => h⟩ c _ _ _ w hfit h hst) ?_
 have fin : ∀ (s : PS) (a' : Act) (w' : World), Stt own ⟨S0.S, C, st.toks, (· < st.nx), (· < st.nt)⟩ w0 (args.length + (fn.ntmps - args.length)) s a' w' ->
   (bindO (resAll P s fn.results.toList) fun l => ∃ st', Q (packR l) st' /\ Weak (st.nx, st.nt) { s with env := [(0, packR l)] } { st' with env := [(0, packR l)] }) ->
   a'.defers = [] /\ ∃ v, (results fn a'.tmps).run P w' = .ok v w' /\ ∃ r st' v' C', Q r st' /\ Ending.returned v = Ending.returned v' /\ Rel own S0 w0 C' (· < st'.nx) (· < st'.nt) st' w' /\
    Ext C C' st.toks st'.toks (· < st.nx) (· < st.nt) (· < st'.nx) (· < st'.nt) /\ RepV C' st'.toks (· < st'.nx) (· < st'.nt) v' r := by
  intro s a' w' ⟨h1, h2, C1, R1, E1⟩ hk
  replace hk := bindO_elim hk
  obtain ⟨l, hl, st', hQ, hw⟩ := hk
  obtain ⟨vs, g1, g2, g3⟩ := resAll_sound (P := P) R1 E1 _ _ hl
  have hrun : (results fn a'.tmps).run P w' = .ok (if h : vs.toArray.size = 1 then vs.toArray[0] else .tuple vs.toArray) w' := by
   rw [results_eq, Array.mapM_eq_mapM_toList, Sem.run_bind, Sem.run_map, g1]
   rfl
  have hrep := packR_rep g2 g3
  generalize (if h : vs.toArray.size = 1 then vs.toArray[0] else .tuple vs.toArray) = v at hrun hrep
  have hs1 : Stt own ⟨S0.S, C, st.toks, (· < st.nx), (· < st.nt)⟩ w0 1 { s with env := [(0, packR l)] } { tmps := #[v], defers := [] } w' := by
   refine ⟨rfl, rfl, C1, R1.env_ _, ?_⟩
   intro t p h
   simp only [lkp] at h
   split at h
   ·rename_i e
    subst e
    obtain rfl := Option.some.inj h
    exact ⟨v, rfl, hrep⟩
   ·cases h
  obtain ⟨_, _, C2, R2, E2⟩ := hs1.weak ⟨fun _ h => h, fun _ h => h⟩ hw
  obtain ⟨u, hu, hr⟩ := E2 0 (packR l) (by simp [lkp])
  have hu' : u = v := by simpa using hu.symm
  subst hu'
  refine ⟨h1, u, hrun, packR l, st', u, C2, hQ, rfl, ?_, R2.base, hr⟩
  have R3 := R2.env_ st'.env
  exact ⟨R3.frame, R3.stable, R3.box, R3.iter, R3.hown, R3.hinj, R3.tok, R3.tbox, R3.tinj, R3.snew, R3.sold, R.base.trans R2.base, R.glob⟩
 rintro e a' w' ⟨s, hq, hs⟩
 cases e with
 | normal => exact fin s a' w' hs hq
 | ret => exact fin s a' w' hs hq
 | _ => exact hq.elim
theorem OkI.of_pwp (hm : P.follows .mixedOrders = true) {f : FuncId} {fn : Func} {c : Code} {args : List PV} {st : PS} {Q : PV -> PS -> Prop} (hf : P.funcs[f]? = some fn) (hb : fn.body = some c) (hent : enters P f = true)
 (hfit : fitsC noBar (args.length + (fn.ntmps - args.length)) c = true) (h : pwp P ⟨(st.nx, st.nt), noBar⟩ c { st with env := enterEnv 0 args } (outI P fn (st.nx, st.nt) Q)) : OkI P f args st Q := OkI.of_pwpB hm hf hb hent hfit h
end
end Go.Pw

end
section
namespace Go.Pw
open Go Go.RowKit
set_option linter.unusedVariables false
theorem b_some {α : Type} (x : α) (K : α -> Prop) : bindO (some x) K = K x := propext Iff.rfl
theorem i_int (k : IntKind) (i : Int) (K : Int -> Prop) : intK (.val (.int k i)) K = K i := propext Iff.rfl
section
variable {P : Program} {L : Lim} {l0 : Nat × Nat} {st : PS} {Q : Exit -> PS -> Prop}
def evS (st : PS) (K : PS -> Prop) : Prop := K st
def evN (n : Nat) (K : Nat -> Prop) : Prop := K n
theorem evS_eq (st : PS) (K : PS -> Prop) : evS st K = K st := propext Iff.rfl
theorem evN_eq (n : Nat) (K : Nat -> Prop) : evN n K = K n := propext Iff.rfl
theorem d_nil {ops : Array Oper} {a b i : Nat} {K : PS -> Prop} : dops P ops a b i [] st K = evS { st with nx := a + i, nt := b + i } K := propext Iff.rfl
theorem d_plain {ops : Array Oper} {a b i : Nat} {r : List Oper} {K : PS -> Prop} {d : Option Tmp} {op : Op} {ty : TypeId} {pos : String} {af : Array Edge} :
 dops P ops a b i (⟨d, op, ty, pos, af, none⟩ :: r) st K = stepN true P ⟨d, op, ty, pos, af, none⟩ st (a + i) (b + i) fun st' => evS st' fun st' => evN (i + 1) fun j => dops P ops a b j r st' K := propext Iff.rfl
theorem ds_nil {ops : Array Oper} {i : Nat} {K : PS -> Prop} : dopsS P ops i [] st K = evN st.nx fun a => evN st.nt fun b => evS { st with nx := a + i, nt := b + i } K := propext Iff.rfl
theorem ds_plain {ops : Array Oper} {i : Nat} {r : List Oper} {K : PS -> Prop} {d : Option Tmp} {op : Op} {ty : TypeId} {pos : String} {af : Array Edge} :
 dopsS P ops i (⟨d, op, ty, pos, af, none⟩ :: r) st K = evN st.nx fun a => evN st.nt fun b => stepN false P ⟨d, op, ty, pos, af, none⟩ st (a + i) (b + i) fun st' => evS st' fun st' => evN (i + 1) fun j => dopsS P ops j r st' K := propext Iff.rfl
def ifK (b : Bool) (A B : Prop) : Prop := (b = true -> A) /\ (b = false -> B)
def boolK (p : PV) (K : Bool -> Prop) : Prop := match p with
 | .val (.bool t) => K t
 | _ => False
def guardP (t : Bool) (p : PV) (A B : Prop) : Prop := match p with
 | .val (.bool u) => match t with
  | true => ifK u A B
  | false => ifK u B A
 | .tup [] => B
 | _ => False
theorem guardP_t {u : Bool} {A B : Prop} : guardP true (.val (.bool u)) A B = ifK u A B := propext Iff.rfl
theorem guardP_f {u : Bool} {A B : Prop} : guardP false (.val (.bool u)) A B = ifK u B A := propext Iff.rfl
theorem guardP_n {t : Bool} {A B : Prop} : guardP t (.tup []) A B = B := propext Iff.rfl
theorem ifK_true {A B : Prop} : ifK true A B = A := propext ⟨fun h => h.1 rfl, fun h => ⟨fun _ => h, fun e => (by cases e)⟩⟩
theorem ifK_false {A B : Prop} : ifK false A B = B := propext ⟨fun h => h.2 rfl, fun h => ⟨fun e => (by cases e), fun _ => h⟩⟩
theorem ifK_dT {p : Prop} [Decidable p] {A B : Prop} (h : p) : ifK (decide p) A B = A := by rw [decide_eq_true h, ifK_true]
theorem ifK_dF {p : Prop} [Decidable p] {A B : Prop} (h : ¬p) : ifK (decide p) A B = B := by rw [decide_eq_false h, ifK_false]
theorem ifK_nT {p : Prop} [Decidable p] {A B : Prop} (h : p) : ifK (!decide p) A B = B := by rw [decide_eq_true h, Bool.not_true, ifK_false]
theorem ifK_nF {p : Prop} [Decidable p] {A B : Prop} (h : ¬p) : ifK (!decide p) A B = A := by rw [decide_eq_false h, Bool.not_false, ifK_true]
theorem ifK_split {p : Prop} [Decidable p] {A B : Prop} (ha : p -> A) (hb : ¬p -> B) : ifK (decide p) A B := ⟨fun h => ha (of_decide_eq_true h), fun h => hb (of_decide_eq_false h)⟩
theorem ifK_nsplit {p : Prop} [Decidable p] {A B : Prop} (ha : ¬p -> A) (hb : p -> B) : ifK (!decide p) A B := ⟨fun h => ha (by simpa using h), fun h => hb (by simpa using h)⟩
theorem ifK_bsplit {b : Bool} {A B : Prop} (ha : b = true -> A) (hb : b = false -> B) : ifK b A B := ⟨ha, hb⟩
theorem boolK_b {t : Bool} {K : Bool -> Prop} : boolK (.val (.bool t)) K = K t := propext Iff.rfl
theorem d_guard {l : List Oper} {a b i g : Nat} {t : Bool} {r : List Oper} {K : PS -> Prop} {d : Option Tmp} {op : Op} {ty : TypeId} {pos : String} {af : Array Edge} :
  dops P l.toArray a b i (⟨d, op, ty, pos, af, some (g, t)⟩ :: r) st K = bindO ((l[g]?).bind (·.dst)) fun e => bindO (lkp st.env e) fun p => guardP t p
   (stepN true P ⟨d, op, ty, pos, af, some (g, t)⟩ st (a + i) (b + i) fun st' => evS st' fun st' => evN (i + 1) fun j => dops P l.toArray a b j r st' K)
   (evS (st.kill d) fun st' => evN (i + 1) fun j => dops P l.toArray a b j r st' K) := by
 rw [<- List.getElem?_toArray]
 simp only [dops, guardK]
 congr 1; funext e; congr 1; funext p
 unfold guardP
 refine propext ?_
 split
 ·rename_i u
  cases t <;> cases u <;> simp only [ifK_true, ifK_false, evS_eq, evN_eq, Option.some.injEq, reduceCtorEq, forall_const, false_implies, ne_eq, not_true_eq_false, not_false_eq_true, true_and, and_true]
 ·simp only [reduceCtorEq, false_implies, ne_eq, not_false_eq_true, forall_const, true_and, evS_eq, evN_eq]
 ·rename_i h1 h2
  split
  ·exact absurd rfl (h1 _)
  ·exact absurd rfl h2
  ·exact Iff.rfl
theorem ds_guard {l : List Oper} {i g : Nat} {t : Bool} {r : List Oper} {K : PS -> Prop} {d : Option Tmp} {op : Op} {ty : TypeId} {pos : String} {af : Array Edge} :
  dopsS P l.toArray i (⟨d, op, ty, pos, af, some (g, t)⟩ :: r) st K = bindO ((l[g]?).bind (·.dst)) fun e => bindO (lkp st.env e) fun p => guardP t p
   (evN st.nx fun a => evN st.nt fun b => stepN false P ⟨d, op, ty, pos, af, some (g, t)⟩ st (a + i) (b + i) fun st' => evS st' fun st' => evN (i + 1) fun j => dopsS P l.toArray j r st' K)
   (evS (st.kill d) fun st' => evN (i + 1) fun j => dopsS P l.toArray j r st' K) := by
 rw [<- List.getElem?_toArray]
 simp only [dopsS, guardK]
 congr 1; funext e; congr 1; funext p
 unfold guardP
 refine propext ?_
 split
 ·rename_i u
  cases t <;> cases u <;> simp only [ifK_true, ifK_false, evS_eq, evN_eq, Option.some.injEq, reduceCtorEq, forall_const, false_implies, ne_eq, not_true_eq_false, not_false_eq_true, true_and, and_true]
 ·simp only [reduceCtorEq, false_implies, ne_eq, not_false_eq_true, forall_const, true_and, evS_eq, evN_eq]
 ·rename_i h1 h2
  split
  ·exact absurd rfl (h1 _)
  ·exact absurd rfl h2
  ·exact Iff.rfl
theorem p_region_t {id : Nat} {l : List Oper} : pwp P ⟨l0, noBar⟩ (.region id l.toArray true) st Q = evS st fun st => evN st.nx fun a => evN st.nt fun b => dops P l.toArray a b 0 l st (Q .normal) := propext Iff.rfl
def evL {α : Type} (l : List α) (K : List α -> Prop) : Prop := K l
theorem evL_eq {α : Type} (l : List α) (K : List α -> Prop) : evL l K = K l := propext Iff.rfl
theorem p_region_o {id r k : Nat} {l : List Oper} (h : id ≠ r) : pwp P ⟨l0, oneBar r k⟩ (.region id l.toArray true) st Q = evS st fun st => evN st.nx fun a => evN st.nt fun b => dops P l.toArray a b 0 l st (Q .normal) := by
 simp only [pwp, oneBar, if_neg h]; rfl
theorem p_bar {r k : Nat} {l : List Oper} (hb : barOk l.toArray k = true) (h : evS st fun st => evN st.nx fun a => evN st.nt fun b => evL (l.take k) fun l1 => dops P l.toArray a b 0 l1 st fun s => evS s fun s => evL ((l.drop k).take 1) fun l2 => dopsS P l.toArray 0 l2 s fun s => evS s fun s => evN s.nx fun a => evN s.nt fun b => evL (l.drop (k + 1)) fun l3 => dops P l.toArray a b (k + 1) l3 s (Q .normal)) :
  pwp P ⟨l0, oneBar r k⟩ (.region r l.toArray true) st Q := by
 obtain ⟨⟨o, ho, _⟩, _⟩ := bar_spec hb
 simp only [pwp, oneBar, if_true, if_pos (Array.getElem?_eq_some_iff.1 ho).1]
 exact ⟨hb, h⟩
theorem p_expl {r k : Nat} {l : List Oper} (hk : l.length <= k) (h : evS st fun st => expl P l.toArray l0 st (Q .normal)) : pwp P ⟨l0, oneBar r k⟩ (.region r l.toArray true) st Q := by
 simp only [pwp, oneBar, if_true, if_neg (show ¬ k < l.toArray.size by simp; omega)]
 exact h
theorem p_region {id : Nat} {l : List Oper} : pwp P ⟨l0, noBar⟩ (.region id l.toArray false) st Q = evS st fun st => dopsS P l.toArray 0 l st (Q .normal) := propext Iff.rfl
theorem p_region_b {id r k : Nat} {l : List Oper} (h : id ≠ r) : pwp P ⟨l0, oneBar r k⟩ (.region id l.toArray false) st Q = evS st fun st => dopsS P l.toArray 0 l st (Q .normal) := by
 have : oneBar r k id = none := if_neg h
 unfold evS
 simp only [pwp, this]
theorem p_seq {a b : Code} : pwp P L (.seq a b) st Q = pwp P L a st fun x st' => match x with
 | .normal => pwp P L b st' Q
 | x => Q x st' := propext Iff.rfl
theorem p_cond {c : Operand} {t e : Code} : pwp P L (.cond c t e) st Q = bindO (st.ev c) fun p => boolK p fun b => ifK b (pwp P L t st Q) (pwp P L e st Q) := propext Iff.rfl
theorem p_block {id : Nat} {c : Code} : pwp P L (.block id c) st Q = pwp P L c st fun x st' => match x with
 | .exit i => if i = id then Q .normal st' else Q (.exit i) st'
 | x => Q x st' := propext Iff.rfl
theorem p_scope {c : Code} : pwp P L (.scope c) st Q = pwp P L c st fun x st' => match x with
 | .goto _ => False
 | x => Q x st' := propext Iff.rfl
theorem p_label {l : Nat} : pwp P L (.label l) st Q = Q .normal st := propext Iff.rfl
theorem p_exit {id : Nat} : pwp P L (.exit id) st Q = Q (.exit id) st := propext Iff.rfl
theorem p_ret : pwp P L .ret st Q = Q .ret st := propext Iff.rfl
theorem p_skip : pwp P L .skip st Q = Q .normal st := propext Iff.rfl
theorem p_seq_k {a b : Code} (h : ∀ K : PS -> Prop, (∀ st, pwp P L b st Q -> K st) -> pwp P L a st (fun x st' => match x with | .normal => K st' | x => Q x st')) : pwp P L (.seq a b) st Q := h _ (fun _ h => h)
theorem p_loop {c : Code} {ι : Type} (I : ι -> PS) (m : ι -> Nat) (i0 : ι) (h0 : Weak L.l st (I i0)) (h : ∀ i, pwp P L c (I i) fun x st' => match x with
 | .normal => ∃ j, m j < m i /\ Weak L.l st' (I j)
 | x => Q x st') : pwp P L (.loop c) st Q := ⟨ι, I, m, i0, h0, h⟩
end
section
variable {dr : Bool} {P : Program} {st : PS} {id tk : Nat} {K : PS -> Prop} {d : Option Tmp} {ty : TypeId} {pos : String} {af : Array Edge} {g : Option (Nat × Bool)}
theorem s_move {x : Operand} : stepN dr P ⟨d, .move x, ty, pos, af, g⟩ st id tk K = bindO (st.ev x) fun p => K (st.put d p) := propext Iff.rfl
theorem s_assign {x : Operand} : stepN dr P ⟨d, .assign x, ty, pos, af, g⟩ st id tk K = bindO (st.ev x) fun p => K (st.put d p) := propext Iff.rfl
theorem s_pick {c a b : Operand} : stepN dr P ⟨d, .pick c a b, ty, pos, af, g⟩ st id tk K = bindO (st.ev c) fun p => boolK p fun t => ifK t (bindO (st.ev a) fun p => K (st.put d p)) (bindO (st.ev b) fun p => K (st.put d p)) := propext Iff.rfl
theorem s_load {t : TypeId} {x : Operand} : stepN dr P ⟨d, .load t x, ty, pos, af, g⟩ st id tk K = loadK P st t x fun p => K (st.put d p) := propext Iff.rfl
theorem s_build {t : TypeId} {l : List (Nat × Operand)} : stepN dr P ⟨d, .build t l.toArray, ty, pos, af, g⟩ st id tk K = buildK P st t l fun p => K (st.put d p) := propext Iff.rfl
theorem s_binOp {op : BinOp} {t u : TypeId} {x y : Operand} : stepN dr P ⟨d, .binOp op t x y u, ty, pos, af, g⟩ st id tk K = binK P st op t x y fun p => K (st.put d p) := propext Iff.rfl
theorem s_unOp {op : UnOp} {t : TypeId} {x : Operand} : stepN dr P ⟨d, .unOp op t x, ty, pos, af, g⟩ st id tk K = bindO (st.ev x) fun p => unK op p fun p => K (st.put d p) := propext Iff.rfl
theorem s_convert {s t : TypeId} {x : Operand} : stepN dr P ⟨d, .convert s t x, ty, pos, af, g⟩ st id tk K = bindO (st.ev x) fun p => convK P s t p fun p => K (st.put d p) := propext Iff.rfl
theorem s_slice {t : TypeId} {x : Operand} {lo hi : Option Operand} : stepN dr P ⟨d, .slice t x lo hi none, ty, pos, af, g⟩ st id tk K = sliceK P st t x lo hi fun p => K (st.put d p) := propext Iff.rfl
theorem s_fieldAddr {t : TypeId} {x : Operand} {f : Nat} : stepN dr P ⟨d, .fieldAddr t x f, ty, pos, af, g⟩ st id tk K = fieldAddrK P st t x f fun p => K (st.put d p) := propext Iff.rfl
theorem s_field {t : TypeId} {x : Operand} {f : Nat} : stepN dr P ⟨d, .field t x f, ty, pos, af, g⟩ st id tk K = fieldK P st t x f fun p => K (st.put d p) := propext Iff.rfl
theorem s_indexAddr {t : TypeId} {x i : Operand} : stepN dr P ⟨d, .indexAddr t x i, ty, pos, af, g⟩ st id tk K = indexAddrK P st t x i fun p => K (st.put d p) := propext Iff.rfl
theorem s_index {t : TypeId} {x i : Operand} : stepN dr P ⟨d, .index t x i, ty, pos, af, g⟩ st id tk K = indexK P st t x i fun p => K (st.put d p) := propext Iff.rfl
theorem s_extract {x : Operand} {i : Nat} : stepN dr P ⟨d, .extract x i, ty, pos, af, g⟩ st id tk K = bindO (st.ev x) fun p => match p with
 | .tup cs => bindO cs[i]? fun p => K (st.put d p)
 | _ => False := propext Iff.rfl
theorem s_makeFunc {f : FuncId} {l : List Operand} : stepN dr P ⟨d, .makeFunc (.func f) #[] l.toArray, ty, pos, af, g⟩ st id tk K = bindO (evAll st l) fun cs => K (st.put d (.fn f cs)) := propext Iff.rfl
theorem s_makeBm {f : FuncId} {x : Operand} {l : List Operand} : stepN dr P ⟨d, .makeFunc (.func f) (x :: l).toArray #[], ty, pos, af, g⟩ st id tk K = bindO (evAll st (x :: l)) fun cs => K (st.put d (.bm f cs)) := by
 refine propext ⟨fun h => ?_, fun h => ?_⟩
 ·exact h.2
 ·exact ⟨rfl, h⟩
theorem s_makeIface {t : TypeId} {x : Operand} {u : TypeDesc} (hu : P.underlying t = some u) (hn : notIface u = true) : stepN dr P ⟨d, .makeInterface t x, ty, pos, af, g⟩ st id tk K = bindO (st.ev x) fun p => K (st.put d (.iface t p)) := by
 have e : stepN dr P ⟨d, .makeInterface t x, ty, pos, af, g⟩ st id tk K = bindO (P.underlying t) fun u => notIface u = true /\ bindO (st.ev x) fun p => K (st.put d (.iface t p)) := propext Iff.rfl
 rw [e, hu]
 exact propext ⟨fun h => h.2, fun h => ⟨hn, h⟩⟩
theorem s_nilCheck {x : Operand} : stepN dr P ⟨d, .nilCheck x, ty, pos, af, g⟩ st id tk K = bindO (st.ev x) fun p => match p with
 | .ptr _ _ => K (st.put d p)
 | .fp _ => K (st.put d p)
 | .fn _ _ => K (st.put d p)
 | _ => False := propext Iff.rfl
theorem s_len {x : Operand} {t : TypeId} : stepN dr P ⟨d, .call ⟨.builtin .len, #[x], #[t]⟩, ty, pos, af, g⟩ st id tk K = lenK P st t x fun p => K (st.put d p) := propext Iff.rfl
theorem s_max {x y : Operand} {ts : Array TypeId} : stepN dr P ⟨d, .call ⟨.builtin .max, #[x, y], ts⟩, ty, pos, af, g⟩ st id tk K = bindO (st.ev x) fun p => bindO (st.ev y) fun q => max2K true p q fun p => K (st.put d p) := propext Iff.rfl
theorem s_min {x y : Operand} {ts : Array TypeId} : stepN dr P ⟨d, .call ⟨.builtin .min, #[x, y], ts⟩, ty, pos, af, g⟩ st id tk K = bindO (st.ev x) fun p => bindO (st.ev y) fun q => max2K false p q fun p => K (st.put d p) := propext Iff.rfl
theorem s_append {x y : Operand} {t t' : TypeId} : stepN dr P ⟨d, .call ⟨.builtin .append, #[x, y], #[t, t']⟩, ty, pos, af, g⟩ st id tk K = appendK P st tk ⟨.builtin .append, #[x, y], #[t, t']⟩ fun δ => K (δ.apply d st) := propext Iff.rfl
theorem s_call {f : Operand} {l : List Operand} {ts : Array TypeId} : stepN dr P ⟨d, .call ⟨.value f, l.toArray, ts⟩, ty, pos, af, g⟩ st id tk K = bindO (st.ev f) fun pf => match pf with
 | .fn g caps => bindO (evAll st l) fun ags => CallOk dr P g (ags ++ caps) st id tk fun p st' => K (st'.put d p)
 | .bm g fs => bindO (evAll st l) fun ags => dr = false /\ BmOk P g (fs ++ ags) st id tk fun p st' => K (st'.put d p)
 | _ => False := propext Iff.rfl
theorem s_invoke {x : Operand} {m : String} {l : List Operand} {ts : Array TypeId} : stepN dr P ⟨d, .call ⟨.invoke x m, l.toArray, ts⟩, ty, pos, af, g⟩ st id tk K = bindO (st.ev x) fun p => match p with
 | .iface T (.ptr i off) => bindO (evAll st l) fun ags => dr = false /\ InvOk P T m i off ags st id tk fun p st' => K (st'.put d p)
 | _ => False := propext Iff.rfl
theorem s_alloc {T : TypeId} : stepN dr P ⟨d, .alloc T, ty, pos, af, g⟩ st id tk K = bindO (zeroOf? P T) fun z => constOk z = true /\ K (PS.put { st with heap := (id, .box T (constPV z).cells) :: st.heap } d (.ptr id 0)) := propext Iff.rfl
theorem s_allocC {T : TypeId} {z : Value} {cs : List PV} (hz : zeroOf? P T = some z) (hc : constOk z = true) (hp : (constPV z).cells = cs) : stepN dr P ⟨d, .alloc T, ty, pos, af, g⟩ st id tk K = K (PS.put { st with heap := (id, .box T cs) :: st.heap } d (.ptr id 0)) := by
 rw [s_alloc, hz, b_some, hp]
 exact propext ⟨fun h => h.2, fun h => ⟨hc, h⟩⟩
theorem s_box {T : TypeId} {x : Operand} : stepN dr P ⟨d, .box T x, ty, pos, af, g⟩ st id tk K = bindO (st.ev x) fun p => notTup p = true /\ K (PS.put { st with heap := (id, .box T p.cells) :: st.heap } d (.ptr id 0)) := propext Iff.rfl
theorem s_store {t : TypeId} {x y : Operand} : stepN dr P ⟨d, .store t x y, ty, pos, af, g⟩ st id tk K = bindO (st.ev x) fun p => bindO (st.ev y) fun q => match p with
 | .ptr id1 off => bindO (lkp st.heap id1) fun ob => match ob with
  | .box T cs => sizeOf? P t = some q.cells.length /\ notTup q = true /\ off + q.cells.length <= cs.length /\
   K (PS.kill { st with heap := upd st.heap id1 (.box T (cs.take off ++ q.cells ++ cs.drop (off + q.cells.length))) } d)
  | _ => False
 | _ => False := propext Iff.rfl
theorem s_buildSlice {t e : TypeId} {n sz : Nat} {z : Value} {l : List (Nat × Operand)} (hu : P.underlying t = some (.slice e)) (hs : sizeOf? P e = some sz) (hz : zeroOf? P e = some z) (h0 : 0 < sz) (hzs : z.cells.size = sz) :
  stepN dr P ⟨d, .buildSlice t n l.toArray, ty, pos, af, g⟩ st id tk K = bindO (evParts st l) fun ps => bindO (valsOf ps 0) fun xs => (∀ x ∈ xs, x.length = sz) /\ xs.length = n /\ n * sz <= 16777216 /\ K (PS.put { st with toks := upd st.toks tk ⟨e, sz, n⟩ } d (.row tk xs)) := by
 refine propext ⟨fun h => ?_, fun h => ?_⟩
 ·simp only [stepN, stepN0, stepD, hu, hs, hz, b_some] at h
  replace h := bindO_elim h
  obtain ⟨ps, hps, h⟩ := h
  replace h := bindO_elim h
  obtain ⟨xs, hxs, _, _, h1, h2, h3, h4⟩ := h
  rw [show evParts st l = some ps from hps, b_some, hxs, b_some]
  exact ⟨h1, h2, h3, h4⟩
 ·replace h := bindO_elim h
  obtain ⟨ps, hps, h⟩ := h
  replace h := bindO_elim h
  obtain ⟨xs, hxs, h1, h2, h3, h4⟩ := h
  simp only [stepN, stepN0, stepD, hu, hs, hz, b_some, hps, hxs]
  exact ⟨h0, hzs, h1, h2, h3, h4⟩
end
section
variable {P : Program} {st : PS} {K : PV -> Prop}
def lenP (K : PV -> Prop) : PV -> Prop
 | .sl xs => K (.val (.int .i64 xs.length))
 | .row _ xs => K (.val (.int .i64 xs.length))
 | .val (.slice none 0 0) => K (.val (.int .i64 0))
 | .ms _ _ m _ => K (.val (.int .i64 m))
 | _ => False
theorem len_slice {t e : TypeId} {x : Operand} (hu : P.underlying t = some (.slice e)) : lenK P st t x K = bindO (st.ev x) (lenP K) := by
 unfold lenK
 rw [hu]
 cases st.ev x with
 | none => rfl
 | some p => simp only [b_some]; rfl
def lenS (K : PV -> Prop) : PV -> Prop
 | .val (.string s) => K (.val (.int .i64 s.size))
 | _ => False
theorem len_string {t : TypeId} {x : Operand} (hu : P.underlying t = some .string) : lenK P st t x K = bindO (st.ev x) (lenS K) := by
 unfold lenK
 rw [hu]
 cases st.ev x with
 | none => rfl
 | some p => simp only [b_some]; rfl
theorem len_array {t e : TypeId} {n : Nat} {x : Operand} (hu : P.underlying t = some (.array n e)) : lenK P st t x K = K (.val (.int .i64 n)) := by
 unfold lenK
 rw [hu]
def ixP (n : Nat) (i : Int) (K : PV -> Prop) : PV -> Prop
 | .sl xs => 0 <= i /\ i < xs.length /\ (xs.getD i.toNat []).length = n /\ K (.fp (xs.getD i.toNat []))
 | .row _ xs => 0 <= i /\ i < xs.length /\ (xs.getD i.toNat []).length = n /\ K (.fp (xs.getD i.toNat []))
 | .ms id l0 m _ => 0 <= i /\ i < m /\ K (.ptr id (l0 + i.toNat * n))
 | _ => False
theorem ix_slice {t e : TypeId} {n : Nat} {x y : Operand} (hu : P.underlying t = some (.slice e)) (hs : sizeOf? P e = some n) : indexAddrK P st t x y K = bindO (st.ev x) fun p => bindO (st.ev y) fun q => intK q fun i => ixP n i K p := by
 unfold indexAddrK
 rw [hu]
 simp only [hs, b_some]
 cases st.ev x with
 | none => rfl
 | some p => simp only [b_some]; rfl
def ixA (n m : Nat) (i : Int) (K : PV -> Prop) : PV -> Prop
 | .ptr id off => 0 <= i /\ i < m /\ K (.ptr id (off + i.toNat * n))
 | _ => False
theorem ix_array {t e : TypeId} {n m : Nat} {x y : Operand} (hu : P.underlying t = some (.array m e)) (hs : sizeOf? P e = some n) : indexAddrK P st t x y K = bindO (st.ev x) fun p => bindO (st.ev y) fun q => intK q fun i => ixA n m i K p := by
 unfold indexAddrK
 rw [hu]
 simp only [hs, b_some]
 cases st.ev x with
 | none => rfl
 | some p => simp only [b_some]; rfl
def ixS (i : Int) (K : PV -> Prop) : PV -> Prop
 | .val (.string s) => 0 <= i /\ i < s.size /\ K (.val (.int .u8 (bt s i)))
 | _ => False
theorem ix_string {t : TypeId} {x y : Operand} (hu : P.underlying t = some .string) : indexK P st t x y K = bindO (st.ev x) fun p => bindO (st.ev y) fun q => intK q fun i => ixS i K p := by
 unfold indexK
 rw [hu]
 cases st.ev x with
 | none => rfl
 | some p => simp only [b_some]; rfl
def loadP (P : Program) (t : TypeId) (st : PS) (K : PV -> Prop) : PV -> Prop
 | .ptr id off => bindO (lkp st.heap id) fun o => match o with
  | .box _ cs => bindO (readCells P t cs off) K
  | _ => False
 | .fp cs => bindO (readCells P t cs 0) K
 | _ => False
theorem load_ {t : TypeId} {x : Operand} : loadK P st t x K = bindO (st.ev x) (loadP P t st K) := by
 unfold loadK
 cases st.ev x with
 | none => rfl
 | some p => simp only [b_some]; rfl
theorem load_ptr {t : TypeId} {id off : Nat} : loadP P t st K (.ptr id off) = bindO (lkp st.heap id) fun o => match o with
 | .box _ cs => bindO (readCells P t cs off) K
 | _ => False := propext Iff.rfl
theorem load_fp {t : TypeId} {cs : List PV} : loadP P t st K (.fp cs) = bindO (readCells P t cs 0) K := propext Iff.rfl
theorem rd_one {t : TypeId} {cs : List PV} {off : Nat} (h : aggT P t = some false) : readCells P t cs off = cs[off]? := by
 unfold readCells
 rw [h]
theorem rd_agg {t : TypeId} {cs : List PV} {off n : Nat} (h : aggT P t = some true) (hs : sizeOf? P t = some n) : readCells P t cs off = if off + n <= cs.length then some (.agg ((cs.drop off).take n)) else none := by
 unfold readCells
 rw [h]
 simp only [hs]
def slcP (n : Nat) (st : PS) (lo hi : Option Operand) (K : PV -> Prop) : PV -> Prop
 | .sl xs => boundsK st lo hi xs.length fun l h => (lo = none ∨ ∀ x ∈ xs, x.length = n) /\ K (.sl ((xs.take h).drop l))
 | .row _ xs => boundsK st lo hi xs.length fun l h => (lo = none ∨ ∀ x ∈ xs, x.length = n) /\ K (.sl ((xs.take h).drop l))
 | .val (.slice none 0 0) => boundsK st lo hi 0 fun l h => K (.val (.slice none 0 0))
 | .ms id l0 m cap => boundsK st lo hi m fun l h => lo = none /\ K (.ms id l0 h cap)
 | _ => False
theorem slc_slice {t e : TypeId} {n : Nat} {x : Operand} {lo hi : Option Operand} (hu : P.underlying t = some (.slice e)) (hs : sizeOf? P e = some n) : sliceK P st t x lo hi K = bindO (st.ev x) (slcP n st lo hi K) := by
 unfold sliceK
 rw [hu]
 simp only [hs, b_some]
 cases st.ev x with
 | none => rfl
 | some p => simp only [b_some]; rfl
def slcS (st : PS) (lo hi : Option Operand) (K : PV -> Prop) : PV -> Prop
 | .val (.string s) => boundsK st lo hi s.size fun l h => K (.val (.string (s.extract l h)))
 | _ => False
theorem slc_string {t : TypeId} {x : Operand} {lo hi : Option Operand} (hu : P.underlying t = some .string) : sliceK P st t x lo hi K = bindO (st.ev x) (slcS st lo hi K) := by
 unfold sliceK
 rw [hu]
 cases st.ev x with
 | none => rfl
 | some p => simp only [b_some]; rfl
theorem bd_nn {len : Nat} {K : Nat -> Nat -> Prop} : boundsK st none none len K = K 0 len := propext Iff.rfl
theorem bd_sn {l : Operand} {len : Nat} {K : Nat -> Nat -> Prop} : boundsK st (some l) none len K = bindO (st.ev l) fun p => intK p fun i => 0 <= i /\ i <= len /\ K i.toNat len := propext Iff.rfl
theorem bd_ns {h : Operand} {len : Nat} {K : Nat -> Nat -> Prop} : boundsK st none (some h) len K = bindO (st.ev h) fun q => intK q fun j => 0 <= j /\ j <= len /\ K 0 j.toNat := propext Iff.rfl
theorem bd_ss {l h : Operand} {len : Nat} {K : Nat -> Nat -> Prop} : boundsK st (some l) (some h) len K = bindO (st.ev l) fun p => intK p fun i => bindO (st.ev h) fun q => intK q fun j => 0 <= i /\ i <= j /\ j <= len /\ K i.toNat j.toNat := propext Iff.rfl
def fldP (off : Nat) (K : PV -> Prop) : PV -> Prop
 | .ptr id o => K (.ptr id (o + off))
 | .fp cs => K (.fp (cs.drop off))
 | _ => False
theorem fld_ {s : TypeId} {fs : Array Field} {fd : Field} {n f : Nat} {x : Operand} (hu : P.underlying s = some (.struct fs)) (hf : fs[f]? = some fd) (hs : sizeOf? P fd.type = some n) (hn : n ≠ 0) :
  fieldAddrK P st s x f K = bindO (st.ev x) (fldP fd.offset K) := by
 unfold fieldAddrK
 rw [hu]
 simp only [hf, b_some, hs]
 refine propext ⟨fun h => ?_, fun h => ⟨hn, ?_⟩⟩
 ·cases hx : st.ev x with
  | none => rw [hx] at h; exact h.2
  | some p => rw [hx] at h; exact h.2
 ·cases hx : st.ev x with
  | none => rw [hx] at h; exact h
  | some p => rw [hx] at h; exact h
def fieldP (P : Program) (t : TypeId) (off : Nat) (K : PV -> Prop) : PV -> Prop
 | .agg cs => bindO (readCells P t cs off) K
 | _ => False
theorem field_ {s : TypeId} {fs : Array Field} {fd : Field} {f : Nat} {x : Operand} (hu : P.underlying s = some (.struct fs)) (hf : fs[f]? = some fd) :
  fieldK P st s x f K = bindO (st.ev x) (fieldP P fd.type fd.offset K) := by
 unfold fieldK
 rw [hu]
 simp only [hf, b_some]
 cases st.ev x with
 | none => rfl
 | some p => simp only [b_some]; rfl
theorem fieldP_agg {t : TypeId} {off : Nat} {K : PV -> Prop} {cs : List PV} : fieldP P t off K (.agg cs) = bindO (readCells P t cs off) K := propext Iff.rfl
theorem s_makeSlice {dr : Bool} {id tk : Nat} {K : PS -> Prop} {d : Option Tmp} {ty : TypeId} {pos : String} {af : Array Edge} {g : Option (Nat × Bool)} {t e : TypeId} {l c : Operand} {sz by_ : Nat} {z : Value} {zc : List PV}
  (hu : P.underlying t = some (.slice e)) (hs : sizeOf? P e = some sz) (hb : bytesOf? P e = some by_) (hz : zeroOf? P e = some z) (hc : constOk z = true) (hzs : z.cells.size = sz) (h0 : 0 < sz) (hzc : (constPV z).cells = zc) :
  stepN dr P ⟨d, .makeSlice t l c, ty, pos, af, g⟩ st id tk K = bindO (st.ev l) fun p => bindO (st.ev c) fun q => intK p fun n => intK q fun m => n = m /\ 0 <= n /\ n <= 9223372036854775807 /\ by_ * n <= 281474976710656 /\
   K (PS.put { st with heap := (id, .box e ((List.range (n.toNat * sz)).map fun i => zc.getD (i % sz) (.val .nilIface))) :: st.heap } d (.ms id 0 n.toNat n.toNat)) := by
 subst hzc
 refine propext ⟨fun h => ?_, fun h => ?_⟩
 ·simp only [stepN, stepN0, stepD, hu, hs, hb, hz, b_some] at h
  replace h := bindO_elim h
  obtain ⟨p, hp, h⟩ := h
  replace h := bindO_elim h
  obtain ⟨q, hq, h⟩ := h
  rw [hp, b_some, hq, b_some]
  unfold intK at h ⊢
  split at h
  ·split at h
   ·obtain ⟨_, _, _, h1, h2, h3, h4, h5⟩ := h
    exact ⟨h1, h2, h3, h4, h5⟩
   ·exact h.elim
  ·exact h.elim
 ·replace h := bindO_elim h
  obtain ⟨p, hp, h⟩ := h
  replace h := bindO_elim h
  obtain ⟨q, hq, h⟩ := h
  simp only [stepN, stepN0, stepD, hu, hs, hb, hz, b_some, hp, hq]
  unfold intK at h ⊢
  split at h
  ·split at h
   ·obtain ⟨h1, h2, h3, h4, h5⟩ := h
    exact ⟨hc, hzs, h0, h1, h2, h3, h4, h5⟩
   ·exact h.elim
  ·exact h.elim
theorem build_ {t : TypeId} {fs : Array Field} {z : Value} {pl : List (Nat × Nat)} {l : List (Nat × Operand)} (hu : P.underlying t = some (.struct fs)) (hz : zeroOf? P t = some z) (hp : placesOf P fs.toList = some pl) (hc : constOk z = true) :
  buildK P st t l K = bindO (evParts st l) fun ps => (ps.all fun e => match e.2 with | .tup _ => false | _ => true) = true /\ bindO (fillP (fun i => pl[i]?) (constPV z).cells ps) fun cs => K (.agg cs) := by
 unfold buildK
 rw [hu]
 simp only [hz, b_some, hp, hc, true_and]
 rfl
end
theorem wrap64 {x : Int} (h1 : -9223372036854775808 <= x) (h2 : x <= 9223372036854775807) : IntKind.wrap .i64 x = x := by
 rw [IntKind.wrap_i64]; omega
theorem wrap8 {x : Int} (h1 : 0 <= x) (h2 : x <= 255) : IntKind.wrap .u8 x = x := by
 rw [IntKind.wrap_u8]; omega
theorem wrap32 {x : Int} (h1 : -2147483648 <= x) (h2 : x <= 2147483647) : IntKind.wrap .i32 x = x := by
 rw [IntKind.wrap_i32]; omega
theorem buildC {P : Program} {st : PS} {K : PV -> Prop} {t : TypeId} {fs : Array Field} {z : Value} {pl : List (Nat × Nat)} {l : List (Nat × Operand)} {cs0 : List PV} (hu : P.underlying t = some (.struct fs)) (hz : zeroOf? P t = some z) (hp : placesOf P fs.toList = some pl) (hc : constOk z = true) (hcs : (constPV z).cells = cs0) :
  buildK P st t l K = bindO (evParts st l) fun ps => (ps.all fun e => match e.2 with | .tup _ => false | _ => true) = true /\ bindO (fillP (fun i => pl[i]?) cs0 ps) fun cs => K (.agg cs) := by
 rw [build_ hu hz hp hc, hcs]
theorem buildA {P : Program} {st : PS} {K : PV -> Prop} {t e : TypeId} {m n : Nat} {z : Value} {l : List (Nat × Operand)} {cs0 : List PV} (hu : P.underlying t = some (.array m e)) (hz : zeroOf? P t = some z) (hs : sizeOf? P e = some n) (hc : constOk z = true) (hcs : (constPV z).cells = cs0) :
  buildK P st t l K = bindO (evParts st l) fun ps => (ps.all fun e => match e.2 with | .tup _ => false | _ => true) = true /\ bindO (fillP (fun i => some (i * n, n)) cs0 ps) fun cs => K (.agg cs) := by
 unfold buildK
 rw [hu]
 simp only [hz, b_some, hs, hc, true_and, hcs]
 rfl
def appT (e : TypeId) (sz by_ : Nat) (st : PS) (tk0 : Nat) (K : Delta -> Prop) (d : PV) : List (List PV) -> Prop
 | [] => sliceLike d = true /\ K (.val d)
 | y0 :: r => match d with
  | .val (.slice none 0 0) => (y0 :: r).length * by_ <= 140737488355328 /\ (y0 :: r).length <= 9223372036854775807 /\
   K ⟨none, some (tk0, ⟨e, sz, (y0 :: r).length⟩), some (.row tk0 (y0 :: r))⟩
  | .row k xs => bindO (lkp st.toks k) fun tk => tk.n = xs.length /\ tk.e = e /\ tk.sz = sz /\ (xs.length + (y0 :: r).length) * by_ <= 140737488355328 /\ xs.length + (y0 :: r).length <= 9223372036854775807 /\
   K ⟨none, some (k, ⟨e, sz, xs.length + (y0 :: r).length⟩), some (.row k (xs ++ (y0 :: r)))⟩
  | .ms id lo n cap => n = cap /\ bindO (srcXs st sz (.ms id lo n cap)) fun xs0 => bindO (fzLL xs0) fun xs => (∀ x ∈ xs, x.length = sz) /\ (xs.length + (y0 :: r).length) * by_ <= 140737488355328 /\ xs.length + (y0 :: r).length <= 9223372036854775807 /\
   K ⟨none, some (tk0, ⟨e, sz, xs.length + (y0 :: r).length⟩), some (.row tk0 (xs ++ (y0 :: r)))⟩
  | _ => False
theorem appTail_eq {st : PS} {tk0 sz by_ : Nat} {e : TypeId} {d : PV} {ys : List (List PV)} {K : Delta -> Prop} : appTail st tk0 e sz by_ d ys K = appT e sz by_ st tk0 K d ys := by
 cases ys <;> rfl
theorem append_t {P : Program} {st : PS} {t e : TypeId} {sz by_ tk : Nat} {z : Value} {x y : Operand} {K : Delta -> Prop} (hu : P.underlying t = some (.slice e)) (hs : sizeOf? P e = some sz) (hb : bytesOf? P e = some by_) (hz : zeroOf? P e = some z) (hzs : z.cells.size = sz) (h0 : 0 < sz) :
  appendK P st tk ⟨.builtin .append, #[x, y], #[t, t]⟩ K = bindO (st.ev x) fun d => bindO (st.ev y) fun s => bindO (srcXs st sz s) fun ys0 => bindO (fzLL ys0) fun ys => (∀ y ∈ ys, y.length = sz) /\ appT e sz by_ st tk K d ys := by
 unfold appendK
 refine propext ⟨fun h => ?_, fun h => ?_⟩
 ·simp only [hu, hs, hb, hz, b_some] at h
  obtain ⟨_, _, h⟩ := h
  replace h := bindO_elim h
  obtain ⟨d, hd, h⟩ := h
  replace h := bindO_elim h
  obtain ⟨s, hs', h⟩ := h
  rw [hd, b_some, hs', b_some]
  split at h
  ·cases h.1
  ·obtain ⟨_, h⟩ := h
   replace h := bindO_elim h
   obtain ⟨ys0, h1, h⟩ := h
   replace h := bindO_elim h
   obtain ⟨ys, h2, h3, h⟩ := h
   rw [h1, b_some, h2, b_some]
   exact ⟨h3, appTail_eq ▸ h⟩
 ·simp only [hu, hs, hb, hz, b_some]
  refine ⟨hzs, h0, ?_⟩
  replace h := bindO_elim h
  obtain ⟨d, hd, h⟩ := h
  replace h := bindO_elim h
  obtain ⟨s, hs', h⟩ := h
  rw [hd, b_some, hs', b_some]
  replace h := bindO_elim h
  obtain ⟨ys0, h1, h⟩ := h
  split
  ·cases h1
  ·refine ⟨trivial, ?_⟩
   replace h := bindO_elim h
   obtain ⟨ys, h2, h3, h⟩ := h
   rw [h1, b_some, h2, b_some]
   exact ⟨h3, appTail_eq ▸ h⟩
def appS (e : TypeId) (by_ : Nat) (st : PS) (tk0 : Nat) (K : Delta -> Prop) (d : PV) : PV -> Prop
 | .val (.string s) => appT e 1 by_ st tk0 K d (encS s)
 | _ => False
theorem append_s {P : Program} {st : PS} {t t' e : TypeId} {by_ tk : Nat} {x y : Operand} {K : Delta -> Prop} (hu : P.underlying t = some (.slice e)) (hu' : P.underlying t' = some .string) (hs : sizeOf? P e = some 1) (hb : bytesOf? P e = some by_) (hz : zeroOf? P e = some (.int .u8 0)) :
  appendK P st tk ⟨.builtin .append, #[x, y], #[t, t']⟩ K = bindO (st.ev x) fun d => bindO (st.ev y) fun s => appS e by_ st tk K d s := by
 have hne : t ≠ t' := fun h => by rw [<- h, hu] at hu'; cases hu'
 unfold appendK
 refine propext ⟨fun h => ?_, fun h => ?_⟩
 ·simp only [hu, hs, hb, hz, b_some] at h
  obtain ⟨_, _, h⟩ := h
  replace h := bindO_elim h
  obtain ⟨d, hd, h⟩ := h
  replace h := bindO_elim h
  obtain ⟨s, hs', h⟩ := h
  rw [hd, b_some, hs', b_some]
  split at h
  ·have h := h.2.2.2
   rw [appTail_eq] at h
   exact h
  ·exact absurd h.1 hne
 ·simp only [hu, hs, hb, hz, b_some]
  refine ⟨rfl, by decide, ?_⟩
  replace h := bindO_elim h
  obtain ⟨d, hd, h⟩ := h
  replace h := bindO_elim h
  obtain ⟨s, hs', h⟩ := h
  rw [hd, b_some, hs', b_some]
  unfold appS at h
  split at h
  ·exact ⟨hu', trivial, trivial, appTail_eq ▸ h⟩
  ·exact h.elim
def rngP (id : Nat) (d : Option Tmp) (st : PS) (K : PS -> Prop) : PV -> Prop
 | .val (.string s) => K (PS.put { st with heap := (id, .iter s 0) :: st.heap } d (.ptr id 0))
 | _ => False
theorem s_range {dr : Bool} {P : Program} {st : PS} {id tk : Nat} {K : PS -> Prop} {d : Option Tmp} {ty : TypeId} {pos : String} {af : Array Edge} {g : Option (Nat × Bool)} {t : TypeId} {x : Operand} (hu : P.underlying t = some .string) :
  stepN dr P ⟨d, .range t x, ty, pos, af, g⟩ st id tk K = bindO (st.ev x) (rngP id d st K) := by
 refine propext ⟨fun h => ?_, fun h => ?_⟩
 ·have h2 := h.2
  replace h2 := bindO_elim h2
  obtain ⟨p, hp, h2⟩ := h2
  rw [hp, b_some]
  unfold rngP
  split at h2
  ·exact h2
  ·exact h2.elim
 ·refine ⟨hu, ?_⟩
  replace h := bindO_elim h
  obtain ⟨p, hp, h⟩ := h
  rw [hp, b_some]
  unfold rngP at h
  split at h
  ·exact h
  ·exact h.elim
def nxtP (d : Option Tmp) (st : PS) (K : PS -> Prop) : PV -> Prop
 | .ptr id1 0 => bindO (lkp st.heap id1) fun ob => match ob with
  | .iter s pos => ifK (decide (pos < s.size)) (K (PS.put { st with heap := upd st.heap id1 (.iter s (pos + (Utf8.decode s pos).2)) } d (.tup [.val (.bool true), .val (.int .i64 pos), .val (.int .i32 (Utf8.decode s pos).1)])))
   (K (st.put d (.tup [.val (.bool false)])))
  | _ => False
 | _ => False
theorem s_next {dr : Bool} {P : Program} {st : PS} {id tk : Nat} {K : PS -> Prop} {d : Option Tmp} {ty : TypeId} {pos : String} {af : Array Edge} {g : Option (Nat × Bool)} {x : Operand} :
  stepN dr P ⟨d, .next x true, ty, pos, af, g⟩ st id tk K = bindO (st.ev x) (nxtP d st K) := by
 have key : ∀ (n : Nat) (s : ByteArray) (A B : Prop), ((n < s.size -> A) /\ (s.size <= n -> B)) = ifK (decide (n < s.size)) A B := fun n s A B => by
  unfold ifK
  simp only [decide_eq_true_eq, decide_eq_false_iff_not, Nat.not_lt]
 refine propext ⟨fun h => ?_, fun h => ?_⟩
 ·replace h := bindO_elim h
  obtain ⟨p, hp, h⟩ := h
  rw [hp, b_some]
  unfold nxtP
  split at h
  ·replace h := bindO_elim h
   obtain ⟨ob, hob, h⟩ := h
   simp only
   rw [hob, b_some]
   split at h
   ·simp only
    rw [<- key]
    exact h
   ·exact h.elim
  ·exact h.elim
 ·replace h := bindO_elim h
  obtain ⟨p, hp, h⟩ := h
  show bindO (st.ev x) _
  rw [hp, b_some]
  unfold nxtP at h
  split at h
  ·replace h := bindO_elim h
   obtain ⟨ob, hob, h⟩ := h
   simp only
   rw [hob, b_some]
   split at h
   ·simp only
    rw [<- key] at h
    exact h
   ·exact h.elim
  ·exact h.elim
theorem tok_T {c : Prop} [Decidable c] {a b : Option Tok} (h : c) : (if c then a else b) = a := if_pos h
theorem tok_F {c : Prop} [Decidable c] {a b : Option Tok} (h : ¬c) : (if c then a else b) = b := if_neg h
theorem toks_T {c : Prop} [Decidable c] {a b : List (Nat × Tok)} (h : c) : (if c then a else b) = a := if_pos h
theorem toks_F {c : Prop} [Decidable c] {a b : List (Nat × Tok)} (h : ¬c) : (if c then a else b) = b := if_neg h
theorem ob_T {c : Prop} [Decidable c] {a b : Option PObj} (h : c) : (if c then a else b) = a := if_pos h
theorem ob_F {c : Prop} [Decidable c] {a b : Option PObj} (h : ¬c) : (if c then a else b) = b := if_neg h
theorem obs_T {c : Prop} [Decidable c] {a b : List (Nat × PObj)} (h : c) : (if c then a else b) = a := if_pos h
theorem obs_F {c : Prop} [Decidable c] {a b : List (Nat × PObj)} (h : ¬c) : (if c then a else b) = b := if_neg h
theorem and_dT {p q : Prop} (h : p) : (p /\ q) = q := propext ⟨fun h => h.2, fun k => ⟨h, k⟩⟩
theorem CallOk.of {dr : Bool} {P : Program} {g : FuncId} {ags as' : List PV} {st : PS} {id tk : Nat} {r : PV} {K : PV -> PS -> Prop} (ok : Ok P g as' r) (hf : fzAs ags = some as') (k : K r st) : CallOk dr P g ags st id tk K := .pure as' r hf ok k
theorem OkI.env_ {P : Program} {f : FuncId} {args : List PV} {st : PS} {Q : PV -> PS -> Prop} (h : OkI P f args st Q) (e : List (Nat × PV)) : OkI P f args { st with env := e } Q :=
 ⟨h.1, fun own S0 w0 w C vals R hn hr => h.2 own S0 w0 w C vals (R.env_ st.env) hn hr⟩
theorem CallOk.ofI {P : Program} {g : FuncId} {ags : List PV} {st st0 : PS} {id tk : Nat} {Q : PV -> PS -> Prop} {K : PV -> PS -> Prop} (ok : OkI P g ags st0 Q) (hh : st0.heap = st.heap) (ht : st0.toks = st.toks) (hx : st0.nx = id) (hy : st0.nt = tk)
  (k : ∀ r st1, Q r st1 -> K r { st1 with env := st.env }) : CallOk false P g ags st id tk K := by
 subst hx hy
 have e : ({ st with nx := st0.nx, nt := st0.nt } : PS) = { st0 with env := st.env } := by cases st; cases st0; simp_all
 exact .own rfl Q (by rw [e]; exact ok.env_ _) k
theorem BmOk.of {P : Program} {ags : List PV} {st st0 : PS} {id tk : Nat} {K : PV -> PS -> Prop} {g : FuncId} {Q : PV -> PS -> Prop} (ok : OkI P g ags st0 Q) (hh : st0.heap = st.heap) (ht : st0.toks = st.toks) (hx : st0.nx = id) (hy : st0.nt = tk)
  (k : ∀ r st1, Q r st1 -> K r { st1 with env := st.env }) : BmOk P g ags st id tk K := by
 subst hx hy
 have e : ({ st with nx := st0.nx, nt := st0.nt } : PS) = { st0 with env := st.env } := by cases st; cases st0; simp_all
 exact .mk Q (by rw [e]; exact ok.env_ _) k
theorem InvOk.of {P : Program} {T : TypeId} {m : String} {i off : Nat} {ags : List PV} {st st0 : PS} {id tk : Nat} {K : PV -> PS -> Prop} {g : FuncId} {δ : Nat} {Q : PV -> PS -> Prop} (hd : DispOk P T m g δ) (ok : OkI P g (.ptr i (off + δ) :: ags) st0 Q) (hh : st0.heap = st.heap) (ht : st0.toks = st.toks) (hx : st0.nx = id) (hy : st0.nt = tk)
  (k : ∀ r st1, Q r st1 -> K r { st1 with env := st.env }) : InvOk P T m i off ags st id tk K := by
 subst hx hy
 have e : ({ st with nx := st0.nx, nt := st0.nt } : PS) = { st0 with env := st.env } := by cases st; cases st0; simp_all
 exact .mk g δ Q hd (by rw [e]; exact ok.env_ _) k
theorem tdivE {a b : Int} (h : 0 <= a) : a.tdiv b = a / b := Int.tdiv_eq_ediv_of_nonneg h
theorem tmodE {a b : Int} (h : 0 <= a) : a.tmod b = a % b := Int.tmod_eq_emod_of_nonneg h
theorem put_some (st : PS) (t : Tmp) (p : PV) : st.put (some t) p = { st with env := (t, p) :: st.env } := rfl
theorem kill_none (st : PS) : st.kill none = st := rfl
theorem kill_some (st : PS) (t : Tmp) : st.kill (some t) = { st with env := (t, .tup []) :: st.env } := rfl
theorem ev_tmp (st : PS) (t : Tmp) : st.ev (.tmp t) = lkp st.env t := rfl
theorem ev_int (st : PS) (k : IntKind) (n : Int) : st.ev (.const (.int k n)) = some (.val (.int k n)) := rfl
theorem ev_bool (st : PS) (b : Bool) : st.ev (.const (.bool b)) = some (.val (.bool b)) := rfl
theorem ev_str (st : PS) (s : ByteArray) : st.ev (.const (.string s)) = some (.val (.string s)) := rfl
theorem ev_nil (st : PS) : st.ev (.const (.slice none 0 0)) = some (.val (.slice none 0 0)) := rfl
theorem ev_func (st : PS) (f : FuncId) : st.ev (.func f) = some (.fn f []) := rfl
def hold {α : Type} (a : α) : α := a
theorem hold_eq {α : Type} (a : α) : hold a = a := by
 have h : hold a = a := by unfold hold; exact Eq.trans rfl rfl
 exact h.trans (Eq.refl a)
@[congr] theorem bindO_congr {α : Type} {o o' : Option α} {K : α -> Prop} (h : hold o = o') : bindO o K = bindO o' K := by rw [<- h]; rfl
@[congr] theorem intK_congr {p p' : PV} {K : Int -> Prop} (h : hold p = p') : intK p K = intK p' K := by rw [<- h]; rfl
@[congr] theorem ifK_congr {b b' : Bool} {A B : Prop} (h : hold b = b') : ifK b A B = ifK b' A B := by rw [<- h]; rfl
@[congr] theorem boolK_congr {p p' : PV} {K : Bool -> Prop} (h : hold p = p') : boolK p K = boolK p' K := by rw [<- h]; rfl
@[congr] theorem evS_congr {s s' : PS} {K : PS -> Prop} (h : hold s = s') : evS s K = evS s' K := by rw [<- h]; rfl
@[congr] theorem evN_congr {s s' : Nat} {K : Nat -> Prop} (h : hold s = s') : evN s K = evN s' K := by rw [<- h]; rfl
@[congr] theorem guardP_congr {t : Bool} {p p' : PV} {A B : Prop} (h : hold p = p') : guardP t p A B = guardP t p' A B := by rw [<- h]; rfl
@[congr] theorem CallOk_congr {dr : Bool} {P : Program} {g : FuncId} {ags as' : List PV} {st : PS} {id tk : Nat} {K : PV -> PS -> Prop} (h : hold ags = as') : CallOk dr P g ags st id tk K = CallOk dr P g as' st id tk K := by rw [<- h]; rfl
@[congr] theorem pwp_congr {P : Program} {L : Lim} {c : Code} {s s' : PS} {Q : Exit -> PS -> Prop} (h : hold s = s') : pwp P L c s Q = pwp P L c s' Q := by rw [<- h]; rfl
theorem mem_nil_ {α : Type} {p : α -> Prop} : (∀ x ∈ ([] : List α), p x) = True := propext ⟨fun _ => trivial, fun _ x h => by cases h⟩
theorem mem_cons_ {α : Type} {p : α -> Prop} {a : α} {l : List α} : (∀ x ∈ a :: l, p x) = (p a /\ ∀ x ∈ l, p x) := propext List.forall_mem_cons
theorem frz_self (p : PV) : Frz p p = True := eq_true (Frz.refl p)
theorem frz1_self (p : PV) : Frz1 p p = True := eq_true (Frz1.refl p)
theorem frzL_self (l : List PV) : FrzL l l = True := eq_true (FrzL.refl l)
theorem frzO_self (o : PObj) : FrzO o o = True := eq_true (FrzO.refl o)
theorem frzO_box {t t' : TypeId} {l m : List PV} : FrzO (.box t l) (.box t' m) = (t = t' /\ FrzL l m) := propext Iff.rfl
theorem frzO_iter {s s' : ByteArray} {i j : Nat} : FrzO (.iter s i) (.iter s' j) = (some (PObj.iter s i) = some (PObj.iter s' j)) := propext Iff.rfl
theorem frzL_cons {p q : PV} {l m : List PV} : FrzL (p :: l) (q :: m) = (Frz1 p q /\ FrzL l m) := propext Iff.rfl
theorem frzL_nil : FrzL [] [] = True := propext Iff.rfl
theorem frz_agg {l m : List PV} : Frz (.agg l) (.agg m) = FrzL l m := propext Iff.rfl
theorem frz1_row {k : Nat} {xs ys : List (List PV)} : Frz1 (.row k xs) (.sl ys) = (xs = ys) := propext Iff.rfl
theorem frz1_nil {ys : List (List PV)} : Frz1 (.val (.slice none 0 0)) (.sl ys) = (ys = []) := propext ⟨fun h => h.2, fun h => ⟨rfl, h⟩⟩
theorem frz1_val {a b : Value} : Frz1 (.val a) (.val b) = (some (PV.val a) = some (PV.val b)) := propext Iff.rfl
theorem frz1_sl {a b : List (List PV)} : Frz1 (.sl a) (.sl b) = (some (PV.sl a) = some (PV.sl b)) := propext Iff.rfl
theorem frz1_rr {k j : Nat} {a b : List (List PV)} : Frz1 (.row k a) (.row j b) = (some (PV.row k a) = some (PV.row j b)) := propext Iff.rfl
theorem frz1_ptr {i o i' o' : Nat} : Frz1 (.ptr i o) (.ptr i' o') = (some (PV.ptr i o) = some (PV.ptr i' o')) := propext Iff.rfl
theorem frz1_ms {i o n c i' o' n' c' : Nat} : Frz1 (.ms i o n c) (.ms i' o' n' c') = (some (PV.ms i o n c) = some (PV.ms i' o' n' c')) := propext Iff.rfl
theorem frz_val {a : Value} {q : PV} : Frz (.val a) q = Frz1 (.val a) q := propext Iff.rfl
theorem frz_sl {a : List (List PV)} {q : PV} : Frz (.sl a) q = Frz1 (.sl a) q := propext Iff.rfl
theorem frz_row {k : Nat} {a : List (List PV)} {q : PV} : Frz (.row k a) q = Frz1 (.row k a) q := propext Iff.rfl
theorem frz_ptr {i o : Nat} {q : PV} : Frz (.ptr i o) q = Frz1 (.ptr i o) q := propext Iff.rfl
theorem frz_ms {i o n c : Nat} {q : PV} : Frz (.ms i o n c) q = Frz1 (.ms i o n c) q := propext Iff.rfl
theorem frz_fp {a b : List PV} : Frz (.fp a) (.fp b) = (some (PV.fp a) = some (PV.fp b)) := propext Iff.rfl
theorem frz_tup {a b : List PV} : Frz (.tup a) (.tup b) = (some (PV.tup a) = some (PV.tup b)) := propext Iff.rfl
theorem frz_bm {f g : FuncId} {a b : List PV} : Frz (.bm f a) (.bm g b) = (some (PV.bm f a) = some (PV.bm g b)) := propext Iff.rfl
theorem frz_fn {f g : FuncId} {a b : List PV} : Frz (.fn f a) (.fn g b) = (some (PV.fn f a) = some (PV.fn g b)) := propext Iff.rfl
end Go.Pw

end
section
namespace Go.Pw
open Go Go.RowKit
set_option linter.unusedVariables false
set_option linter.unusedSimpArgs false
theorem Ok.walk {P : Program} {f : FuncId} {args : List PV} {r : Value} (h : Ok P f args (.val r)) (S : Cells) (w : World) (vals : Array Value) (hk : Known w) (hS : Stable S w) (hn : vals.size = args.length)
  (ha : ∀ (i : Nat) (v : Value) (p : PV), vals[i]? = some v -> args[i]? = some p -> RepA S v p) : Calls P f vals w fun e w' => e = .returned r /\ Below w.heap.size w w' := by
 refine Calls.mono (h.2 S w vals hk hS hn ha) ?_
 rintro e w' ⟨v, S', rfl, _, _, _, hr, hb⟩
 obtain ⟨rfl, _⟩ := rep_val hr
 exact ⟨rfl, hb⟩
def memCells (w : World) : Cells := fun b o => w.cell? ⟨b, o, none⟩
theorem memCells_stable (w : World) : Stable (memCells w) w := fun b o v h => h
def Reps (S : Cells) : List Value -> List PV -> Prop
 | [], [] => True
 | v :: vs, p :: ps => RepA S v p /\ Reps S vs ps
 | _, _ => False
theorem Reps.len {S : Cells} : ∀ {vs : List Value} {ps : List PV}, Reps S vs ps -> vs.length = ps.length
 | [], [], _ => rfl
 | _ :: _, _ :: _, h => by simp [Reps.len h.2]
 | [], _ :: _, h => h.elim
 | _ :: _, [], h => h.elim
theorem Reps.get {S : Cells} : ∀ {vs : List Value} {ps : List PV}, Reps S vs ps -> ∀ (i : Nat) (v : Value) (p : PV), vs[i]? = some v -> ps[i]? = some p -> RepA S v p
 | [], [], _, i, v, p, hv, _ => by simp at hv
 | v0 :: vs, p0 :: ps, h, 0, v, p, hv, hp => by
  simp at hv hp
  subst hv hp
  exact h.1
 | _ :: vs, _ :: ps, h, i + 1, v, p, hv, hp => Reps.get h.2 i v p (by simpa using hv) (by simpa using hp)
 | [], _ :: _, h, _, _, _, _, _ => h.elim
 | _ :: _, [], h, _, _, _, _, _ => h.elim
theorem Ok.walk_reps {P : Program} {f : FuncId} {args : List PV} {r : Value} (h : Ok P f args (.val r)) (w : World) (hk : Known w) (vals : List Value) (hr : Reps (memCells w) vals args) :
  Calls P f vals.toArray w fun e w' => e = .returned r /\ Below w.heap.size w w' :=
 h.walk (memCells w) w vals.toArray hk (memCells_stable w) (by simp [hr.len]) (fun i v p hv hp => hr.get i v p (by simpa using hv) hp)
theorem repA_one {S : Cells} {v : Value} (h : v.oneCell' = true) : RepA S v (.val v) := .frz (.val h)
end Go.Pw

end
section
namespace Go.Pw
open Go Go.RowKit
set_option linter.unusedVariables false
set_option linter.unusedSimpArgs false
section
variable {P : Program} {own : Nat -> Prop} {S0 : Base} {w0 w : World} {C : Cx} {U V : Nat -> Prop} {st : PS}
def fzH (P : Program) (h : List (Nat × PObj)) : PV -> Option PV
 | .ms id lo n cap => match lkp h id with
  | some (.box t cs) => match sizeOf? P t with
   | some sz => if 0 < sz /\ lo + n * sz <= cs.length then (fzLL (chunks sz n (cs.drop lo))).map .sl else none
   | none => none
  | _ => none
 | p => fz p
def fzHL (P : Program) (h : List (Nat × PObj)) : List PV -> Option (List PV)
 | [] => some []
 | p :: r => match fzH P h p, fzHL P h r with
  | some q, some l => some (q :: l)
  | _, _ => none
def fzHA (P : Program) (h : List (Nat × PObj)) : PV -> Option PV
 | .agg cs => (fzHL P h cs).map .agg
 | .fp cs => some (.fp cs)
 | .fn f [] => some (.fn f [])
 | p => fzH P h p
def fzHAs (P : Program) (h : List (Nat × PObj)) : List PV -> Option (List PV)
 | [] => some []
 | p :: r => match fzHA P h p, fzHAs P h r with
  | some q, some l => some (q :: l)
  | _, _ => none
def outH (P : Program) (fn : Func) (r : PV) : Exit -> PS -> Prop
 | .normal, st => bindO (resAll P st fn.results.toList) fun l => bindO (fzHAs P st.heap l) fun l' => packR l' = r
 | .ret, st => bindO (resAll P st fn.results.toList) fun l => bindO (fzHAs P st.heap l) fun l' => packR l' = r
 | _, _ => False
theorem fzHAs_get {h : List (Nat × PObj)} : ∀ {l l' : List PV}, fzHAs P h l = some l' -> l.length = l'.length /\ ∀ (i : Nat) (p q : PV), l[i]? = some p -> l'[i]? = some q -> fzHA P h p = some q
 | [], l', e => by
  obtain rfl := Option.some.inj e
  exact ⟨rfl, fun i p q hp => by simp at hp⟩
 | p :: r, l', e => by
  simp only [fzHAs] at e
  split at e
  ·rename_i q l hq hl
   obtain rfl := Option.some.inj e
   obtain ⟨h1, h2⟩ := fzHAs_get hl
   refine ⟨by simp [h1], fun i p' q' hp hq' => ?_⟩
   cases i with
   | zero => simp at hp hq'; subst hp hq'; assumption
   | succ i => exact h2 i p' q' (by simpa using hp) (by simpa using hq')
  ·cases e
theorem fzHL_get {h : List (Nat × PObj)} : ∀ {l l' : List PV}, fzHL P h l = some l' -> l.length = l'.length /\ ∀ (i : Nat) (p q : PV), l[i]? = some p -> l'[i]? = some q -> fzH P h p = some q
 | [], l', e => by
  obtain rfl := Option.some.inj e
  exact ⟨rfl, fun i p q hp => by simp at hp⟩
 | p :: r, l', e => by
  simp only [fzHL] at e
  split at e
  ·rename_i q l hq hl
   obtain rfl := Option.some.inj e
   obtain ⟨h1, h2⟩ := fzHL_get hl
   refine ⟨by simp [h1], fun i p' q' hp hq' => ?_⟩
   cases i with
   | zero => simp at hp hq'; subst hp hq'; assumption
   | succ i => exact h2 i p' q' (by simpa using hp) (by simpa using hq')
  ·cases e
theorem chunks_len (sz n : Nat) (cs : List PV) : (chunks sz n cs).length = n := by simp [chunks]
theorem chunks_get {sz n : Nat} {cs : List PV} {j : Nat} (h : j < n) : (chunks sz n cs)[j]? = some ((cs.drop (j * sz)).take sz) := by
 simp [chunks, h]
structure Over (C : Cx) (st : PS) (w : World) (S : Cells) : Prop where
 s : SLe C.S S
 b : ∀ id o, lkp st.heap id = some o -> ∀ i v, w.cell? ⟨C.ρ id, i, none⟩ = some v -> S (C.ρ id) i = some v
theorem fzH_rep (R : Rel own S0 w0 C U V st w) {S : Cells} (hS : Over C st w S) {v : Value} {p q : PV} (h : fzH P st.heap p = some q) (r : RepV C st.toks U V v p) : RepF S v q := by
 by_cases hm : ∃ id lo n cap, p = .ms id lo n cap
 ·obtain ⟨id, lo, n, cap, rfl⟩ := hm
  obtain ⟨rfl, hU, hc⟩ := rep_ms r
  simp only [fzH] at h
  split at h
  ·rename_i t cs ho
   split at h
   ·rename_i sz hsz
    split at h
    ·rename_i hb
     obtain ⟨ys, hy, rfl⟩ := Option.map_eq_some_iff.1 h
     obtain ⟨e1, e2⟩ := fzLL_get hy
     rw [chunks_len] at e1
     obtain ⟨vs, g1, g2, g3⟩ := R.box id t cs ho
     have cell : ∀ k, k < cs.length -> ∃ u q', w.cell? ⟨C.ρ id, k, none⟩ = some u /\ cs[k]? = some q' /\ RepV C st.toks U V u q' := fun k hk => by
      have hk' : k < vs.size := by omega
      have h1 : vs[k]? = some vs[k] := Array.getElem?_eq_getElem hk'
      exact ⟨vs[k], cs[k], by rw [cell_of_row w (C.ρ id) k vs t (0, 0) g1]; exact h1, List.getElem?_eq_getElem hk, (g3 k _ _ h1 (List.getElem?_eq_getElem hk)).2⟩
     have hlen : ∀ j, j < n -> lo + (j * sz + sz) <= cs.length := fun j hj => by
      have : (j + 1) * sz <= n * sz := Nat.mul_le_mul_right _ hj
      rw [Nat.succ_mul] at this
      omega
     refine .sl (sz := sz) (fun j i => (w.cell? ⟨C.ρ id, lo + (j * sz + i), none⟩).getD undef) e1.symm hc (fun x hx => ?_) (fun _ => ⟨C.ρ id, lo, rfl, fun j i hj hi => ?_⟩) (fun j i x q hx hq => ?_)
     ·obtain ⟨j, hj⟩ := List.mem_iff_getElem?.1 hx
      have hjn : j < n := by have := (List.getElem?_eq_some_iff.1 hj).1; omega
      have h2 := (fzL_get (e2 j _ x (chunks_get hjn) hj)).1
      rw [<- h2, List.length_take, List.length_drop, List.length_drop]
      have := hlen j hjn
      omega
     ·have := hlen j hj
      obtain ⟨u, q', h1, _, _⟩ := cell (lo + (j * sz + i)) (by omega)
      have h3 := hS.b id _ ho _ u h1
      rw [h3, h1]; rfl
     ·have hjn : j < n := by have := (List.getElem?_eq_some_iff.1 hx).1; omega
      have h2 := fzL_get (e2 j _ x (chunks_get hjn) hx)
      have hi : i < sz := by
       have := (List.getElem?_eq_some_iff.1 hq).1
       have h3 := h2.1
       rw [List.length_take] at h3
       omega
      have := hlen j hjn
      obtain ⟨u, q', h1, h4, h5⟩ := cell (lo + (j * sz + i)) (by omega)
      have h6 : (((cs.drop lo).drop (j * sz)).take sz)[i]? = some q' := by
       rw [List.getElem?_take, if_pos hi, List.getElem?_drop, List.getElem?_drop]
       exact h4
      rw [h1]
      exact (fz_rep (h2.2 i q' q h6 hq) h5).mono hS.s
    ·cases h
   ·cases h
  ·cases h
 ·have e : fzH P st.heap p = fz p := by
   cases p <;> first | rfl | exact absurd ⟨_, _, _, _, rfl⟩ hm
  rw [e] at h
  exact (fz_rep h r).mono hS.s
theorem RepF.a {S : Cells} {v : Value} {p : PV} (h : RepF S v p) : RepA S v p := .frz h
theorem fzHA_rep (R : Rel own S0 w0 C U V st w) {S : Cells} (hS : Over C st w S) {v : Value} {p q : PV} (h : fzHA P st.heap p = some q) (r : RepV C st.toks U V v p) : RepA S v q := by
 unfold fzHA at h
 split at h
 ·obtain ⟨qs, hq, rfl⟩ := Option.map_eq_some_iff.1 h
  obtain ⟨vs, rfl, hr⟩ := rep_agg r
  obtain ⟨h1, h2⟩ := fzHL_get hq
  refine .agg (by have := hr.1; simp at this; omega) (fun i v p hv hp => ?_) (fun i v hv => ?_)
  ·have hi : i < vs.toList.length := by have := (Array.getElem?_eq_some_iff.1 hv).1; simpa using this
   have hp' := List.getElem?_eq_getElem (l := _) (i := i) (by rw [hr.1] at hi; exact hi)
   exact .frz (fzH_rep R hS (h2 i _ p hp' hp) (hr.2 i v _ (by simpa using hv) hp').2)
  ·have hi : i < vs.toList.length := by have := (Array.getElem?_eq_some_iff.1 hv).1; simpa using this
   have hp' := List.getElem?_eq_getElem (l := _) (i := i) (by rw [hr.1] at hi; exact hi)
   exact (hr.2 i v _ (by simpa using hv) hp').1
 ·obtain rfl := Option.some.inj h
  obtain ⟨b, o, rfl, hc⟩ := rep_fp r
  exact .fp (fun i p hp => by obtain ⟨u, h1, h2⟩ := hc i p hp; exact ⟨u, hS.s _ _ _ h1, h2.mono hS.s⟩)
 ·obtain rfl := Option.some.inj h
  obtain ⟨vs, rfl, h1, _⟩ := rep_fn r
  exact .fn h1 (fun i v p hv hp => by simp at hp)
 ·exact .frz (fzH_rep R hS h r)
theorem results_soundH (R : Rel own S0 w0 C U V st w) {a : Act} (E : Env C U V st a) {S : Cells} (hS : Over C st w S) {fn : Func} {l l' : List PV} (h : resAll P st fn.results.toList = some l) (hf : fzHAs P st.heap l = some l') :
  ∃ v, (results fn a.tmps).run P w = .ok v w /\ RepA S v (packR l') := by
 obtain ⟨vs, h1, h2, h3⟩ := resAll_sound (P := P) R E _ _ h
 obtain ⟨h4, h5⟩ := fzHAs_get hf
 have hrun : (results fn a.tmps).run P w = .ok (if h : vs.toArray.size = 1 then vs.toArray[0] else .tuple vs.toArray) w := by
  rw [results_eq, Array.mapM_eq_mapM_toList, Sem.run_bind, Sem.run_map, h1]
  rfl
 refine ⟨_, hrun, packR_rep (C := C0 S) (T := []) (by omega) (fun i v q hv hq => ?_)⟩
 have hi : i < l.length := by rw [h4]; exact (List.getElem?_eq_some_iff.1 hq).1
 have hp := List.getElem?_eq_getElem hi
 exact fzHA_rep R hS (h5 i _ q hp hq) (h3 i v _ hv hp)
end
section
variable {P : Program}
theorem Ok.of_pwpH (hm : P.follows .mixedOrders = true) {f : FuncId} {fn : Func} {c : Code} {args : List PV} {r : PV} (hf : P.funcs[f]? = some fn) (hb : fn.body = some c) (hent : enters P f = true)
  {bar : Nat -> Option Nat} (hfit : fitsC bar (args.length + (fn.ntmps - args.length)) c = true) (h : pwp P ⟨(0, 0), bar⟩ c (enterPS args) (outH P fn r)) : Ok P f args r := by
 refine ⟨hent, fun S w vals hkn hS hsz hrep => ?_⟩
 refine calls_of_wp hf hb ?_
 have hst : Stt Never ⟨S, C0 S, [], Never, Never⟩ w (args.length + (fn.ntmps - args.length)) (enterPS args) { tmps := vals ++ Array.replicate (fn.ntmps - vals.size) undef, defers := [] } w := by
  refine ⟨rfl, by simp [hsz], C0 S, ⟨Frame.refl _ _, hS, ?_, ?_, ?_, ?_, ?_, ?_, ?_, fun b o v h => .inl h, SLe.refl _, ⟨SLe.refl _, fun _ h => h.elim, fun _ _ h => h.elim, fun _ h => h.elim, fun _ h => h.elim⟩, ⟨hkn.2, hkn.1, fun _ _ h => h⟩⟩, ?_⟩
  ·intro id T cs h; cases h
  ·intro id s pos h; cases h
  ·intro id o h; cases h
  ·intro i j oi oj h; cases h
  ·intro k t h; cases h
  ·intro i oi k t h; cases h
  ·intro i j ti tj h; cases h
  ·intro t p h
   obtain ⟨_, h2⟩ := enterEnv_lkp args 0 t p h
   rw [Nat.sub_zero] at h2
   have ht : t < vals.size := by rw [hsz]; exact (List.getElem?_eq_some_iff.1 h2).1
   have hv : vals[t]? = some vals[t] := Array.getElem?_eq_getElem ht
   refine ⟨vals[t], ?_, RepV.ext (C := C0 S) (C' := C0 S) (T := []) (T' := []) ⟨SLe.refl _, fun _ h => h.elim, fun _ _ h => h.elim, fun _ h => h.elim, fun _ h => h.elim⟩ (hrep t _ p hv h2)⟩
   show (vals ++ Array.replicate _ undef)[t]? = _
   rw [Array.getElem?_append_left ht]
   exact hv
 refine wp_mono (pwp_sound (S0 := ⟨S, C0 S, [], Never, Never⟩) hm ⟨fun _ h => False.elim h, fun _ h => False.elim h⟩ c _ _ _ w hfit h hst) ?_
 have fin : ∀ (st : PS) (a' : Act) (w' : World), Stt Never ⟨S, C0 S, [], Never, Never⟩ w (args.length + (fn.ntmps - args.length)) st a' w' -> (bindO (resAll P st fn.results.toList) fun l => bindO (fzHAs P st.heap l) fun l' => packR l' = r) ->
   a'.defers = [] /\ ∃ v, (results fn a'.tmps).run P w' = .ok v w' /\ ∃ v' S', Ending.returned v = Ending.returned v' /\ SLe S S' /\ Stable S' w' /\ (∀ b o u, S' b o = some u -> S b o = some u ∨ w.heap.size <= b) /\ RepA S' v' r /\ Below w.heap.size w w' := by
  intro st a' w' ⟨h1, h2, C, R, E⟩ hk
  replace hk := bindO_elim hk
  obtain ⟨l, hl, hk⟩ := hk
  replace hk := bindO_elim hk
  obtain ⟨l', hl', rfl⟩ := hk
  let S' : Cells := fun b o => if w.heap.size <= b then w'.cell? ⟨b, o, none⟩ else S b o
  have hO : Over C st w' S' := by
   refine ⟨fun b o v h => ?_, fun id o ho i v hv => ?_⟩
   ·show (if _ then _ else _) = _
    split
    ·exact R.stable b o v h
    ·rcases R.snew b o v h with h | h | h
     ·exact h
     ·exact h.elim
     ·contradiction
   ·show (if _ then _ else _) = _
    rcases (R.hown id o ho).2.2.1 with h | h
    ·exact h.elim
    ·rw [if_pos h]; exact hv
  obtain ⟨v, hv, hr⟩ := results_soundH (P := P) R E hO hl hl'
  refine ⟨h1, v, hv, v, S', rfl, fun b o u h => hO.s _ _ _ (R.sold _ _ _ h), fun b o u h => ?_, fun b o u h => ?_, hr, ⟨R.frame.os, R.frame.tape, R.frame.output, R.frame.size, fun k hk => R.frame.block k hk (fun h => h)⟩⟩
  ·replace h : (if w.heap.size <= b then w'.cell? ⟨b, o, none⟩ else S b o) = some u := h
   split at h
   ·exact h
   ·exact R.stable b o u (R.sold _ _ _ h)
  ·replace h : (if w.heap.size <= b then w'.cell? ⟨b, o, none⟩ else S b o) = some u := h
   split at h
   ·exact .inr ‹_›
   ·exact .inl h
 rintro e a' w' ⟨st, hq, hs⟩
 cases e with
 | normal => exact fin st a' w' hs hq
 | ret => exact fin st a' w' hs hq
 | _ => exact hq.elim
theorem Rel.below_ {own : Nat -> Prop} {S0 : Base} {w0 w w' : World} {C : Cx} {U V : Nat -> Prop} {st : PS} (R : Rel own S0 w0 C U V st w) (hb : Below w.heap.size w w') : Rel own S0 w0 C U V st w' := by
 have hold : ∀ b, b < w.heap.size -> w'.heap[b]? = w.heap[b]? := hb.block
 have lt : ∀ {b : Nat} {x : Obj}, w.heap[b]? = some x -> b < w.heap.size := fun h => (Array.getElem?_eq_some_iff.1 h).1
 have hs0 := R.frame.size
 refine ⟨⟨hb.os.trans R.frame.os, hb.tape.trans R.frame.tape, hb.output.trans R.frame.output, Nat.le_trans hs0 hb.size, fun k hk hn => (hold k (by omega)).trans (R.frame.block k hk hn)⟩, ?_, ?_, ?_, ?_, R.hinj, ?_, R.tbox, R.tinj, R.snew, R.sold, R.base, R.glob⟩
 ·intro b o v h
  have h1 := R.stable b o v h
  have hlt : b < w.heap.size := by
   rcases Nat.lt_or_ge b w.heap.size with h' | h'
   ·exact h'
   ·simp [World.cell?, Array.getElem?_eq_none h'] at h1
  rw [World.cell?_of_block (hold b hlt)]
  exact h1
 ·intro id T cs h
  obtain ⟨us, h1, h2, h3⟩ := R.box id T cs h
  exact ⟨us, (hold _ (lt h1)).trans h1, h2, h3⟩
 ·intro id s pos h
  have h1 := R.iter id s pos h
  exact (hold _ (lt h1)).trans h1
 ·intro id o h
  obtain ⟨h1, h2, h3, h4⟩ := R.hown id o h
  exact ⟨h1, Nat.lt_of_lt_of_le h2 hb.size, h3, h4⟩
 ·intro k t h
  obtain ⟨h1, h2, ⟨us, h3, h4⟩, h5⟩ := R.tok k t h
  exact ⟨h1, h2, ⟨us, (hold _ (lt h3)).trans h3, h4⟩, h5⟩
def plainR : PV -> Bool
 | .val _ => true
 | .tup cs => cs.all fun p => match p with | .val _ => true | _ => false
 | _ => false
theorem plainR_rep {S : Cells} {C : Cx} {T : List (Nat × Tok)} {U V : Nat -> Prop} {v : Value} {p : PV} (h : plainR p = true) (r : RepA S v p) : RepV C T U V v p := by
 cases p with
 | val u => obtain ⟨rfl, h1⟩ := rep_val r; exact .frz (.val h1)
 | tup cs =>
  obtain ⟨vs, rfl, h1, h2⟩ := rep_tup r
  refine .tup h1 (fun i v p hv hp => ?_)
  simp only [plainR, List.all_eq_true] at h
  have h3 := h p (List.mem_of_getElem? hp)
  have h4 := h2 i v p hv hp
  cases p with
  | val u => obtain ⟨rfl, h1⟩ := rep_val h4; exact .frz (.val h1)
  | _ => cases h3
 | _ => cases h
theorem OkI.frozen {g : FuncId} {st : PS} {ags as' : List PV} {r : PV} (ok : Ok P g as' r) (hf : fzHAs P st.heap ags = some as') (hp : plainR r = true) : OkI P g ags st (fun r' st' => r' = r /\ st' = st) := by
 refine ⟨ok.1, fun own S0 w0 w C vals R hn hr => ?_⟩
 obtain ⟨h4, h5⟩ := fzHAs_get hf
 have hO : Over C st w (memCells w) := ⟨R.stable, fun id o ho i v hv => hv⟩
 refine (ok.2 (memCells w) w vals R.known (memCells_stable w) (by omega) (fun i v q hv hq => ?_)).mono ?_
 ·have hi : i < ags.length := by rw [h4]; exact (List.getElem?_eq_some_iff.1 hq).1
  have hp := List.getElem?_eq_getElem hi
  exact fzHA_rep R hO (h5 i _ q hp hq) (hr i v _ hv hp)
 ·rintro e w' ⟨v, S', rfl, _, _, _, hr', hbel⟩
  exact ⟨r, st, v, C, ⟨rfl, rfl⟩, rfl, Rel.below_ R hbel, Ext.refl _ _ _ _, plainR_rep hp hr'⟩
end
end Go.Pw

end
section
namespace Go.Pw
open Go Go.RowKit
set_option linter.unusedVariables false
set_option linter.unusedSimpArgs false
section
variable {P : Program}
def OkQ (P : Program) (f : FuncId) (args : List PV) (Q : PV -> Prop) : Prop :=
 enters P f = true /\ ∀ (S : Cells) (w : World) (vals : Array Value), Known w -> Stable S w -> vals.size = args.length -> (∀ (i : Nat) (v : Value) (p : PV), vals[i]? = some v -> args[i]? = some p -> RepA S v p) ->
  Calls P f vals w fun e w' => ∃ r v S', Q r /\ e = .returned v /\ SLe S S' /\ Stable S' w' /\ (∀ b o u, S' b o = some u -> S b o = some u ∨ w.heap.size <= b) /\ RepA S' v r /\ Below w.heap.size w w'
def outQ (P : Program) (fn : Func) (Q : PV -> Prop) : Exit -> PS -> Prop
 | .normal, st => bindO (resAll P st fn.results.toList) fun l => bindO (fzHAs P st.heap l) fun l' => Q (packR l')
 | .ret, st => bindO (resAll P st fn.results.toList) fun l => bindO (fzHAs P st.heap l) fun l' => Q (packR l')
 | _, _ => False
theorem OkQ.of_pwp (hm : P.follows .mixedOrders = true) {f : FuncId} {fn : Func} {c : Code} {args : List PV} {Q : PV -> Prop} (hf : P.funcs[f]? = some fn) (hb : fn.body = some c) (hent : enters P f = true)
  {bar : Nat -> Option Nat} (hfit : fitsC bar (args.length + (fn.ntmps - args.length)) c = true) (h : pwp P ⟨(0, 0), bar⟩ c (enterPS args) (outQ P fn Q)) : OkQ P f args Q := by
 refine ⟨hent, fun S w vals hkn hS hsz hrep => ?_⟩
 refine calls_of_wp hf hb ?_
 have hst : Stt Never ⟨S, C0 S, [], Never, Never⟩ w (args.length + (fn.ntmps - args.length)) (enterPS args) { tmps := vals ++ Array.replicate (fn.ntmps - vals.size) undef, defers := [] } w := by
  refine ⟨rfl, by simp [hsz], C0 S, ⟨Frame.refl _ _, hS, ?_, ?_, ?_, ?_, ?_, ?_, ?_, fun b o v h => .inl h, SLe.refl _, ⟨SLe.refl _, fun _ h => h.elim, fun _ _ h => h.elim, fun _ h => h.elim, fun _ h => h.elim⟩, ⟨hkn.2, hkn.1, fun _ _ h => h⟩⟩, ?_⟩
  ·intro id T cs h; cases h
  ·intro id s pos h; cases h
  ·intro id o h; cases h
  ·intro i j oi oj h; cases h
  ·intro k t h; cases h
  ·intro i oi k t h; cases h
  ·intro i j ti tj h; cases h
  ·intro t p h
   obtain ⟨_, h2⟩ := enterEnv_lkp args 0 t p h
   rw [Nat.sub_zero] at h2
   have ht : t < vals.size := by rw [hsz]; exact (List.getElem?_eq_some_iff.1 h2).1
   have hv : vals[t]? = some vals[t] := Array.getElem?_eq_getElem ht
   refine ⟨vals[t], ?_, RepV.ext (C := C0 S) (C' := C0 S) (T := []) (T' := []) ⟨SLe.refl _, fun _ h => h.elim, fun _ _ h => h.elim, fun _ h => h.elim, fun _ h => h.elim⟩ (hrep t _ p hv h2)⟩
   show (vals ++ Array.replicate _ undef)[t]? = _
   rw [Array.getElem?_append_left ht]
   exact hv
 refine wp_mono (pwp_sound (S0 := ⟨S, C0 S, [], Never, Never⟩) hm ⟨fun _ h => False.elim h, fun _ h => False.elim h⟩ c _ _ _ w hfit h hst) ?_
 have fin : ∀ (st : PS) (a' : Act) (w' : World), Stt Never ⟨S, C0 S, [], Never, Never⟩ w (args.length + (fn.ntmps - args.length)) st a' w' -> (bindO (resAll P st fn.results.toList) fun l => bindO (fzHAs P st.heap l) fun l' => Q (packR l')) ->
   a'.defers = [] /\ ∃ v, (results fn a'.tmps).run P w' = .ok v w' /\ ∃ r v' S', Q r /\ Ending.returned v = Ending.returned v' /\ SLe S S' /\ Stable S' w' /\ (∀ b o u, S' b o = some u -> S b o = some u ∨ w.heap.size <= b) /\ RepA S' v' r /\ Below w.heap.size w w' := by
  intro st a' w' ⟨h1, h2, C, R, E⟩ hk
  replace hk := bindO_elim hk
  obtain ⟨l, hl, hk⟩ := hk
  replace hk := bindO_elim hk
  obtain ⟨l', hl', hq⟩ := hk
  let S' : Cells := fun b o => if w.heap.size <= b then w'.cell? ⟨b, o, none⟩ else S b o
  have hO : Over C st w' S' := by
   refine ⟨fun b o v h => ?_, fun id o ho i v hv => ?_⟩
   ·show (if _ then _ else _) = _
    split
    ·exact R.stable b o v h
    ·rcases R.snew b o v h with h | h | h
     ·exact h
     ·exact h.elim
     ·contradiction
   ·show (if _ then _ else _) = _
    rcases (R.hown id o ho).2.2.1 with h | h
    ·exact h.elim
    ·rw [if_pos h]; exact hv
  obtain ⟨v, hv, hr⟩ := results_soundH (P := P) R E hO hl hl'
  refine ⟨h1, v, hv, packR l', v, S', hq, rfl, fun b o u h => hO.s _ _ _ (R.sold _ _ _ h), fun b o u h => ?_, fun b o u h => ?_, hr, ⟨R.frame.os, R.frame.tape, R.frame.output, R.frame.size, fun k hk => R.frame.block k hk (fun h => h)⟩⟩
  ·replace h : (if w.heap.size <= b then w'.cell? ⟨b, o, none⟩ else S b o) = some u := h
   split at h
   ·exact h
   ·exact R.stable b o u (R.sold _ _ _ h)
  ·replace h : (if w.heap.size <= b then w'.cell? ⟨b, o, none⟩ else S b o) = some u := h
   split at h
   ·exact .inr ‹_›
   ·exact .inl h
 rintro e a' w' ⟨st, hq, hs⟩
 cases e with
 | normal => exact fin st a' w' hs hq
 | ret => exact fin st a' w' hs hq
 | _ => exact hq.elim
theorem Rel.afterPure {own : Nat -> Prop} {S0 : Base} {w0 w w' : World} {C : Cx} {U V : Nat -> Prop} {st : PS} {S' : Cells} (R : Rel own S0 w0 C U V st w) (hS : SLe C.S S') (hst : Stable S' w') (hnew : ∀ b o u, S' b o = some u -> C.S b o = some u ∨ w.heap.size <= b) (hb : Below w.heap.size w w') :
  Rel own S0 w0 { C with S := S' } U V st w' /\ Ext C { C with S := S' } st.toks st.toks U V U V := by
 have X' : Ext C { C with S := S' } st.toks st.toks U V U V := ⟨hS, fun _ _ => rfl, fun k t _ h => ⟨t, h, Nat.le_refl _, rfl, fun _ => rfl⟩, fun _ h => h, fun _ h => h⟩
 have heap_lt : ∀ {b : Nat} {x : Obj}, w.heap[b]? = some x -> b < w.heap.size := fun h => (Array.getElem?_eq_some_iff.1 h).1
 have hold : ∀ b, b < w.heap.size -> w'.heap[b]? = w.heap[b]? := hb.block
 have hfree : ∀ b o, b < w.heap.size -> C.S b o = none -> S' b o = none := by
  intro b o hb' hn
  cases h : S' b o with
  | none => rfl
  | some u =>
   rcases hnew b o u h with h1 | h1
   ·rw [hn] at h1; cases h1
   ·omega
 have hs0 := R.frame.size
 refine ⟨?_, X'⟩
 refine ⟨⟨hb.os.trans R.frame.os, hb.tape.trans R.frame.tape, hb.output.trans R.frame.output, Nat.le_trans hs0 hb.size, fun k hk hn => (hold k (by omega)).trans (R.frame.block k hk hn)⟩, hst, ?_, ?_, ?_, R.hinj, ?_, R.tbox, R.tinj, ?_, R.sold.trans hS, R.base.trans X', R.glob⟩
 ·intro id T cs h
  obtain ⟨us, h1, h2, h3⟩ := R.box id T cs h
  exact ⟨us, (hold _ (heap_lt h1)).trans h1, h2, fun i v p hv hp => ⟨(h3 i v p hv hp).1, (h3 i v p hv hp).2.ext X'⟩⟩
 ·intro id s pos h
  have h1 := R.iter id s pos h
  exact (hold _ (heap_lt h1)).trans h1
 ·intro id o h
  obtain ⟨h1, h2, h3, h4⟩ := R.hown id o h
  exact ⟨h1, Nat.lt_of_lt_of_le h2 hb.size, h3, fun o' => hfree _ _ h2 (h4 o')⟩
 ·intro k t h
  obtain ⟨h1, h2, ⟨us, h3, h4⟩, h5, h6, h7⟩ := R.tok k t h
  exact ⟨h1, h2, ⟨us, (hold _ (heap_lt h3)).trans h3, h4⟩, h5, h6, fun o ho' => hfree _ _ (heap_lt h3) (h7 o ho')⟩
 ·intro b o u h
  rcases hnew b o u h with h1 | h1
  ·exact R.snew b o u h1
  ·exact .inr (.inr (by omega))
theorem Ok.q {f : FuncId} {args : List PV} {r : PV} (h : Ok P f args r) : OkQ P f args (· = r) :=
 ⟨h.1, fun S w vals hk hS hn hr => (h.2 S w vals hk hS hn hr).mono (fun e w' ⟨v, S', h1, h2, h3, h4, h5, h6⟩ => ⟨r, v, S', rfl, h1, h2, h3, h4, h5, h6⟩)⟩
theorem OkQ.mono {f : FuncId} {args : List PV} {Q Q' : PV -> Prop} (h : OkQ P f args Q) (k : ∀ r, Q r -> Q' r) : OkQ P f args Q' :=
 ⟨h.1, fun S w vals hk hS hn hr => (h.2 S w vals hk hS hn hr).mono (fun e w' ⟨r, v, S', h0, h1⟩ => ⟨r, v, S', k r h0, h1⟩)⟩
theorem OkI.ofQ {g : FuncId} {st : PS} {ags as' : List PV} {Q : PV -> Prop} (ok : OkQ P g as' Q) (hf : fzAs ags = some as') : OkI P g ags st (fun r' st' => Q r' /\ st' = st) := by
 refine ⟨ok.1, fun own S0 w0 w C vals R hn hr => ?_⟩
 obtain ⟨h4, h5⟩ := fzAs_get hf
 refine (ok.2 C.S w vals R.known R.stable (by omega) (fun i v q hv hq => ?_)).mono ?_
 ·have hi : i < ags.length := by rw [h4]; exact (List.getElem?_eq_some_iff.1 hq).1
  have hp := List.getElem?_eq_getElem hi
  exact fzA_rep (h5 i _ q hp hq) (hr i v _ hv hp)
 ·rintro e w' ⟨r, v, S', hq, rfl, hS, hst, hnew, hr', hbel⟩
  obtain ⟨R', X'⟩ := R.afterPure hS hst hnew hbel
  exact ⟨r, st, v, { C with S := S' }, ⟨hq, rfl⟩, rfl, R', X', RepA.up (C := { C with S := S' }) hr'⟩
end
end Go.Pw

end
section
namespace Go.Pw
open Go Go.RowKit
set_option linter.unusedVariables false
set_option linter.unusedSimpArgs false
def OkH (P : Program) (f : FuncId) (args : List PV) (Q : PV -> PS -> Prop) : Prop :=
 enters P f = true /\ ∀ (S : Cells) (w : World) (vals : Array Value), Known w -> Stable S w -> vals.size = args.length -> (∀ (i : Nat) (v : Value) (p : PV), vals[i]? = some v -> args[i]? = some p -> RepA S v p) ->
  Calls P f vals w fun e w' => ∃ r s v C, Q r s /\ e = .returned v /\ Rel Never ⟨S, C0 S, [], Never, Never⟩ w C (· < s.nx) (· < s.nt) s w' /\ RepV C s.toks (· < s.nx) (· < s.nt) v r
section
variable {P : Program}
theorem OkH.mono {f : FuncId} {args : List PV} {Q Q' : PV -> PS -> Prop} (h : OkH P f args Q) (k : ∀ r s, Q r s -> Q' r s) : OkH P f args Q' :=
 ⟨h.1, fun S w vals hk h1 h2 h3 => (h.2 S w vals hk h1 h2 h3).mono (by rintro e w' ⟨r, s, v, C, hq, h⟩; exact ⟨r, s, v, C, k _ _ hq, h⟩)⟩
end
mutual
def PV.sh (a b : Nat) : PV -> PV
 | .val v => .val v
 | .sl xs => .sl xs
 | .row k xs => .row (k + b) xs
 | .ptr i o => .ptr (i + a) o
 | .ms i lo n c => .ms (i + a) lo n c
 | .fp cs => .fp cs
 | .agg cs => .agg (PV.shL a b cs)
 | .tup cs => .tup (PV.shL a b cs)
 | .fn f cs => .fn f (PV.shL a b cs)
 | .bm f cs => .bm f (PV.shL a b cs)
 | .iface t p => .iface t (PV.sh a b p)
def PV.shL (a b : Nat) : List PV -> List PV
 | [] => []
 | p :: r => PV.sh a b p :: PV.shL a b r
end
def PObj.sh (a b : Nat) : PObj -> PObj
 | .box t cs => .box t (PV.shL a b cs)
 | .iter s pos => .iter s pos
def shH (a b : Nat) : List (Nat × PObj) -> List (Nat × PObj)
 | [] => []
 | e :: r => (e.1 + a, e.2.sh a b) :: shH a b r
def shK (b : Nat) : List (Nat × Tok) -> List (Nat × Tok)
 | [] => []
 | e :: r => (e.1 + b, e.2) :: shK b r
section
variable {P : Program}
end
mutual
def PV.rn (f : Nat -> Nat) (b : Nat) : PV -> PV
 | .val v => .val v
 | .sl xs => .sl xs
 | .row k xs => .row (k + b) xs
 | .ptr i o => .ptr (f i) o
 | .ms i lo n c => .ms (f i) lo n c
 | .fp cs => .fp cs
 | .agg cs => .agg (PV.rnL f b cs)
 | .tup cs => .tup (PV.rnL f b cs)
 | .fn g cs => .fn g (PV.rnL f b cs)
 | .bm g cs => .bm g (PV.rnL f b cs)
 | .iface t p => .iface t (PV.rn f b p)
def PV.rnL (f : Nat -> Nat) (b : Nat) : List PV -> List PV
 | [] => []
 | p :: r => PV.rn f b p :: PV.rnL f b r
end
def PObj.rn (f : Nat -> Nat) (b : Nat) : PObj -> PObj
 | .box t cs => .box t (PV.rnL f b cs)
 | .iter s pos => .iter s pos
def rnH (f : Nat -> Nat) (b : Nat) : List (Nat × PObj) -> List (Nat × PObj)
 | [] => []
 | e :: r => (f e.1, e.2.rn f b) :: rnH f b r
def rnF (l : List Nat) (nx : Nat) (i : Nat) : Nat := match l[i]? with
 | some j => j
 | none => i - l.length + nx
def inL (j : Nat) : List Nat -> Bool
 | [] => false
 | a :: r => j == a || inL j r
theorem inL_iff {j : Nat} : ∀ {l : List Nat}, inL j l = true ↔ j ∈ l
 | [] => by simp [inL]
 | a :: r => by simp [inL, inL_iff (l := r)]
def dropH (l : List Nat) : List (Nat × PObj) -> List (Nat × PObj)
 | [] => []
 | e :: r => if inL e.1 l = true then dropH l r else e :: dropH l r
theorem rnL_get {f : Nat -> Nat} {b : Nat} : ∀ {cs : List PV} (i : Nat), (PV.rnL f b cs)[i]? = (cs[i]?).map (PV.rn f b)
 | [], i => by simp [PV.rnL]
 | p :: r, 0 => by simp [PV.rnL]
 | p :: r, i + 1 => by simp [PV.rnL, rnL_get i]
theorem rnL_len {f : Nat -> Nat} {b : Nat} : ∀ {cs : List PV}, (PV.rnL f b cs).length = cs.length
 | [] => rfl
 | p :: r => by rw [PV.rnL, List.length_cons, rnL_len, List.length_cons]
theorem dropH_lkp (l : List Nat) : ∀ (H : List (Nat × PObj)) (j : Nat), lkp (dropH l H) j = if j ∈ l then none else lkp H j
 | [], j => by simp [dropH, lkp]
 |(k, o) :: r, j => by
  have ih := dropH_lkp l r j
  simp only [dropH]
  split
  ·rename_i hk
   rw [inL_iff] at hk
   rw [ih, lkp_cons]
   by_cases e : j = k
   ·subst e; rw [if_pos hk, if_pos hk]
   ·rw [if_neg e]
  ·rename_i hk
   rw [inL_iff] at hk
   rw [lkp_cons, lkp_cons, ih]
   by_cases e : j = k
   ·subst e; rw [if_pos rfl, if_neg hk, if_pos rfl]
   ·rw [if_neg e, if_neg e]
theorem RepV.rn {C C' : Cx} {T T' : List (Nat × Tok)} {U V U' V' : Nat -> Prop} {f : Nat -> Nat} {b : Nat} (hS : SLe C.S C'.S) (hU : ∀ i, U i -> C'.ρ (f i) = C.ρ i /\ U' (f i)) (hV : ∀ k, V k -> C'.τ (k + b) = C.τ k /\ V' (k + b) /\ ∀ t, lkp T' (k + b) = some t -> lkp T k = some t) {v : Value} {p : PV} (r : RepV C T U V v p) :
  RepV C' T' U' V' v (p.rn f b) := by
 induction r with
 | @frz v p h =>
  have := h.mono hS
  cases h with
  | val h => exact .frz this
  | sl => exact .frz this
 | row h hk ht =>
  obtain ⟨h1, h2, h3⟩ := hV _ hk
  refine .row (h.mono hS) h2 (fun t h' => ?_)
  obtain ⟨g1, g2, g3⟩ := ht t (h3 t h')
  exact ⟨g1, g2, fun e => by rw [h1]; exact g3 e⟩
 | @ptr id off h => rw [<- (hU _ h).1]; exact .ptr (hU _ h).2
 | @ms id lo n cap h hc => rw [<- (hU _ h).1]; exact .ms (hU _ h).2 hc
 | fp h => exact .fp (fun i p hp => by obtain ⟨u, h1, h2⟩ := h i p hp; exact ⟨u, hS _ _ _ h1, h2.mono hS⟩)
 | agg hs h h1 ih =>
  refine .agg (by rw [rnL_len]; exact hs) (fun i v p hv hp => ?_) h1
  rw [rnL_get] at hp
  obtain ⟨q, hq, rfl⟩ := Option.map_eq_some_iff.1 hp
  exact ih i v q hv hq
 | tup hs h ih =>
  refine .tup (by rw [rnL_len]; exact hs) (fun i v p hv hp => ?_)
  rw [rnL_get] at hp
  obtain ⟨q, hq, rfl⟩ := Option.map_eq_some_iff.1 hp
  exact ih i v q hv hq
 | fn hs h ih =>
  refine .fn (by rw [rnL_len]; exact hs) (fun i v p hv hp => ?_)
  rw [rnL_get] at hp
  obtain ⟨q, hq, rfl⟩ := Option.map_eq_some_iff.1 hp
  exact ih i v q hv hq
 | bm hs h ih =>
  refine .bm (by rw [rnL_len]; exact hs) (fun i v p hv hp => ?_)
  rw [rnL_get] at hp
  obtain ⟨q, hq, rfl⟩ := Option.map_eq_some_iff.1 hp
  exact ih i v q hv hq
 | iface h ih => exact .iface ih
section
variable {P : Program}
theorem RepV.back {C C0 : Cx} {T : List (Nat × Tok)} {U V : Nat -> Prop} {f : Nat -> Nat} {b m : Nat} (hS : SLe C.S C0.S) (hρ : ∀ i, i < m -> C0.ρ i = C.ρ (f i)) {v : Value} {q : PV} (r : RepV C T U V v q) :
  ∀ {p : PV}, p.rn f b = q -> p.lt m 0 = true -> RepV C0 [] (· < m) Never v p := by
 induction r with
 | @frz v q h =>
  intro p e hl
  cases p with
  | val u => simp only [PV.rn] at e; subst e; exact .frz (h.mono hS)
  | sl xs => simp only [PV.rn] at e; subst e; exact .frz (h.mono hS)
  | _ => simp only [PV.rn] at e; subst e; cases h
 | row h hk ht =>
  intro p e hl
  cases p with
  | row k xs => simp [PV.lt] at hl
  | _ => simp [PV.rn] at e
 | @ptr id off h =>
  intro p e hl
  cases p with
  | ptr i o =>
   simp only [PV.rn, PV.ptr.injEq] at e
   obtain ⟨e1, rfl⟩ := e
   have hi : i < m := by simpa [PV.lt] using hl
   rw [<- e1, <- hρ i hi]
   exact .ptr hi
  | _ => simp [PV.rn] at e
 | @ms id lo n cap h hc =>
  intro p e hl
  cases p with
  | ms i lo' n' cap' =>
   simp only [PV.rn, PV.ms.injEq] at e
   obtain ⟨e1, rfl, rfl, rfl⟩ := e
   have hi : i < m := by simpa [PV.lt] using hl
   rw [<- e1, <- hρ i hi]
   exact .ms hi hc
  | _ => simp [PV.rn] at e
 | fp h =>
  intro p e hl
  cases p with
  | fp cs => simp only [PV.rn, PV.fp.injEq] at e; subst e; exact .fp (fun i p hp => by obtain ⟨u, h1, h2⟩ := h i p hp; exact ⟨u, hS _ _ _ h1, h2.mono hS⟩)
  | _ => simp [PV.rn] at e
 | agg hs h h1 ih =>
  intro p e hl
  cases p with
  | agg cs =>
   simp only [PV.rn, PV.agg.injEq] at e
   subst e
   rw [rnL_len] at hs
   refine .agg hs (fun i v p hv hp => ?_) h1
   exact ih i v (p.rn f b) hv (by rw [rnL_get, hp]; rfl) rfl (ltL_get (by simpa [PV.lt] using hl) p (List.mem_of_getElem? hp))
  | _ => simp [PV.rn] at e
 | tup hs h ih =>
  intro p e hl
  cases p with
  | tup cs =>
   simp only [PV.rn, PV.tup.injEq] at e
   subst e
   rw [rnL_len] at hs
   exact .tup hs (fun i v p hv hp => ih i v (p.rn f b) hv (by rw [rnL_get, hp]; rfl) rfl (ltL_get (by simpa [PV.lt] using hl) p (List.mem_of_getElem? hp)))
  | _ => simp [PV.rn] at e
 | fn hs h ih =>
  intro p e hl
  cases p with
  | fn g cs =>
   simp only [PV.rn, PV.fn.injEq] at e
   obtain ⟨rfl, rfl⟩ := e
   rw [rnL_len] at hs
   exact .fn hs (fun i v p hv hp => ih i v (p.rn f b) hv (by rw [rnL_get, hp]; rfl) rfl (ltL_get (by simpa [PV.lt] using hl) p (List.mem_of_getElem? hp)))
  | _ => simp [PV.rn] at e
 | bm hs h ih =>
  intro p e hl
  cases p with
  | bm g cs =>
   simp only [PV.rn, PV.bm.injEq] at e
   obtain ⟨rfl, rfl⟩ := e
   rw [rnL_len] at hs
   exact .bm hs (fun i v p hv hp => ih i v (p.rn f b) hv (by rw [rnL_get, hp]; rfl) rfl (ltL_get (by simpa [PV.lt] using hl) p (List.mem_of_getElem? hp)))
  | _ => simp [PV.rn] at e
 | iface h ih =>
  intro p e hl
  cases p with
  | iface t p =>
   simp only [PV.rn, PV.iface.injEq] at e
   obtain ⟨rfl, e⟩ := e
   exact .iface (ih e (by simpa [PV.lt] using hl))
  | _ => simp [PV.rn] at e
end
def allL {α : Type} (F : α -> Prop) : List α -> Prop
 | [] => True
 | a :: r => F a /\ allL F r
def allI {α : Type} (F : Nat -> α -> Prop) : Nat -> List α -> Prop
 | _, [] => True
 | k, a :: r => F k a /\ allI F (k + 1) r
theorem allL_mem {α : Type} {F : α -> Prop} : ∀ {l : List α}, allL F l -> ∀ a ∈ l, F a
 | [], _, a, h => by cases h
 | b :: r, h, a, hm => by
  rcases List.mem_cons.1 hm with rfl | hm
  ·exact h.1
  ·exact allL_mem h.2 a hm
theorem allI_get {α : Type} {F : Nat -> α -> Prop} : ∀ {l : List α} {k : Nat}, allI F k l -> ∀ (i : Nat) (a : α), l[i]? = some a -> F (k + i) a
 | [], _, _, i, a, h => by simp at h
 | b :: r, k, h, 0, a, ha => by
  obtain rfl := Option.some.inj (by simpa using ha)
  exact h.1
 | b :: r, k, h, i + 1, a, ha => by
  have := allI_get h.2 i a (by simpa using ha)
  rw [show k + (i + 1) = k + 1 + i by omega]
  exact this
theorem bindO_mono {α : Type} {o : Option α} {F G : α -> Prop} (h : ∀ x, F x -> G x) (k : bindO o F) : bindO o G := by
 obtain ⟨x, hx, h1⟩ := bindO_elim k
 rw [hx]
 exact h x h1
theorem CallOk.mono {dr : Bool} {P : Program} {g : FuncId} {ags : List PV} {st : PS} {id tk : Nat} {K K' : PV -> PS -> Prop} (hk : ∀ p s, K p s -> K' p s) (h : CallOk dr P g ags st id tk K) : CallOk dr P g ags st id tk K' := by
 cases h with
 | pure as' r hf ok k => exact .pure as' r hf ok (hk _ _ k)
 | ext vs r ha hr ho k => exact .ext vs r ha hr ho (hk _ _ k)
 | own hdr Q ok k => exact .own hdr Q ok (fun r st' h => hk _ _ (k r st' h))
theorem stepN_mono {dr : Bool} {P : Program} {o : Oper} {st : PS} {id tk : Nat} {K K' : PS -> Prop} (hk : ∀ s, K s -> K' s) (h : stepN dr P o st id tk K) : stepN dr P o st id tk K' := by
 have plain : stepN0 P o st id tk K -> stepN0 P o st id tk K' := fun h => stepD_mono (fun d hd => hk _ hd) h
 unfold stepN at h ⊢
 split at h
 ·split at h
  ·refine bindO_mono (fun pf h => ?_) h
   split at h
   ·exact bindO_mono (fun ags h => CallOk.mono (fun p s h => hk _ h) h) h
   ·refine bindO_mono (fun ags h => ⟨h.1, ?_⟩) h
    cases h.2 with
    | mk Q ok k => exact .mk Q ok (fun r st' h => hk _ (k r st' h))
   ·exact h
  ·refine bindO_mono (fun pf h => ?_) h
   split at h
   ·refine bindO_mono (fun ags h => ⟨h.1, ?_⟩) h
    cases h.2 with
    | mk g δ Q hd ok k => exact .mk g δ Q hd ok (fun r st' h => hk _ (k r st' h))
   ·exact h
  ·exact plain h
 ·exact plain h
structure Row where
 b : Array Bool
 rd : List Nat
 m : Nat
theorem p_tableU {P : Program} {l0 : Nat × Nat} {st : PS} {Q : Exit -> PS -> Prop} {r n : Nat} {l : List Oper} (hn : l.length <= n) (tab : List Row) (ht : (tab.all fun e => decide (Region.ready .any l.toArray e.b = e.rd) && (e.m != 0 || e.rd.isEmpty)) = true)
  (D : Type) (I : Nat -> D -> PS) (inv : Nat -> D -> Prop) (d0 : D) (h0 : ((tab[0]?).any fun e => decide (e.b = Array.replicate l.length false) && decide (e.m <= l.length)) = true) (hi0 : inv 0 d0) (hw : Weak l0 st (I 0 d0))
  (step : allI (fun k e => ∀ d, inv k d -> (e.rd = [] -> Q .normal (I k d)) /\ allL (fun n => bindO (l[n]?) fun o => stepU P l.toArray o (I k d) fun s' => ∃ k' d', ((tab[k']?).any fun e' => decide (e'.m < e.m) && decide (e'.b = e.b.setIfInBounds n true)) = true /\ inv k' d' /\ Weak l0 s' (I k' d')) e.rd) 0 tab) :
  pwp P ⟨l0, oneBar r n⟩ (.region r l.toArray true) st Q := by
 refine p_expl hn ?_
 rw [List.all_eq_true] at ht
 obtain ⟨e0, he0, h0⟩ : ∃ e0, tab[0]? = some e0 /\ e0.b = Array.replicate l.length false /\ e0.m <= l.length := by
  cases h : tab[0]? with
  | none => rw [h] at h0; cases h0
  | some e =>
   rw [h] at h0
   simp only [Option.any_some, Bool.and_eq_true, decide_eq_true_eq] at h0
   exact ⟨e, rfl, h0⟩
 show expl P l.toArray l0 st (Q .normal)
 refine ⟨{ x : Nat × D // (∃ e, tab[x.1]? = some e) /\ inv x.1 x.2 }, fun x => I x.1.1 x.1.2, fun x => (tab[x.1.1]?.getD ⟨#[], [], 0⟩).b, fun x => (tab[x.1.1]?.getD ⟨#[], [], 0⟩).m, ⟨(0, d0), ⟨e0, he0⟩, hi0⟩, hw, by simp only [he0, Option.getD_some]; simpa using h0.1, by simp only [he0, Option.getD_some]; simpa using h0.2, ?_⟩
 rintro ⟨⟨k, d⟩, ⟨e, he⟩, hi⟩
 simp only at he hi
 have h1 := ht e (List.mem_of_getElem? he)
 simp only [Bool.and_eq_true, decide_eq_true_eq, Bool.or_eq_true, bne_iff_ne, ne_eq, List.isEmpty_iff] at h1
 have h2 := allI_get step k e he
 rw [Nat.zero_add] at h2
 obtain ⟨s1, s2⟩ := h2 d hi
 simp only [he, Option.getD_some, h1.1]
 refine ⟨s1, fun hm => h1.2.resolve_left (fun h => h hm), fun n hn => ?_⟩
 have h3 := bindO_elim (allL_mem s2 n hn)
 obtain ⟨o, ho, hd⟩ := h3
 rw [show l.toArray[n]? = l[n]? by simp, ho, bindO_some]
 have mono : ∀ {K K' : PS -> Prop}, (∀ s, K s -> K' s) -> stepU P l.toArray o (I k d) K -> stepU P l.toArray o (I k d) K' := fun {K K'} hK h => by
  rcases h with h | h
  rotate_left
  ·exact .inr ⟨h.1, fun own S0 w0 N a w X hf hs => Oper.wp_mono (fun a' w' ⟨st', hk, h2⟩ => ⟨st', hK _ hk, h2⟩) (h.2 own S0 w0 N a w X hf hs)⟩
  refine .inl ?_
  simp only [dopsS] at h ⊢
  cases hg : o.guard with
  | none => rw [hg] at h; exact stepN_mono (fun s hs => hK _ hs) h
  | some gb =>
   obtain ⟨g, b⟩ := gb
   rw [hg] at h
   simp only at h ⊢
   unfold guardK at h ⊢
   refine bindO_mono (fun d h => bindO_mono (fun p h => ?_) h) h
   split at h
   ·exact ⟨fun e => stepN_mono (fun s hs => hK _ hs) (h.1 e), fun e => hK _ (h.2 e)⟩
   ·exact ⟨fun e => stepN_mono (fun s hs => hK _ hs) (h.1 e), fun e => hK _ (h.2 e)⟩
   ·exact h
 refine mono ?_ hd
 rintro s' ⟨k', d', hk, hi', hw'⟩
 cases he' : tab[k']? with
 | none => rw [he'] at hk; cases hk
 | some e' =>
  rw [he'] at hk
  simp only [Option.any_some, Bool.and_eq_true, decide_eq_true_eq] at hk
  exact ⟨⟨(k', d'), ⟨e', he'⟩, hi'⟩, by simp only [he', Option.getD_some]; exact hk.1, by simp only [he', Option.getD_some]; exact hk.2, hw'⟩
end Go.Pw

end
section
namespace Go.Pw
open Go Go.RowKit
set_option linter.unusedVariables false
abbrev vI (n : Int) : PV := .val (.int .i64 n)
abbrev vC (n : Int) : PV := .val (.int .u8 n)
abbrev vB (b : Bool) : PV := .val (.bool b)
abbrev vS (s : ByteArray) : PV := .val (.string s)
abbrev vNil : PV := .val (.slice none 0 0)
def encI (l : List Int) : List (List PV) := l.map fun n => [.val (.int .i64 n)]
theorem encI_len (l : List Int) : (encI l).length = l.length := by simp [encI]
theorem encI_get (l : List Int) (i : Nat) : (encI l).getD i [] = if i < l.length then [vI (l.getD i 0)] else [] := by
 unfold encI
 by_cases h : i < l.length
 ·simp [h, List.getD_eq_getElem?_getD]
 ·rw [if_neg h, List.getD_eq_getElem?_getD, List.getElem?_eq_none (by simpa using h)]; rfl
theorem encI_take (l : List Int) (n : Nat) : (encI l).take n = encI (l.take n) := by simp [encI, List.map_take]
theorem encI_app (l m : List Int) : encI l ++ encI m = encI (l ++ m) := by simp [encI]
theorem encI_snoc (l : List Int) (f : Int) : encI l ++ [[.val (.int .i64 f)]] = encI (l ++ [f]) := by simp [encI]
theorem encI_one (f : Int) : [[PV.val (.int .i64 f)]] = encI [f] := by simp [encI]
theorem ix_enc {a : List Int} {i : Int} {K : PV -> Prop} (h0 : 0 <= i) (h1 : i < (a.length : Int)) : ixP 1 i K (.sl (encI a)) = K (.fp [vI (a.getD i.toNat 0)]) := by
 have h : i.toNat < a.length := by omega
 simp only [ixP, encI_get, if_pos h, encI_len, List.length_singleton, h0, h1, true_and]
def rowI (k : Nat) : List Int -> PV
 | [] => vNil
 | x :: r => .row k (encI (x :: r))
def tokI (k : Nat) (e : TypeId) : List Int -> List (Nat × Tok)
 | [] => []
 | x :: r => [(k, ⟨e, 1, (x :: r).length⟩)]
def encC (l : List Int) : List (List PV) := l.map fun n => [.val (.int .u8 n)]
theorem encC_len (l : List Int) : (encC l).length = l.length := by simp [encC]
theorem encC_snoc (l : List Int) (f : Int) : encC l ++ [[.val (.int .u8 f)]] = encC (l ++ [f]) := by simp [encC]
theorem encC_one (f : Int) : [[PV.val (.int .u8 f)]] = encC [f] := by simp [encC]
theorem encC_nums : ∀ l, numsOf (encC l) = some l
 | [] => rfl
 | n :: r => by
  have ih := encC_nums r
  unfold encC at ih ⊢
  rw [List.map_cons, numsOf, ih]
  rfl
def rowC (k : Nat) : List Int -> PV
 | [] => vNil
 | x :: r => .row k (encC (x :: r))
def tokC (k : Nat) (e : TypeId) : List Int -> List (Nat × Tok)
 | [] => []
 | x :: r => [(k, ⟨e, 1, (x :: r).length⟩)]
theorem rowC_lt (a k : Nat) (xs : List Int) : PV.lt a (k + 1) (rowC k xs) = true := by cases xs <;> simp [rowC, PV.lt]
theorem tokC_weak (k : Nat) (t : TypeId) (xs : List Int) : ∀ e ∈ tokC k t xs, lkp (tokC k t xs) e.1 = some e.2 /\ e.1 < k + 1 := by
 cases xs with
 | nil => intro e he; cases he
 | cons x r =>
  intro e he
  simp only [tokC, List.mem_singleton] at he
  subst he
  exact ⟨by simp [tokC, lkp], by simp only; omega⟩
theorem conv_rowC {P : Program} {src dst : TypeId} {k : Nat} {xs : List Int} {K : PV -> Prop} (hs : (P.underlying src).isSome = true) (hb : isBytes P src) (hd : P.underlying dst = some .string) : convK P src dst (rowC k xs) K = K (.val (.string (strOfNums xs))) := by
 unfold convK
 rw [hd]
 cases xs with
 | nil => exact propext ⟨fun h => h.2.2, fun h => ⟨hs, hb, h⟩⟩
 | cons x r =>
  simp only [rowC, encC_nums]
  exact propext ⟨fun h => h.2.2, fun h => ⟨hs, hb, h⟩⟩
theorem str_eq (a b : ByteArray) : (a.data.toList = b.data.toList) = (a = b) := by
 refine propext ⟨fun h => ?_, fun h => by rw [h]⟩
 cases a; cases b
 simp at h
 rw [h]
theorem encS_len (s : ByteArray) : (encS s).length = s.size := by simp [encS]
theorem encS_app (s t : ByteArray) : encS s ++ encS t = encS (s ++ t) := by simp [encS]
theorem app_sn {e : TypeId} {b tk : Nat} {st : PS} {K : Delta -> Prop} {t : ByteArray} (h0 : t.size ≠ 0) (hl : t.size * b <= 140737488355328) (hm : t.size <= 9223372036854775807) :
  appS e b st tk K (.val (.slice none 0 0)) (.val (.string t)) = K ⟨none, some (tk, ⟨e, 1, t.size⟩), some (.row tk (encS t))⟩ := by
 have hn := encS_len t
 unfold appS
 simp only
 generalize encS t = l at *
 cases l with
 | nil => exact absurd hn.symm h0
 | cons y r =>
  unfold appT
  simp only
  rw [hn]
  exact propext ⟨fun h => h.2.2, fun h => ⟨hl, hm, h⟩⟩
theorem app_sr {e : TypeId} {b tk k : Nat} {st : PS} {K : Delta -> Prop} {s t : ByteArray} (h0 : t.size ≠ 0) (hl : (s.size + t.size) * b <= 140737488355328) (hm : s.size + t.size <= 9223372036854775807) :
  appS e b st tk K (.row k (encS s)) (.val (.string t)) = bindO (lkp st.toks k) fun t' => t'.n = s.size /\ t'.e = e /\ t'.sz = 1 /\ K ⟨none, some (k, ⟨e, 1, s.size + t.size⟩), some (.row k (encS (s ++ t)))⟩ := by
 have hn := encS_len t
 have ha := encS_app s t
 unfold appS
 simp only
 generalize encS t = l at *
 cases l with
 | nil => exact absurd hn.symm h0
 | cons y r =>
  unfold appT
  simp only [encS_len, ha]
  rw [hn]
  congr 1
  funext t'
  exact propext ⟨fun ⟨a, b, c, _, _, h⟩ => ⟨a, b, c, h⟩, fun ⟨a, b, c, h⟩ => ⟨a, b, c, hl, hm, h⟩⟩
theorem ev_iface (st : PS) : st.ev (.const .nilIface) = some (.val .nilIface) := rfl
attribute [go_sem] frz_self frz1_self frzL_self frzO_self frzO_box frzO_iter frzL_cons frzL_nil frz_agg frz1_row frz1_nil frz1_val frz1_sl frz1_rr frz1_ptr frz1_ms frz_val frz_sl frz_row frz_ptr frz_ms frz_fp frz_tup frz_fn frz_bm PV.lt PV.ltL PObj.lt Nat.zero_le
attribute [go_sem ↓] p_region_t p_region_o ds_plain ds_guard ds_nil p_seq p_cond p_block p_scope p_label p_exit p_ret p_skip p_region p_region_b d_plain d_guard guardP_t guardP_f guardP_n ifK_true ifK_false d_nil s_move s_assign s_pick s_load s_build s_binOp s_unOp s_convert s_slice s_fieldAddr s_field s_indexAddr s_index s_extract s_makeFunc s_makeBm s_nilCheck s_len s_next nxtP s_max s_min s_append s_call s_invoke s_box s_store load_ load_ptr load_fp b_some i_int boolK_b lenP lenS ixP ixA ixS fldP slcP slcS bd_nn bd_sn bd_ns bd_ss appT and_dT app_sn app_sr fieldP_agg binK constO isNilK bopK unK convK max2K
attribute [go_sem] PV.rn PV.rnL PObj.rn rnH rnF dropH shK PV.sh PV.shL PObj.sh shH List.getElem?_nil inL
attribute [go_sem] outI enterPS enterEnv guardP_t guardP_f guardP_n ifK_true ifK_false boolK_b ifK_dT ifK_dF ifK_nT ifK_nF wrap64 rngP hold_eq evS_eq evN_eq evL_eq ev_tmp ev_int ev_bool ev_str ev_nil ev_iface ev_func lkp upd b_some i_int put_some kill_none kill_some List.getElem?_cons_zero List.getElem?_cons_succ Option.bind_some Option.map_some evAll evParts if_true if_false fillP tok_T tok_F toks_T toks_F ob_T ob_F obs_T obs_F srcXs fzLL valsOf Delta.apply mem_cons_ mem_nil_ Bool.or_false Bool.false_or Bool.or_self List.take_zero List.take_succ_cons List.drop_zero List.drop_succ_cons List.all_cons List.all_nil Bool.and_self Bool.and_true Bool.true_and or_true true_or PV.cells notTup Bool.false_eq_true Bool.not_true Bool.not_false false_implies forall_const true_and and_true Nat.zero_add List.cons_append List.nil_append List.append_nil List.length_cons List.length_nil outK resAll resOf fzAs fzA fzC fzCL fzL fz packR Option.map eq_self decide_true decide_false ne_eq not_true_eq_false not_false_eq_true Option.isSome_some Int.toNat_natCast encC_len encC_nums encC_snoc str_eq
end Go.Pw

end
section
namespace Go.Pw
open Go Go.RowKit
set_option linter.unusedVariables false
set_option linter.unusedSimpArgs false
mutual
def PV.rm (f g : Nat -> Nat) : PV -> PV
 | .val v => .val v
 | .sl xs => .sl xs
 | .row k xs => .row (g k) xs
 | .ptr i o => .ptr (f i) o
 | .ms i lo n c => .ms (f i) lo n c
 | .fp cs => .fp cs
 | .agg cs => .agg (PV.rmL f g cs)
 | .tup cs => .tup (PV.rmL f g cs)
 | .fn h cs => .fn h (PV.rmL f g cs)
 | .bm h cs => .bm h (PV.rmL f g cs)
 | .iface t p => .iface t (PV.rm f g p)
def PV.rmL (f g : Nat -> Nat) : List PV -> List PV
 | [] => []
 | p :: r => PV.rm f g p :: PV.rmL f g r
end
def PObj.rm (f g : Nat -> Nat) : PObj -> PObj
 | .box t cs => .box t (PV.rmL f g cs)
 | .iter s pos => .iter s pos
def rmH (f g : Nat -> Nat) : List (Nat × PObj) -> List (Nat × PObj)
 | [] => []
 | e :: r => (f e.1, e.2.rm f g) :: rmH f g r
def rmK (g : Nat -> Nat) : List (Nat × Tok) -> List (Nat × Tok)
 | [] => []
 | e :: r => (g e.1, e.2) :: rmK g r
def dropK (l : List Nat) : List (Nat × Tok) -> List (Nat × Tok)
 | [] => []
 | e :: r => if inL e.1 l = true then dropK l r else e :: dropK l r
theorem rmL_get {f g : Nat -> Nat} : ∀ {cs : List PV} (i : Nat), (PV.rmL f g cs)[i]? = (cs[i]?).map (PV.rm f g)
 | [], i => by simp [PV.rmL]
 | p :: r, 0 => by simp [PV.rmL]
 | p :: r, i + 1 => by simp [PV.rmL, rmL_get i]
theorem rmL_len {f g : Nat -> Nat} : ∀ {cs : List PV}, (PV.rmL f g cs).length = cs.length
 | [] => rfl
 | p :: r => by rw [PV.rmL, List.length_cons, rmL_len, List.length_cons]
theorem dropK_lkp (l : List Nat) : ∀ (H : List (Nat × Tok)) (j : Nat), lkp (dropK l H) j = if j ∈ l then none else lkp H j
 | [], j => by simp [dropK, lkp]
 |(k, o) :: r, j => by
  have ih := dropK_lkp l r j
  simp only [dropK]
  split
  ·rename_i hk
   rw [inL_iff] at hk
   rw [ih, lkp_cons]
   by_cases e : j = k
   ·subst e; rw [if_pos hk, if_pos hk]
   ·rw [if_neg e]
  ·rename_i hk
   rw [inL_iff] at hk
   rw [lkp_cons, lkp_cons, ih]
   by_cases e : j = k
   ·subst e; rw [if_pos rfl, if_neg hk, if_pos rfl]
   ·rw [if_neg e, if_neg e]
theorem rmH_lkp {f g : Nat -> Nat} (inj : ∀ i j, f i = f j -> i = j) (H : List (Nat × PObj)) : ∀ (l : List (Nat × PObj)) (i : Nat), lkp H (f i) = none -> lkp (rmH f g l ++ H) (f i) = (lkp l i).map (PObj.rm f g)
 | [], i, h => by simpa [rmH, lkp] using h
 |(k, o) :: r, i, h => by
  rw [rmH, List.cons_append, lkp_cons, lkp_cons, rmH_lkp inj H r i h]
  by_cases e : i = k
  ·subst e; rw [if_pos rfl, if_pos rfl]; rfl
  ·rw [if_neg e, if_neg (fun h => e (inj _ _ h))]
theorem rmH_out {f g : Nat -> Nat} (H : List (Nat × PObj)) (j : Nat) (hj : ∀ i, f i ≠ j) : ∀ (l : List (Nat × PObj)), lkp (rmH f g l ++ H) j = lkp H j
 | [] => rfl
 |(k, o) :: r => by rw [rmH, List.cons_append, lkp_cons, rmH_out H j hj r, if_neg (fun h => hj k h.symm)]
theorem rmK_lkp {g : Nat -> Nat} (inj : ∀ i j, g i = g j -> i = j) (H : List (Nat × Tok)) : ∀ (l : List (Nat × Tok)) (i : Nat), lkp H (g i) = none -> lkp (rmK g l ++ H) (g i) = lkp l i
 | [], i, h => by simpa [rmK, lkp] using h
 |(k, o) :: r, i, h => by
  rw [rmK, List.cons_append, lkp_cons, lkp_cons, rmK_lkp inj H r i h]
  by_cases e : i = k
  ·subst e; rw [if_pos rfl, if_pos rfl]
  ·rw [if_neg e, if_neg (fun h => e (inj _ _ h))]
theorem rmK_out {g : Nat -> Nat} (H : List (Nat × Tok)) (j : Nat) (hj : ∀ i, g i ≠ j) : ∀ (l : List (Nat × Tok)), lkp (rmK g l ++ H) j = lkp H j
 | [] => rfl
 |(k, o) :: r => by rw [rmK, List.cons_append, lkp_cons, rmK_out H j hj r, if_neg (fun h => hj k h.symm)]
theorem RepV.rm {C C' : Cx} {T T' : List (Nat × Tok)} {U V U' V' : Nat -> Prop} {f g : Nat -> Nat} (hS : SLe C.S C'.S) (hU : ∀ i, U i -> C'.ρ (f i) = C.ρ i /\ U' (f i)) (hV : ∀ k, V k -> C'.τ (g k) = C.τ k /\ V' (g k) /\ ∀ t, lkp T' (g k) = some t -> lkp T k = some t) {v : Value} {p : PV} (r : RepV C T U V v p) :
  RepV C' T' U' V' v (p.rm f g) := by
 induction r with
 | @frz v p h =>
  have := h.mono hS
  cases h with
  | val h => exact .frz this
  | sl => exact .frz this
 | row h hk ht =>
  obtain ⟨h1, h2, h3⟩ := hV _ hk
  refine .row (h.mono hS) h2 (fun t h' => ?_)
  obtain ⟨g1, g2, g3⟩ := ht t (h3 t h')
  exact ⟨g1, g2, fun e => by rw [h1]; exact g3 e⟩
 | @ptr id off h => rw [<- (hU _ h).1]; exact .ptr (hU _ h).2
 | @ms id lo n cap h hc => rw [<- (hU _ h).1]; exact .ms (hU _ h).2 hc
 | fp h => exact .fp (fun i p hp => by obtain ⟨u, h1, h2⟩ := h i p hp; exact ⟨u, hS _ _ _ h1, h2.mono hS⟩)
 | agg hs h h1 ih =>
  refine .agg (by rw [rmL_len]; exact hs) (fun i v p hv hp => ?_) h1
  rw [rmL_get] at hp
  obtain ⟨q, hq, rfl⟩ := Option.map_eq_some_iff.1 hp
  exact ih i v q hv hq
 | tup hs h ih =>
  refine .tup (by rw [rmL_len]; exact hs) (fun i v p hv hp => ?_)
  rw [rmL_get] at hp
  obtain ⟨q, hq, rfl⟩ := Option.map_eq_some_iff.1 hp
  exact ih i v q hv hq
 | fn hs h ih =>
  refine .fn (by rw [rmL_len]; exact hs) (fun i v p hv hp => ?_)
  rw [rmL_get] at hp
  obtain ⟨q, hq, rfl⟩ := Option.map_eq_some_iff.1 hp
  exact ih i v q hv hq
 | bm hs h ih =>
  refine .bm (by rw [rmL_len]; exact hs) (fun i v p hv hp => ?_)
  rw [rmL_get] at hp
  obtain ⟨q, hq, rfl⟩ := Option.map_eq_some_iff.1 hp
  exact ih i v q hv hq
 | iface h ih => exact .iface ih
mutual
theorem lt_low {a b a' b' : Nat} (ha : a <= a') (hb : b <= b') : ∀ (p : PV), p.lt a b = true -> p.lt a' b' = true
 | .val v, _ => rfl
 | .sl xs, _ => rfl
 | .row k xs, h => by simp only [PV.lt, decide_eq_true_eq] at h ⊢; omega
 | .ptr i o, h => by simp only [PV.lt, decide_eq_true_eq] at h ⊢; omega
 | .ms i lo n c, h => by simp only [PV.lt, decide_eq_true_eq] at h ⊢; omega
 | .fp cs, _ => rfl
 | .agg cs, h => by simp only [PV.lt] at h ⊢; exact ltL_low ha hb cs h
 | .tup cs, h => by simp only [PV.lt] at h ⊢; exact ltL_low ha hb cs h
 | .fn g cs, h => by simp only [PV.lt] at h ⊢; exact ltL_low ha hb cs h
 | .bm g cs, h => by simp only [PV.lt] at h ⊢; exact ltL_low ha hb cs h
 | .iface t p, h => by simp only [PV.lt] at h ⊢; exact lt_low ha hb p h
theorem ltL_low {a b a' b' : Nat} (ha : a <= a') (hb : b <= b') : ∀ (l : List PV), PV.ltL a b l = true -> PV.ltL a' b' l = true
 | [], _ => rfl
 | p :: r, h => by
  simp only [PV.ltL, Bool.and_eq_true] at h ⊢
  exact ⟨lt_low ha hb p h.1, ltL_low ha hb r h.2⟩
end
mutual
theorem rm_frz {f g : Nat -> Nat} : ∀ (p : PV), p.lt 0 0 = true -> p.rm f g = p
 | .val v, _ => rfl
 | .sl xs, _ => rfl
 | .row k xs, h => by simp [PV.lt] at h
 | .ptr i o, h => by simp [PV.lt] at h
 | .ms i lo n c, h => by simp [PV.lt] at h
 | .fp cs, _ => rfl
 | .agg cs, h => by simp only [PV.lt] at h; rw [PV.rm, rmL_frz cs h]
 | .tup cs, h => by simp only [PV.lt] at h; rw [PV.rm, rmL_frz cs h]
 | .fn h' cs, h => by simp only [PV.lt] at h; rw [PV.rm, rmL_frz cs h]
 | .bm h' cs, h => by simp only [PV.lt] at h; rw [PV.rm, rmL_frz cs h]
 | .iface t p, h => by simp only [PV.lt] at h; rw [PV.rm, rm_frz p h]
theorem rmL_frz {f g : Nat -> Nat} : ∀ (l : List PV), PV.ltL 0 0 l = true -> PV.rmL f g l = l
 | [], _ => rfl
 | p :: r, h => by
  simp only [PV.ltL, Bool.and_eq_true] at h
  rw [PV.rmL, rm_frz p h.1, rmL_frz r h.2]
end
theorem OkI.mono' {P : Program} {f : FuncId} {args : List PV} {st : PS} {Q Q' : PV -> PS -> Prop} (h : OkI P f args st Q) (k : ∀ r s, Q r s -> Q' r s) : OkI P f args st Q' :=
 ⟨h.1, fun own S0 w0 w C vals R hn hr => (h.2 own S0 w0 w C vals R hn hr).mono (by
  rintro e w' ⟨r, s, v, C', hq, rest⟩
  exact ⟨r, s, v, C', k r s hq, rest⟩)⟩
section
variable {P : Program}
theorem RepV.backT {C C0 : Cx} {T T0 : List (Nat × Tok)} {U V : Nat -> Prop} {f g : Nat -> Nat} {m mt : Nat} (hS : SLe C.S C0.S) (hρ : ∀ i, i < m -> C0.ρ i = C.ρ (f i)) (hτ : ∀ i, i < mt -> C0.τ i = C.τ (g i)) (hT : ∀ i t, lkp T0 i = some t -> lkp T (g i) = some t) {v : Value} {q : PV} (r : RepV C T U V v q) :
  ∀ {p : PV}, p.rm f g = q -> p.lt m mt = true -> RepV C0 T0 (· < m) (· < mt) v p := by
 induction r with
 | @frz v q h =>
  intro p e hl
  cases p with
  | val u => simp only [PV.rm] at e; subst e; exact .frz (h.mono hS)
  | sl xs => simp only [PV.rm] at e; subst e; exact .frz (h.mono hS)
  | _ => simp only [PV.rm] at e; subst e; cases h
 | @row v tok xs h hk ht =>
  intro p e hl
  cases p with
  | row k ys =>
   simp only [PV.rm, PV.row.injEq] at e
   obtain ⟨e1, rfl⟩ := e
   have hi : k < mt := by simpa [PV.lt] using hl
   refine .row (h.mono hS) hi (fun t h' => ?_)
   obtain ⟨g1, g2, g3⟩ := ht t (e1 ▸ hT k t h')
   exact ⟨g1, g2, fun e => by rw [hτ k hi, e1]; exact g3 e⟩
  | _ => simp [PV.rm] at e
 | @ptr id off h =>
  intro p e hl
  cases p with
  | ptr i o =>
   simp only [PV.rm, PV.ptr.injEq] at e
   obtain ⟨e1, rfl⟩ := e
   have hi : i < m := by simpa [PV.lt] using hl
   rw [<- e1, <- hρ i hi]
   exact .ptr hi
  | _ => simp [PV.rm] at e
 | @ms id lo n cap h hc =>
  intro p e hl
  cases p with
  | ms i lo' n' cap' =>
   simp only [PV.rm, PV.ms.injEq] at e
   obtain ⟨e1, rfl, rfl, rfl⟩ := e
   have hi : i < m := by simpa [PV.lt] using hl
   rw [<- e1, <- hρ i hi]
   exact .ms hi hc
  | _ => simp [PV.rm] at e
 | fp h =>
  intro p e hl
  cases p with
  | fp cs => simp only [PV.rm, PV.fp.injEq] at e; subst e; exact .fp (fun i p hp => by obtain ⟨u, h1, h2⟩ := h i p hp; exact ⟨u, hS _ _ _ h1, h2.mono hS⟩)
  | _ => simp [PV.rm] at e
 | agg hs h h1 ih =>
  intro p e hl
  cases p with
  | agg cs =>
   simp only [PV.rm, PV.agg.injEq] at e
   subst e
   rw [rmL_len] at hs
   refine .agg hs (fun i v p hv hp => ?_) h1
   exact ih i v (p.rm f g) hv (by rw [rmL_get, hp]; rfl) rfl (ltL_get (by simpa [PV.lt] using hl) p (List.mem_of_getElem? hp))
  | _ => simp [PV.rm] at e
 | tup hs h ih =>
  intro p e hl
  cases p with
  | tup cs =>
   simp only [PV.rm, PV.tup.injEq] at e
   subst e
   rw [rmL_len] at hs
   exact .tup hs (fun i v p hv hp => ih i v (p.rm f g) hv (by rw [rmL_get, hp]; rfl) rfl (ltL_get (by simpa [PV.lt] using hl) p (List.mem_of_getElem? hp)))
  | _ => simp [PV.rm] at e
 | fn hs h ih =>
  intro p e hl
  cases p with
  | fn h' cs =>
   simp only [PV.rm, PV.fn.injEq] at e
   obtain ⟨rfl, rfl⟩ := e
   rw [rmL_len] at hs
   exact .fn hs (fun i v p hv hp => ih i v (p.rm f g) hv (by rw [rmL_get, hp]; rfl) rfl (ltL_get (by simpa [PV.lt] using hl) p (List.mem_of_getElem? hp)))
  | _ => simp [PV.rm] at e
 | bm hs h ih =>
  intro p e hl
  cases p with
  | bm h' cs =>
   simp only [PV.rm, PV.bm.injEq] at e
   obtain ⟨rfl, rfl⟩ := e
   rw [rmL_len] at hs
   exact .bm hs (fun i v p hv hp => ih i v (p.rm f g) hv (by rw [rmL_get, hp]; rfl) rfl (ltL_get (by simpa [PV.lt] using hl) p (List.mem_of_getElem? hp)))
  | _ => simp [PV.rm] at e
 | iface h ih =>
  intro p e hl
  cases p with
  | iface t p =>
   simp only [PV.rm, PV.iface.injEq] at e
   obtain ⟨rfl, e⟩ := e
   exact .iface (ih e (by simpa [PV.lt] using hl))
  | _ => simp [PV.rm] at e
theorem rnF_low {l : List Nat} {nx : Nat} (hlt : ∀ j ∈ l, j < nx) : ∀ i, i < l.length -> rnF l nx i ∈ l /\ rnF l nx i < nx /\ l[i]? = some (rnF l nx i) := fun i hi => by
 have h1 : l[i]? = some (l[i]'(by omega)) := List.getElem?_eq_getElem (by omega)
 have : rnF l nx i = l[i]'(by omega) := by unfold rnF; rw [h1]
 rw [this]
 exact ⟨List.getElem_mem _, hlt _ (List.getElem_mem _), h1⟩
theorem rnF_high {l : List Nat} {nx : Nat} : ∀ i, l.length <= i -> rnF l nx i = i - l.length + nx := fun i hi => by
 have h1 : l[i]? = none := List.getElem?_eq_none (by omega)
 unfold rnF; rw [h1]
theorem rnF_inj {l : List Nat} {nx : Nat} (hnd : l.Nodup) (hlt : ∀ j ∈ l, j < nx) : ∀ i j, rnF l nx i = rnF l nx j -> i = j := fun i j e => by
 rcases Nat.lt_or_ge i l.length with h1 | h1 <;> rcases Nat.lt_or_ge j l.length with h2 | h2
 ·obtain ⟨_, _, g1⟩ := rnF_low hlt i h1
  obtain ⟨_, _, g2⟩ := rnF_low hlt j h2
  rw [<- e] at g2
  exact (List.getElem?_inj (show i < l.length by omega) hnd).1 (g1.trans g2.symm)
 ·have := (rnF_low hlt i h1).2.1; rw [e, rnF_high j h2] at this; omega
 ·have := (rnF_low hlt j h2).2.1; rw [<- e, rnF_high i h1] at this; omega
 ·rw [rnF_high i h1, rnF_high j h2] at e; omega
set_option maxHeartbeats 1000000 in
theorem OkI.frameT {g0 : FuncId} {st : PS} {h0 : List (Nat × PObj)} {t0 : List (Nat × Tok)} {as0 ags : List PV} {Q : PV -> PS -> Prop} (l lt : List Nat) (ok : OkI P g0 as0 ⟨[], h0, t0, l.length, lt.length⟩ Q) (hnd : l.Nodup) (hlt : ∀ j ∈ l, j < st.nx)
  (hndt : lt.Nodup) (hltt : ∀ j ∈ lt, j < st.nt)
  (hh : ∀ e ∈ h0, e.1 < l.length /\ e.2.lt l.length lt.length = true /\ lkp st.heap (rnF l st.nx e.1) = some (e.2.rm (rnF l st.nx) (rnF lt st.nt)))
  (ht : ∀ e ∈ t0, e.1 < lt.length /\ lkp st.toks (rnF lt st.nt e.1) = some e.2)
  (hal : PV.ltL l.length lt.length as0 = true) (ha : PV.rmL (rnF l st.nx) (rnF lt st.nt) as0 = ags) :
  OkI P g0 ags st (fun r st' => ∃ r0 s, Q r0 s /\ r = r0.rm (rnF l st.nx) (rnF lt st.nt) /\ st' = ⟨st.env, rmH (rnF l st.nx) (rnF lt st.nt) s.heap ++ dropH l st.heap, rmK (rnF lt st.nt) s.toks ++ dropK lt st.toks, s.nx - l.length + st.nx, s.nt - lt.length + st.nt⟩) := by
 subst ha
 have flow0 := rnF_low hlt
 have fhigh0 := rnF_high (l := l) (nx := st.nx)
 have inj0 := rnF_inj hnd hlt
 have glow0 := rnF_low hltt
 have ghigh0 := rnF_high (l := lt) (nx := st.nt)
 have ginj0 := rnF_inj hndt hltt
 obtain ⟨m, hm⟩ : ∃ m, m = l.length := ⟨_, rfl⟩
 obtain ⟨mt, hmt⟩ : ∃ m, m = lt.length := ⟨_, rfl⟩
 obtain ⟨f, hf⟩ : ∃ f, f = rnF l st.nx := ⟨_, rfl⟩
 obtain ⟨g, hg⟩ : ∃ g, g = rnF lt st.nt := ⟨_, rfl⟩
 rw [<- hf, <- hg] at hh ⊢
 rw [<- hg] at ht
 rw [<- hm, <- hmt] at ok hh hal ⊢
 rw [<- hmt] at ht
 rw [<- hf, <- hm] at flow0
 rw [<- hf] at inj0
 rw [<- hf, <- hm] at fhigh0
 rw [<- hg, <- hmt] at glow0
 rw [<- hg] at ginj0
 rw [<- hg, <- hmt] at ghigh0
 have flow := flow0
 have fhigh := fhigh0
 have inj := inj0
 have glow := glow0
 have ghigh := ghigh0
 have ginj := ginj0
 have hh' : ∀ i o, lkp h0 i = some o -> i < m /\ o.lt m mt = true /\ lkp st.heap (f i) = some (o.rm f g) := fun i o h => hh _ (lkp_mem h)
 have ht' : ∀ i t, lkp t0 i = some t -> i < mt /\ lkp st.toks (g i) = some t := fun i o h => ht _ (lkp_mem h)
 refine ⟨ok.1, fun own S0 w0 w C vals R hn hr => ?_⟩
 let own' : Nat -> Prop := fun b => (∃ i o, lkp h0 i = some o /\ b = C.ρ (f i)) ∨ (∃ k t, lkp t0 k = some t /\ b = (C.τ (g k)).1)
 let Ci : Cx := ⟨fun i => C.ρ (f i), fun k => C.τ (g k), C.S⟩
 have own'_ok : ∀ b, own' b -> b < w.heap.size /\ (own b ∨ w0.heap.size <= b) := by
  rintro b (⟨i, o, h, rfl⟩ | ⟨k, t, h, rfl⟩)
  ·exact ⟨(R.hown _ _ (hh' i o h).2.2).2.1, (R.hown _ _ (hh' i o h).2.2).2.2.1⟩
  ·obtain ⟨g1, g2, ⟨us, g3, g4⟩, _⟩ := R.tok _ _ (ht' k t h).2
   exact ⟨(Array.getElem?_eq_some_iff.1 g3).1, g2⟩
 have hs0 := R.frame.size
 have bk : ∀ {v : Value} {p : PV}, RepV C st.toks (· < st.nx) (· < st.nt) v (p.rm f g) -> p.lt m mt = true -> RepV Ci t0 (· < m) (· < mt) v p := fun r hl =>
  RepV.backT (C := C) (C0 := Ci) (f := f) (g := g) (m := m) (mt := mt) (SLe.refl _) (fun _ _ => rfl) (fun _ _ => rfl) (fun i t h => (ht' i t h).2) r rfl hl
 have Rin : Rel own' ⟨C.S, Ci, t0, (· < m), (· < mt)⟩ w Ci (· < m) (· < mt) ⟨[], h0, t0, m, mt⟩ w := by
  refine ⟨Frame.refl _ _, R.stable, ?_, ?_, ?_, ?_, ?_, ?_, ?_, fun b o v h => .inl h, SLe.refl _, Ext.refl _ _ _ _, ⟨R.known.2, R.known.1, ?_⟩⟩
  ·intro i T cs h
   obtain ⟨h1, h2, h3⟩ := hh' i _ h
   obtain ⟨us, g1, g2, g3⟩ := R.box _ T _ h3
   rw [rmL_len] at g2
   refine ⟨us, g1, g2, fun k v p hv hp => ?_⟩
   obtain ⟨g4, g5⟩ := g3 k v (p.rm f g) hv (by rw [rmL_get, hp]; rfl)
   exact ⟨g4, bk g5 (ltL_get h2 p (List.mem_of_getElem? hp))⟩
  ·intro i s pos h
   exact R.iter _ s pos (hh' i _ h).2.2
  ·intro i o h
   obtain ⟨h1, h2, h3⟩ := hh' i o h
   obtain ⟨g1, g2, g3, g4⟩ := R.hown _ _ h3
   exact ⟨h1, g2, .inl (.inl ⟨i, o, h, rfl⟩), g4⟩
  ·intro i j oi oj h1 h2 he
   exact inj i j (R.hinj _ _ _ _ (hh' i oi h1).2.2 (hh' j oj h2).2.2 he)
  ·intro k t h
   obtain ⟨h1, h2⟩ := ht' k t h
   obtain ⟨g1, g2, g3, g4⟩ := R.tok _ _ h2
   exact ⟨h1, .inl (.inr ⟨k, t, h, rfl⟩), g3, g4⟩
  ·intro i oi k t h1 h2
   exact R.tbox _ _ _ _ (hh' i oi h1).2.2 (ht' k t h2).2
  ·intro i j ti tj h1 h2 he
   exact ginj i j (R.tinj _ _ _ _ (ht' i ti h1).2 (ht' j tj h2).2 he)
  ·intro b hb ho
   obtain ⟨_, g3⟩ := own'_ok b ho
   rcases g3 with g3 | g3
   ·exact R.glob.own _ hb g3
   ·have := R.glob.size; omega
 refine (ok.2 own' ⟨C.S, Ci, t0, (· < m), (· < mt)⟩ w w Ci vals Rin (by rw [hn, rmL_len]) (fun i v p hv hp => ?_)).mono ?_
 ·exact bk (hr i v (p.rm f g) hv (by rw [rmL_get, hp]; rfl)) (ltL_get hal p (List.mem_of_getElem? hp))
 rintro e w' ⟨r0, s, v, C1, hq, rfl, R1, X1, hrep⟩
 have hms : m <= s.nx := by
  rcases Nat.eq_zero_or_pos m with h | h
  ·omega
  ·have : m - 1 < s.nx := X1.nx (m - 1) (by show m - 1 < m; omega)
   omega
 have hmst : mt <= s.nt := by
  rcases Nat.eq_zero_or_pos mt with h | h
  ·omega
  ·have : mt - 1 < s.nt := X1.nt (mt - 1) (by show mt - 1 < mt; omega)
   omega
 have ρ1 : ∀ i, i < m -> C1.ρ i = C.ρ (f i) := fun i hi => X1.ρ i hi
 have hH : ∀ j, st.nx <= j -> lkp st.heap j = none := fun j hj => by
  cases h : lkp st.heap j with
  | none => rfl
  | some o => have := (R.hown j o h).1; omega
 have hT : ∀ j, st.nt <= j -> lkp st.toks j = none := fun j hj => by
  cases h : lkp st.toks j with
  | none => rfl
  | some o => have := (R.tok j o h).1; omega
 have lDk := dropK_lkp lt st.toks
 have bel : ∀ k, k < w.heap.size -> ¬ own' k -> w'.heap[k]? = w.heap[k]? := fun k hk hn => R1.frame.block k hk hn
 have ltw : ∀ {b : Nat} {x : Obj}, w.heap[b]? = some x -> b < w.heap.size := fun h => (Array.getElem?_eq_some_iff.1 h).1
 have snone : ∀ b o, b < w.heap.size -> ¬ own' b -> C.S b o = none -> C1.S b o = none := fun b o hb hno h => by
  cases h' : C1.S b o with
  | none => rfl
  | some v =>
   rcases R1.snew b o v h' with h1 | h1 | h1
   ·replace h1 : C.S b o = some v := h1
    rw [h] at h1; cases h1
   ·exact absurd h1 hno
   ·omega
 have apart : ∀ j o, lkp st.heap j = some o -> j ∉ l -> ¬ own' (C.ρ j) := by
  rintro j o h hj (⟨i, o', h1, h2⟩ | ⟨k, t, h1, h2⟩)
  ·obtain ⟨g1, _, g3⟩ := hh' i o' h1
   have := R.hinj _ _ _ _ h g3 h2
   rw [this] at hj
   exact hj (flow i g1).1
  ·exact R.tbox _ _ _ _ h (ht' k t h1).2 h2
 have tokApart : ∀ k t, lkp st.toks k = some t -> k ∉ lt -> ¬ own' (C.τ k).1 := by
  rintro k t h hk (⟨i, o, h1, h2⟩ | ⟨k', t', h1, h2⟩)
  ·exact R.tbox _ _ k t (hh' i o h1).2.2 h h2.symm
  ·obtain ⟨g1, g3⟩ := ht' k' t' h1
   have := R.tinj _ _ _ _ h g3 h2
   rw [this] at hk
   exact hk (glow k' g1).1
 have placeB : ∀ i o, lkp s.heap i = some o -> own' (C1.ρ i) ∨ w.heap.size <= C1.ρ i := fun i o h => (R1.hown i o h).2.2.1
 have placeT : ∀ i t, lkp s.toks i = some t -> own' (C1.τ i).1 ∨ w.heap.size <= (C1.τ i).1 := fun i t h => (R1.tok i t h).2.1
 let C2 : Cx := ⟨fun j => if j ∈ l then C.ρ j else if j < st.nx then C.ρ j else C1.ρ (j - st.nx + m), fun j => if j ∈ lt then C1.τ (lt.idxOf j) else if j < st.nt then C.τ j else C1.τ (j - st.nt + mt), C1.S⟩
 have ρo : ∀ i, i < st.nx -> C2.ρ i = C.ρ i := fun i h => by
  show (if _ then _ else if _ then _ else _) = _
  by_cases hi : i ∈ l
  ·rw [if_pos hi]
  ·rw [if_neg hi, if_pos h]
 have ρf : ∀ i, C2.ρ (f i) = C1.ρ i := fun i => by
  rcases Nat.lt_or_ge i m with h | h
  ·rw [ρo _ (flow i h).2.1, ρ1 i h]
  ·rw [fhigh i h]
   show (if _ then _ else if _ then _ else _) = _
   rw [if_neg (fun hj => by have := hlt _ hj; omega), if_neg (by omega)]
   congr 1; omega
 have τo : ∀ i, i < st.nt -> i ∉ lt -> C2.τ i = C.τ i := fun i h hi => by
  show (if _ then _ else if _ then _ else _) = _
  rw [if_neg hi, if_pos h]
 have τg : ∀ i, C2.τ (g i) = C1.τ i := fun i => by
  rcases Nat.lt_or_ge i mt with h | h
  ·obtain ⟨g1, g2, g3⟩ := glow i h
   show (if _ then _ else if _ then _ else _) = _
   rw [if_pos g1]
   congr 1
   have h4 : lt[lt.idxOf (g i)]? = some (g i) := by
    rw [List.getElem?_eq_getElem (List.idxOf_lt_length_iff.2 g1), List.getElem_idxOf]
   exact (List.getElem?_inj (List.idxOf_lt_length_iff.2 g1) hndt).1 (h4.trans g3.symm)
  ·rw [ghigh i h]
   show (if _ then _ else if _ then _ else _) = _
   rw [if_neg (fun hj => by have := hltt _ hj; omega), if_neg (by omega)]
   congr 1; omega
 have fU : ∀ i, i < s.nx -> f i < s.nx - m + st.nx := fun i hi => by
  rcases Nat.lt_or_ge i m with h | h
  ·have := (flow i h).2.1; omega
  ·rw [fhigh i h]; omega
 have gU : ∀ i, i < s.nt -> g i < s.nt - mt + st.nt := fun i hi => by
  rcases Nat.lt_or_ge i mt with h | h
  ·have := (glow i h).2.1; omega
  ·rw [ghigh i h]; omega
 have lD := dropH_lkp l st.heap
 have split : ∀ j o, lkp (rmH f g s.heap ++ dropH l st.heap) j = some o -> (j < st.nx /\ j ∉ l /\ lkp st.heap j = some o /\ C2.ρ j = C.ρ j) ∨ (∃ i o', j = f i /\ lkp s.heap i = some o' /\ o = o'.rm f g /\ C2.ρ j = C1.ρ i) := fun j o h => by
  by_cases hj : ∃ i, f i = j
  ·obtain ⟨i, rfl⟩ := hj
   rw [rmH_lkp inj] at h
   ·obtain ⟨o', h1, rfl⟩ := Option.map_eq_some_iff.1 h
    exact .inr ⟨i, o', rfl, h1, rfl, ρf i⟩
   ·rw [lD]
    rcases Nat.lt_or_ge i m with hi | hi
    ·rw [if_pos (flow i hi).1]
    ·split
     ·rfl
     ·exact hH _ (by rw [fhigh i hi]; omega)
  ·rw [rmH_out _ j (fun i e => hj ⟨i, e⟩), lD] at h
   split at h
   ·cases h
   ·rename_i hjl
    have hjx : j < st.nx := (R.hown j o h).1
    exact .inl ⟨hjx, hjl, h, ρo j hjx⟩
 have splitT : ∀ j t, lkp (rmK g s.toks ++ dropK lt st.toks) j = some t -> (j < st.nt /\ j ∉ lt /\ lkp st.toks j = some t /\ C2.τ j = C.τ j) ∨ (∃ i, j = g i /\ lkp s.toks i = some t /\ C2.τ j = C1.τ i) := fun j t h => by
  by_cases hj : ∃ i, g i = j
  ·obtain ⟨i, rfl⟩ := hj
   rw [rmK_lkp ginj] at h
   ·exact .inr ⟨i, rfl, h, τg i⟩
   ·rw [lDk]
    rcases Nat.lt_or_ge i mt with hi | hi
    ·rw [if_pos (glow i hi).1]
    ·split
     ·rfl
     ·exact hT _ (by rw [ghigh i hi]; omega)
  ·rw [rmK_out _ j (fun i e => hj ⟨i, e⟩), lDk] at h
   split at h
   ·cases h
   ·rename_i hjl
    have hjx : j < st.nt := (R.tok j t h).1
    exact .inl ⟨hjx, hjl, h, τo j hjx hjl⟩
 have X : Ext C C2 st.toks (rmK g s.toks ++ dropK lt st.toks) (· < st.nx) (· < st.nt) (· < s.nx - m + st.nx) (· < s.nt - mt + st.nt) := by
  refine ⟨R1.sold, fun i hi => ρo i hi, fun k t hk h => ?_, fun i (hi : i < st.nx) => Nat.lt_of_lt_of_le hi (Nat.le_add_left _ _), fun i (hi : i < st.nt) => Nat.lt_of_lt_of_le hi (Nat.le_add_left _ _)⟩
  have hk' : k < st.nt := hk
  rcases splitT k t h with ⟨h1, h2, h3, h4⟩ | ⟨i, h1, h2, h3⟩
  ·exact ⟨t, h3, Nat.le_refl _, rfl, fun _ => h4⟩
  ·have hi : i < mt := by
    rcases Nat.lt_or_ge i mt with hi | hi
    ·exact hi
    ·rw [ghigh i hi] at h1; omega
   obtain ⟨t1, g1, g2, g3, g4⟩ := X1.tok i t hi h2
   exact ⟨t1, by rw [h1]; exact (ht' i t1 g1).2, g2, g3, fun e => by rw [h3, g4 e, h1]⟩
 have shV : ∀ {v : Value} {p : PV}, RepV C1 s.toks (· < s.nx) (· < s.nt) v p -> RepV C2 (rmK g s.toks ++ dropK lt st.toks) (· < s.nx - m + st.nx) (· < s.nt - mt + st.nt) v (p.rm f g) := fun r => by
  refine RepV.rm (C := C1) (C' := C2) (SLe.refl _) (fun i (hi : i < s.nx) => ⟨ρf i, fU i hi⟩) (fun k (hk : k < s.nt) => ⟨τg k, gU k hk, fun t h => ?_⟩) r
  rcases splitT _ t h with ⟨h1, h2, h3, h4⟩ | ⟨i, h1, h2, h3⟩
  ·exfalso
   rcases Nat.lt_or_ge k mt with hi | hi
   ·exact h2 (glow k hi).1
   ·rw [ghigh k hi] at h1; omega
  ·rw [ginj _ _ h1]; exact h2
 have far : ∀ b, own' b ∨ w.heap.size <= b -> own b ∨ w0.heap.size <= b := fun b h => by
  rcases h with h | h
  ·exact (own'_ok b h).2
  ·exact .inr (by omega)
 refine ⟨_, _, v, C2, ⟨r0, s, hq, rfl, rfl⟩, rfl, ⟨⟨R1.frame.os.trans R.frame.os, R1.frame.tape.trans R.frame.tape, R1.frame.output.trans R.frame.output, Nat.le_trans hs0 R1.frame.size, fun k hk hn => ?_⟩, R1.stable, ?_, ?_, ?_, ?_, ?_, ?_, ?_, ?_, fun b o v h => R1.sold b o v (R.sold b o v h), R.base.trans X, R.glob⟩, X, shV hrep⟩
 ·rw [bel k (by omega) (fun h => ?_)]
  ·exact R.frame.block k hk hn
  ·rcases (own'_ok k h).2 with h1 | h1
   ·exact hn h1
   ·omega
 ·intro j T cs h
  rcases split j _ h with ⟨h1, h2, h3, h4⟩ | ⟨i, o', h1, h2, h3, h4⟩
  ·obtain ⟨us, g1, g2, g3⟩ := R.box j T cs h3
   exact ⟨us, by rw [h4, bel _ (ltw g1) (apart j _ h3 h2)]; exact g1, g2, fun i v p hv hp => ⟨(g3 i v p hv hp).1, (g3 i v p hv hp).2.ext X⟩⟩
  ·cases o' with
   | iter s pos => cases h3
   | box T' cs' =>
    obtain ⟨rfl, rfl⟩ := PObj.box.inj h3
    obtain ⟨us, g1, g2, g3⟩ := R1.box _ T cs' h2
    refine ⟨us, by rw [h4]; exact g1, by rw [rmL_len]; exact g2, fun i v p hv hp => ?_⟩
    rw [rmL_get] at hp
    obtain ⟨q, hq, rfl⟩ := Option.map_eq_some_iff.1 hp
    exact ⟨(g3 i v q hv hq).1, shV (g3 i v q hv hq).2⟩
 ·intro j sx pos h
  rcases split j _ h with ⟨h1, h2, h3, h4⟩ | ⟨i, o', h1, h2, h3, h4⟩
  ·have g1 := R.iter j sx pos h3
   rw [h4, bel _ (ltw g1) (apart j _ h3 h2)]; exact g1
  ·cases o' with
   | box T' cs' => cases h3
   | iter s' pos' =>
    obtain ⟨rfl, rfl⟩ := PObj.iter.inj h3
    rw [h4]; exact R1.iter _ _ _ h2
 ·intro j o h
  rcases split j _ h with ⟨h1, h2, h3, h4⟩ | ⟨i, o', h1, h2, h3, h4⟩
  ·obtain ⟨g1, g2, g3, g4⟩ := R.hown j o h3
   exact ⟨by show j < s.nx - m + st.nx; omega, by rw [h4]; have := R1.frame.size; omega, by rw [h4]; exact g3, fun o' => by rw [h4]; exact snone _ o' g2 (apart j _ h3 h2) (g4 o')⟩
  ·obtain ⟨g1, g2, g3, g4⟩ := R1.hown _ o' h2
   exact ⟨by rw [h1]; exact fU i g1, by rw [h4]; exact g2, by rw [h4]; exact far _ (placeB i o' h2), fun o' => by rw [h4]; exact g4 o'⟩
 ·intro i j oi oj h1 h2 he
  rcases split i _ h1 with ⟨a1, a2, a3, a4⟩ | ⟨i', o1, a1, a2, a3, a4⟩ <;> rcases split j _ h2 with ⟨b1, b2, b3, b4⟩ | ⟨j', o2, b1, b2, b3, b4⟩
  ·rw [a4, b4] at he; exact R.hinj i j _ _ a3 b3 he
  ·rw [a4, b4] at he
   rcases placeB _ _ b2 with h | h
   ·rw [<- he] at h; exact absurd h (apart i _ a3 a2)
   ·have := (R.hown i _ a3).2.1; omega
  ·rw [a4, b4] at he
   rcases placeB _ _ a2 with h | h
   ·rw [he] at h; exact absurd h (apart j _ b3 b2)
   ·have := (R.hown j _ b3).2.1; omega
  ·rw [a4, b4] at he
   rw [a1, b1, R1.hinj _ _ _ _ a2 b2 he]
 ·intro k t h
  rcases splitT k t h with ⟨h1, h2, h3, h4⟩ | ⟨i, h1, h2, h3⟩
  ·obtain ⟨g1, g2, ⟨us, g3, g4⟩, g5, g6, g7⟩ := R.tok k t h3
   rw [h4]
   exact ⟨by show k < s.nt - mt + st.nt; omega, g2, ⟨us, by rw [bel _ (ltw g3) (tokApart k t h3 h2)]; exact g3, g4⟩, g5, g6, fun o ho => snone _ o (ltw g3) (tokApart k t h3 h2) (g7 o ho)⟩
  ·obtain ⟨g1, g2, g3, g5, g6, g7⟩ := R1.tok _ t h2
   rw [h3]
   exact ⟨by rw [h1]; exact gU i g1, far _ (placeT _ _ h2), g3, g5, g6, g7⟩
 ·intro i oi k t h1 h2
  rcases split i _ h1 with ⟨a1, a2, a3, a4⟩ | ⟨i', o1, a1, a2, a3, a4⟩ <;> rcases splitT k t h2 with ⟨b1, b2, b3, b4⟩ | ⟨k', b1, b2, b3⟩
  ·rw [a4, b4]; exact R.tbox i _ k t a3 b3
  ·rw [a4, b3]
   intro he
   rcases placeT _ _ b2 with h | h
   ·rw [<- he] at h; exact apart i _ a3 a2 h
   ·have := (R.hown i _ a3).2.1; omega
  ·rw [a4, b4]
   intro he
   obtain ⟨_, _, ⟨us, g3, _⟩, _⟩ := R.tok k t b3
   rcases placeB _ _ a2 with h | h
   ·rw [he] at h; exact tokApart k t b3 b2 h
   ·have := ltw g3; omega
  ·rw [a4, b3]; exact R1.tbox _ _ _ t a2 b2
 ·intro i j ti tj h1 h2 he
  rcases splitT i _ h1 with ⟨a1, a2, a3, a4⟩ | ⟨i', a1, a2, a3⟩ <;> rcases splitT j _ h2 with ⟨b1, b2, b3, b4⟩ | ⟨j', b1, b2, b3⟩
  ·rw [a4, b4] at he; exact R.tinj i j _ _ a3 b3 he
  ·rw [a4, b3] at he
   obtain ⟨_, _, ⟨us, g3, _⟩, _⟩ := R.tok i _ a3
   rcases placeT _ _ b2 with h | h
   ·rw [<- he] at h; exact absurd h (tokApart i _ a3 a2)
   ·have := ltw g3; omega
  ·rw [a3, b4] at he
   obtain ⟨_, _, ⟨us, g3, _⟩, _⟩ := R.tok j _ b3
   rcases placeT _ _ a2 with h | h
   ·rw [he] at h; exact absurd h (tokApart j _ b3 b2)
   ·have := ltw g3; omega
  ·rw [a3, b3] at he
   have := R1.tinj _ _ _ _ a2 b2 he
   rw [a1, b1, this]
 ·intro b o u h
  rcases R1.snew b o u h with h1 | h1
  ·exact R.snew b o u h1
  ·exact .inr (far b h1)
def frR (p : PV) : PV := (fzA p).getD p
theorem frR_rep {C : Cx} {T : List (Nat × Tok)} {U V : Nat -> Prop} {v : Value} {p : PV} (r : RepV C T U V v p) : RepV C T U V v (frR p) := by
 unfold frR
 cases h : fzA p with
 | none => exact r
 | some q => exact (fzA_rep h r).up
def outF (P : Program) (fn : Func) (L : Nat × Nat) (Q : PV -> PS -> Prop) : Exit -> PS -> Prop
 | .normal, st => bindO (resAll P st fn.results.toList) fun l => ∃ st', Q (packR (l.map frR)) st' /\ Weak L { st with env := [(0, packR (l.map frR))] } { st' with env := [(0, packR (l.map frR))] }
 | .ret, st => bindO (resAll P st fn.results.toList) fun l => ∃ st', Q (packR (l.map frR)) st' /\ Weak L { st with env := [(0, packR (l.map frR))] } { st' with env := [(0, packR (l.map frR))] }
 | _, _ => False
theorem OkI.of_pwpF (hm : P.follows .mixedOrders = true) {f : FuncId} {fn : Func} {c : Code} {args : List PV} {st : PS} {Q : PV -> PS -> Prop} (hf : P.funcs[f]? = some fn) (hb : fn.body = some c) (hent : enters P f = true)
  {bar : Nat -> Option Nat} (hfit : fitsC bar (args.length + (fn.ntmps - args.length)) c = true) (h : pwp P ⟨(st.nx, st.nt), bar⟩ c { st with env := enterEnv 0 args } (outF P fn (st.nx, st.nt) Q)) : OkI P f args st Q := by
 refine ⟨hent, fun own S0 w0 w C vals R hsz hrep => ?_⟩
 refine calls_of_wp hf hb ?_
 have hst : Stt own ⟨S0.S, C, st.toks, (· < st.nx), (· < st.nt)⟩ w0 (args.length + (fn.ntmps - args.length)) { st with env := enterEnv 0 args } { tmps := vals ++ Array.replicate (fn.ntmps - vals.size) undef, defers := [] } w := by
  refine ⟨rfl, by simp [hsz], C, ⟨R.frame, R.stable, R.box, R.iter, R.hown, R.hinj, R.tok, R.tbox, R.tinj, R.snew, R.sold, Ext.refl _ _ _ _, R.glob⟩, ?_⟩
  intro t p h
  obtain ⟨_, h2⟩ := enterEnv_lkp args 0 t p h
  rw [Nat.sub_zero] at h2
  have ht : t < vals.size := by rw [hsz]; exact (List.getElem?_eq_some_iff.1 h2).1
  have hv : vals[t]? = some vals[t] := Array.getElem?_eq_getElem ht
  refine ⟨vals[t], ?_, hrep t _ p hv h2⟩
  show (vals ++ Array.replicate _ undef)[t]? = _
  rw [Array.getElem?_append_left ht]
  exact hv
 refine wp_mono (pwp_sound hm ⟨fun _ h => h, fun _ h => h⟩ c _ _ _ w hfit h hst) ?_
 have fin : ∀ (s : PS) (a' : Act) (w' : World), Stt own ⟨S0.S, C, st.toks, (· < st.nx), (· < st.nt)⟩ w0 (args.length + (fn.ntmps - args.length)) s a' w' ->
   (bindO (resAll P s fn.results.toList) fun l => ∃ st', Q (packR (l.map frR)) st' /\ Weak (st.nx, st.nt) { s with env := [(0, packR (l.map frR))] } { st' with env := [(0, packR (l.map frR))] }) ->
   a'.defers = [] /\ ∃ v, (results fn a'.tmps).run P w' = .ok v w' /\ ∃ r st' v' C', Q r st' /\ Ending.returned v = Ending.returned v' /\ Rel own S0 w0 C' (· < st'.nx) (· < st'.nt) st' w' /\
    Ext C C' st.toks st'.toks (· < st.nx) (· < st.nt) (· < st'.nx) (· < st'.nt) /\ RepV C' st'.toks (· < st'.nx) (· < st'.nt) v' r := by
  intro s a' w' ⟨h1, h2, C1, R1, E1⟩ hk
  replace hk := bindO_elim hk
  obtain ⟨l, hl, st', hQ, hw⟩ := hk
  obtain ⟨vs, g1, g2, g3⟩ := resAll_sound (P := P) R1 E1 _ _ hl
  have hrun : (results fn a'.tmps).run P w' = .ok (if h : vs.toArray.size = 1 then vs.toArray[0] else .tuple vs.toArray) w' := by
   rw [results_eq, Array.mapM_eq_mapM_toList, Sem.run_bind, Sem.run_map, g1]
   rfl
  have hrep := packR_rep (vs := vs) (l := l.map frR) (by rw [List.length_map]; exact g2) (fun i v p hv hp => by
   rw [List.getElem?_map] at hp
   obtain ⟨q, hq, rfl⟩ := Option.map_eq_some_iff.1 hp
   exact frR_rep (g3 i v q hv hq))
  generalize (if h : vs.toArray.size = 1 then vs.toArray[0] else .tuple vs.toArray) = v at hrun hrep
  have hs1 : Stt own ⟨S0.S, C, st.toks, (· < st.nx), (· < st.nt)⟩ w0 1 { s with env := [(0, packR (l.map frR))] } { tmps := #[v], defers := [] } w' := by
   refine ⟨rfl, rfl, C1, R1.env_ _, ?_⟩
   intro t p h
   simp only [lkp] at h
   split at h
   ·rename_i e
    subst e
    obtain rfl := Option.some.inj h
    exact ⟨v, rfl, hrep⟩
   ·cases h
  obtain ⟨_, _, C2, R2, E2⟩ := hs1.weak ⟨fun _ h => h, fun _ h => h⟩ hw
  obtain ⟨u, hu, hr⟩ := E2 0 (packR (l.map frR)) (by simp [lkp])
  have hu' : u = v := by simpa using hu.symm
  subst hu'
  refine ⟨h1, u, hrun, packR (l.map frR), st', u, C2, hQ, rfl, ?_, R2.base, hr⟩
  have R3 := R2.env_ st'.env
  exact ⟨R3.frame, R3.stable, R3.box, R3.iter, R3.hown, R3.hinj, R3.tok, R3.tbox, R3.tinj, R3.snew, R3.sold, R.base.trans R2.base, R.glob⟩
 rintro e a' w' ⟨s, hq, hs⟩
 cases e with
 | normal => exact fin s a' w' hs hq
 | ret => exact fin s a' w' hs hq
 | _ => exact hq.elim
end
section
variable {P : Program} {own : Nat -> Prop} {S0 : Base} {w0 w : World} {C : Cx} {U V : Nat -> Prop} {st : PS}
mutual
def PV.pf (i : Nat) (ds : List PV) : PV -> PV
 | .val v => .val v
 | .sl xs => .sl xs
 | .row k xs => .row k xs
 | .ptr j o => if j = i then .fp (ds.drop o) else .ptr j o
 | .ms i lo n c => .ms i lo n c
 | .fp cs => .fp cs
 | .agg cs => .agg (PV.pfL i ds cs)
 | .tup cs => .tup (PV.pfL i ds cs)
 | .fn h cs => .fn h (PV.pfL i ds cs)
 | .bm h cs => .bm h (PV.pfL i ds cs)
 | .iface t p => .iface t (PV.pf i ds p)
def PV.pfL (i : Nat) (ds : List PV) : List PV -> List PV
 | [] => []
 | p :: r => PV.pf i ds p :: PV.pfL i ds r
end
end
def bar2 (r k : Nat) (b : Nat -> Option Nat) : Nat -> Option Nat := fun i => if i = r then some k else b i
section
variable {P : Program} {l0 : Nat × Nat} {st : PS} {Q : Exit -> PS -> Prop}
theorem p_skip_bar {id r k : Nat} {b : Nat -> Option Nat} {ops : Array Oper} {dr : Bool} (h : id ≠ r) : pwp P ⟨l0, bar2 r k b⟩ (.region id ops dr) st Q = pwp P ⟨l0, b⟩ (.region id ops dr) st Q := by
 have : bar2 r k b id = b id := if_neg h
 cases dr <;> simp only [pwp, this]
theorem p_tab2 {r k : Nat} {b : Nat -> Option Nat} {l : List Oper} (hk : l.length <= k) (h : pwp P ⟨l0, oneBar r k⟩ (.region r l.toArray true) st Q) : pwp P ⟨l0, bar2 r k b⟩ (.region r l.toArray true) st Q := by
 have h1 : bar2 r k b r = some k := if_pos rfl
 have h2 : oneBar r k r = some k := if_pos rfl
 simp only [pwp, h1, h2] at h ⊢
 exact h
end
attribute [go_sem ↓] p_skip_bar
attribute [go_sem] PV.pf PV.pfL frR outF Option.getD_some Option.getD_none List.map_cons List.map_nil
attribute [go_sem] PV.rm PV.rmL PObj.rm rmH rmK dropK
end Go.Pw

end
section
namespace Go.Pw
open Go Go.RowKit
set_option linter.unusedVariables false
set_option linter.unusedSimpArgs false
section
variable {P : Program} {own : Nat -> Prop} {S0 : Base} {w0 w : World} {C : Cx} {U V : Nat -> Prop} {st : PS}
theorem flatP_get {sz : Nat} (h0 : 0 < sz) : ∀ {xs : List (List PV)}, (∀ x ∈ xs, x.length = sz) -> ∀ k, xs.flatten[k]? = (xs[k / sz]?).bind (·[k % sz]?)
 | [], _, k => by simp
 | x :: r, h, k => by
  have hx := h x (by simp)
  rw [List.flatten_cons]
  by_cases hk : k < sz
  ·rw [List.getElem?_append_left (by omega), Nat.div_eq_of_lt hk, Nat.mod_eq_of_lt hk]; rfl
  ·rw [List.getElem?_append_right (by omega), flatP_get h0 (fun y hy => h y (by simp [hy])) (k - x.length), hx]
   have h1 : k / sz = (k - sz) / sz + 1 := by rw [<- Nat.sub_add_cancel (show sz <= k by omega)]; simp [Nat.add_div_right _ h0]
   have h2 : k % sz = (k - sz) % sz := by rw [Nat.mod_eq_sub_mod (by omega)]
   rw [h1, h2, List.getElem?_cons_succ]
theorem flatP_len {sz : Nat} : ∀ {xs : List (List PV)}, (∀ x ∈ xs, x.length = sz) -> xs.flatten.length = xs.length * sz
 | [], _ => by simp
 | x :: r, h => by rw [List.flatten_cons, List.length_append, h x (by simp), flatP_len (fun y hy => h y (by simp [hy])), List.length_cons, Nat.succ_mul]; omega
theorem Rel.drop1 (R : Rel own S0 w0 C U V st w) (l : List Nat) : Rel own S0 w0 C U V { st with heap := dropH l st.heap } w := by
 have hd : ∀ j o, lkp (dropH l st.heap) j = some o -> lkp st.heap j = some o := fun j o h => by
  rw [dropH_lkp] at h
  split at h
  ·cases h
  ·exact h
 exact ⟨R.frame, R.stable, fun i T cs h => R.box i T cs (hd _ _ h), fun i s pos h => R.iter i s pos (hd _ _ h), fun i o h => R.hown i o (hd _ _ h), fun i j oi oj h1 h2 => R.hinj i j oi oj (hd _ _ h1) (hd _ _ h2), R.tok, fun i oi k t h1 h2 => R.tbox i oi k t (hd _ _ h1) h2, R.tinj, R.snew, R.sold, R.base, R.glob⟩
theorem Rel.moveObj (R : Rel own S0 w0 C U V st w) {id nid : Nat} {ob : PObj} (ho : lkp st.heap id = some ob) (hid : ¬ U nid) {U' : Nat -> Prop} (hU : ∀ i, U i -> U' i) (hU' : U' nid) (nx' : Nat) :
  Rel own S0 w0 (C.at nid (C.ρ id)) U' V { st with heap := (nid, ob) :: dropH [id] st.heap, nx := nx' } w := by
 have E := R.ext_at (C.ρ id) nid hid hU
 have hne : ∀ j o, lkp st.heap j = some o -> j ≠ nid := fun j o h e => hid (e ▸ (R.hown j o h).1)
 have hρ : ∀ j o, lkp st.heap j = some o -> (C.at nid (C.ρ id)).ρ j = C.ρ j := fun j o h => by simp [Cx.at, hne j o h]
 have hnew : (C.at nid (C.ρ id)).ρ nid = C.ρ id := by simp [Cx.at]
 have hd : ∀ j o, lkp ((nid, ob) :: dropH [id] st.heap) j = some o -> (j = nid /\ o = ob) ∨ (j ≠ nid /\ j ≠ id /\ lkp st.heap j = some o) := fun j o h => by
  rw [lkp_cons] at h
  split at h
  ·exact .inl ⟨by assumption, (Option.some.inj h).symm⟩
  ·rename_i hn
   rw [dropH_lkp] at h
   split at h
   ·cases h
   ·rename_i hm; exact .inr ⟨hn, by simpa using hm, h⟩
 refine ⟨R.frame, R.stable, ?_, ?_, ?_, ?_, ?_, ?_, R.tinj, R.snew, R.sold, R.base.trans E, R.glob⟩
 ·intro j T cs h
  rcases hd j _ h with ⟨rfl, rfl⟩ | ⟨h1, h2, h3⟩
  ·obtain ⟨us, g1, g2, g3⟩ := R.box id T cs ho
   exact ⟨us, by rw [hnew]; exact g1, g2, fun i v p hv hp => ⟨(g3 i v p hv hp).1, (g3 i v p hv hp).2.ext E⟩⟩
  ·obtain ⟨us, g1, g2, g3⟩ := R.box j T cs h3
   exact ⟨us, by rw [hρ j _ h3]; exact g1, g2, fun i v p hv hp => ⟨(g3 i v p hv hp).1, (g3 i v p hv hp).2.ext E⟩⟩
 ·intro j s pos h
  rcases hd j _ h with ⟨rfl, rfl⟩ | ⟨h1, h2, h3⟩
  ·rw [hnew]; exact R.iter id s pos ho
  ·rw [hρ j _ h3]; exact R.iter j s pos h3
 ·intro j o h
  rcases hd j _ h with ⟨rfl, rfl⟩ | ⟨h1, h2, h3⟩
  ·rw [hnew]; exact ⟨hU', (R.hown id _ ho).2⟩
  ·rw [hρ j _ h3]; exact ⟨hU _ (R.hown j _ h3).1, (R.hown j _ h3).2⟩
 ·intro i j oi oj h1 h2 he
  rcases hd i _ h1 with ⟨rfl, rfl⟩ | ⟨a1, a2, a3⟩ <;> rcases hd j _ h2 with ⟨rfl, rfl⟩ | ⟨b1, b2, b3⟩
  ·rfl
  ·rw [hnew, hρ j _ b3] at he
   exact absurd (R.hinj _ _ _ _ ho b3 he).symm b2
  ·rw [hnew, hρ i _ a3] at he
   exact absurd (R.hinj _ _ _ _ a3 ho he) a2
  ·rw [hρ i _ a3, hρ j _ b3] at he
   exact R.hinj _ _ _ _ a3 b3 he
 ·intro k t h
  exact R.tok k t h
 ·intro i oi k t h1 h2
  rcases hd i _ h1 with ⟨rfl, rfl⟩ | ⟨a1, a2, a3⟩
  ·rw [hnew]; exact R.tbox _ _ _ _ ho h2
  ·rw [hρ i _ a3]; exact R.tbox _ _ _ _ a3 h2
theorem ltL_drop' {a b : Nat} : ∀ {n : Nat} {l : List PV}, PV.ltL a b l = true -> PV.ltL a b (l.drop n) = true
 | 0, l, h => h
 | n + 1, [], _ => rfl
 | n + 1, p :: r, h => by
  simp only [PV.ltL, Bool.and_eq_true, List.drop_succ_cons] at h ⊢
  exact ltL_drop' h.2
theorem ltL_vals (a b : Nat) : ∀ (l : List Value), PV.ltL a b (l.map .val) = true
 | [] => rfl
 | v :: r => by simp only [List.map_cons, PV.ltL, PV.lt, Bool.true_and]; exact ltL_vals a b r
theorem zeros_rep {T : List (Nat × Tok)} {z : Value} {sz n : Nat} (hzs : z.cells.size = sz) (h0 : 0 < sz) (hz1 : ∀ u ∈ z.cells.toList, u.oneCell' = true) : RepL C T U V (Builtin.zeroCells z.cells n).toList ((Builtin.zeroCells z.cells n).toList.map .val) := by
 refine ⟨by simp, fun i v p hv hp => ?_⟩
 rw [List.getElem?_map, hv] at hp
 obtain rfl := Option.some.inj hp
 have h : (Builtin.zeroCells z.cells n)[i]? = some v := by simpa using hv
 have h1 : v.oneCell' = true := by
  unfold Builtin.zeroCells at h
  rw [Array.getElem?_map] at h
  obtain ⟨q, hq1, hq2⟩ := Option.map_eq_some_iff.1 h
  subst hq2
  have hlt : q % z.cells.size < z.cells.size := Nat.mod_lt _ (by omega)
  rw [getElem!_pos z.cells _ hlt]
  exact hz1 _ (by simp)
 exact ⟨h1, .frz (.val h1)⟩
theorem news_rep {T : List (Nat × Tok)} {sz : Nat} {ys : List (List PV)} {news : List Value} (h0 : 0 < sz) (hyl : ∀ y ∈ ys, y.length = sz) (hnl : news.length = ys.length * sz) (hn1 : ∀ u ∈ news, u.oneCell' = true)
  (hnr : ∀ (j i : Nat) (x : List PV) (p : PV), ys[j]? = some x -> x[i]? = some p -> ∃ u, news[j * sz + i]? = some u /\ RepF C.S u p) : RepL C T U V news ys.flatten := by
 refine ⟨by rw [hnl, flatP_len hyl], fun k v p hv hp => ⟨hn1 v (List.mem_of_getElem? hv), ?_⟩⟩
 rw [flatP_get h0 hyl] at hp
 cases hx : ys[k / sz]? with
 | none => rw [hx] at hp; cases hp
 | some x =>
  rw [hx] at hp
  obtain ⟨u, g1, g2⟩ := hnr _ _ x p hx hp
  have : k / sz * sz + k % sz = k := by rw [Nat.mul_comm]; exact Nat.div_add_mod k sz
  rw [this, hv] at g1
  obtain rfl := Option.some.inj g1
  exact .frz g2
theorem sem_append {d : Tmp} {ty t e : TypeId} {pos : String} {af : Array Edge} {x y : Operand} {sz by_ : Nat} {z : Value} (hu : P.underlying t = some (.slice e)) (hs : sizeOf? P e = some sz) (hb : bytesOf? P e = some by_) (hz : zeroOf? P e = some z) (hzs : z.cells.size = sz) (h0 : 0 < sz) (hz1 : ∀ u ∈ z.cells.toList, u.oneCell' = true)
  {id n cap : Nat} {cs : List PV} {sv : PV} {ys0 ys : List (List PV)} {K : PS -> Prop} (hx : st.ev x = some (.ms id 0 n cap)) (hbx : lkp st.heap id = some (.box e cs)) (hcl : cs.length = cap * sz) (hnc : n <= cap) (hcm : cap <= maxLen) (hsp : PV.ltL 0 0 (cs.drop (n * sz)) = true)
  (hy : st.ev y = some sv) (hys0 : srcXs st sz sv = some ys0) (hys : fzLL ys0 = some ys) (hyl : ∀ y ∈ ys, y.length = sz) (hne : ys ≠ []) (hb1 : (n + ys.length) * by_ <= 140737488355328) (hb2 : n + ys.length <= 9223372036854775807)
  (hk : ∀ cap' rest', n + ys.length <= cap' -> cap' <= maxLen -> rest'.length = (cap' - (n + ys.length)) * sz -> PV.ltL 0 0 rest' = true -> K ⟨(d, .ms st.nx 0 (n + ys.length) cap') :: st.env, (st.nx, .box e (cs.take (n * sz) ++ ys.flatten ++ rest')) :: dropH [id] st.heap, st.toks, st.nx + 1, st.nt⟩) :
  SemStep P ⟨some d, .call ⟨.builtin .append, #[x, y], #[t, t]⟩, ty, pos, af, none⟩ st K := by
 refine ⟨rfl, fun own S0 w0 N a w X hf ⟨hd, hsz, C, R, E⟩ => ?_⟩
 obtain ⟨i, hi, hi1, hi2, hi3⟩ := info_of hs hb hz
 obtain ⟨ev, hU, _⟩ := rep_ms (ev_rep E hx)
 obtain ⟨ad, cy, ey, news, hnl, hncell, hn1, hnr⟩ := src_sound E R hy hys0 hys hyl h0 hne
 have hpos : 0 < ys.length := List.length_pos_iff.2 hne
 obtain ⟨vs, hvs, hvsz, hvr⟩ := R.box id e cs hbx
 have hrun : ∀ v w', (Builtin.append_ #[t, t] ty #[a.eval x, a.eval y]).run P w = .ok v w' -> (execOp a.eval ⟨some d, .call ⟨.builtin .append, #[x, y], #[t, t]⟩, ty, pos, af, none⟩).run P w = .ok (.value v) w' := by
  intro v w' hv
  simp [execOp, resolve, invoke, builtin, hv]
 have hnew : ¬ (· < st.nx) st.nx := Nat.lt_irrefl _
 have hold : RepL C st.toks (· < st.nx) (· < st.nt) (vs.toList.take (n * sz)) (cs.take (n * sz)) := RepL.take ⟨by simpa using hvsz, fun i v p hv hp => hvr i v p (by simpa using hv) hp⟩ _
 have hfr := flatP_len hyl
 have hle : n * sz + ys.length * sz <= (n + ys.length) * sz := by rw [Nat.add_mul]; exact Nat.le_refl _
 have hncs : n * sz <= cs.length := by rw [hcl]; exact Nat.mul_le_mul_right _ hnc
 unfold Oper.wp
 by_cases hroom : n + ys.length <= cap
 ·have hfit : n * i.size + news.length <= vs.size := by rw [hnl, hvsz, hcl, hi1, <- Nat.add_mul]; exact Nat.mul_le_mul_right _ hroom
  have hrun1 := run_append_room (P := P) w t ty e i hu hi (C.ρ id) n cap vs hvs ad _ cy news (by rw [hi1]; exact hnl) hncell hn1 hroom hfit
  rw [hi1] at hrun1
  rw [hrun _ _ (by rw [ev, ey]; exact hrun1), Oper.upon_value]
  have hL : RepL C st.toks (· < st.nx) (· < st.nt) ((vs.toList.take (n * sz) ++ news ++ vs.toList.drop (n * sz + news.length)).toArray).toList (cs.take (n * sz) ++ ys.flatten ++ cs.drop ((n + ys.length) * sz)) := by
   rw [List.toList_toArray, hnl, <- Nat.add_mul]
   exact (hold.app (news_rep h0 hyl hnl hn1 hnr)).app (RepL.drop ⟨by simpa using hvsz, fun i v p hv hp => hvr i v p (by simpa using hv) hp⟩ _)
  have R1 := R.store hbx hL
  have R2 := R1.moveObj (id := id) (nid := st.nx) (ob := .box e (cs.take (n * sz) ++ ys.flatten ++ cs.drop ((n + ys.length) * sz))) (by rw [lkp_upd, if_pos rfl]) hnew (U' := (· < st.nx + 1)) (fun j hj => Nat.lt_succ_of_lt hj) (Nat.lt_succ_self _) (st.nx + 1)
  have R3 : Rel own S0 w0 (C.at st.nx (C.ρ id)) (· < st.nx + 1) (· < st.nt) ⟨st.env, (st.nx, .box e (cs.take (n * sz) ++ ys.flatten ++ cs.drop ((n + ys.length) * sz))) :: dropH [id] st.heap, st.toks, st.nx + 1, st.nt⟩ (w.setRow (C.ρ id) (vs.toList.take (n * sz) ++ news ++ vs.toList.drop (n * sz + news.length)).toArray) := by
   have hq : ∀ j, lkp ((st.nx, PObj.box e (cs.take (n * sz) ++ ys.flatten ++ cs.drop ((n + ys.length) * sz))) :: dropH [id] st.heap) j = lkp ((st.nx, PObj.box e (cs.take (n * sz) ++ ys.flatten ++ cs.drop ((n + ys.length) * sz))) :: dropH [id] (upd st.heap id (.box e (cs.take (n * sz) ++ ys.flatten ++ cs.drop ((n + ys.length) * sz))))) j := fun j => by
    simp only [lkp_cons, dropH_lkp, lkp_upd]
    split
    ·rfl
    ·by_cases hj : j ∈ [id]
     ·rw [if_pos hj, if_pos hj]
     ·rw [if_neg hj, if_neg hj, if_neg (by simpa using hj)]
   exact ⟨R2.frame, R2.stable, fun j T cs h => R2.box j T cs (by rw [<- h]; exact (hq j).symm), fun j s pos h => R2.iter j s pos (by rw [<- h]; exact (hq j).symm), fun j o h => R2.hown j o (by rw [<- h]; exact (hq j).symm), fun i j oi oj h1 h2 => R2.hinj i j oi oj (by rw [<- h1]; exact (hq i).symm) (by rw [<- h2]; exact (hq j).symm), R2.tok, fun i oi k t h1 h2 => R2.tbox i oi k t (by rw [<- h1]; exact (hq i).symm) h2, R2.tinj, R2.snew, R2.sold, R2.base, R2.glob⟩
  have X' := R.ext_at (C.ρ id) st.nx hnew (U' := (· < st.nx + 1)) (fun j hj => Nat.lt_succ_of_lt hj)
  refine ⟨_, hk cap (cs.drop ((n + ys.length) * sz)) hroom hcm (by rw [List.length_drop, hcl, <- Nat.sub_mul]) (by
   have : cs.drop ((n + ys.length) * sz) = (cs.drop (n * sz)).drop (ys.length * sz) := by rw [List.drop_drop, Nat.add_mul]
   rw [this]; exact ltL_drop' hsp), ?_⟩
  refine StN.of_put (d := some d) (st' := ⟨st.env, (st.nx, .box e (cs.take (n * sz) ++ ys.flatten ++ cs.drop ((n + ys.length) * sz))) :: dropH [id] st.heap, st.toks, st.nx + 1, st.nt⟩) hd hsz hf R3 (fun tt q hq => ?_) ?_
  ·obtain ⟨v, h1, h2⟩ := E tt q hq
   exact ⟨v, h1, h2.ext X'⟩
  ·have this : (C.at st.nx (C.ρ id)).ρ st.nx = C.ρ id := by simp [Cx.at]
   have h := RepV.ms (C := C.at st.nx (C.ρ id)) (T := st.toks) (U := (· < st.nx + 1)) (V := (· < st.nt)) (id := st.nx) (lo := 0) (Nat.lt_succ_self _) hroom
   rw [this] at h
   exact h
 ·have holdc : ∀ j v, (vs.toList.take (n * sz))[j]? = some v -> w.cell? ((⟨C.ρ id, 0, none⟩ : Addr).add j) = some v := by
   intro j v hj
   rw [Addr.add_lit, Nat.zero_add, cell_of_row w _ _ vs e (0, 0) hvs]
   rw [List.getElem?_take] at hj
   split at hj
   ·simpa using hj
   ·cases hj
  have hol : (vs.toList.take (n * sz)).length = n * sz := by rw [List.length_take]; simp only [Array.length_toList]; omega
  have hrun1 := run_append_grow (P := P) w t ty e i z hu hi hi3 ⟨C.ρ id, 0, none⟩ n cap (vs.toList.take (n * sz)) (by rw [hi1]; exact hol) holdc ad _ cy news (by rw [hi1]; exact hnl) hncell (by omega) (by omega) (growslice_fits (by omega) (by rw [hi2]; exact hb1))
  have hcapge : n + ys.length <= grownCap w (n + ys.length) cap e := grownCap_ge w _ cap e
  have hcapm : grownCap w (n + ys.length) cap e <= maxLen := grownCap_le_maxLen w _ cap e (by simpa [maxLen] using hb2)
  rw [hrun _ _ (by rw [ev, ey]; exact hrun1), Oper.upon_value]
  generalize grownCap w (n + ys.length) cap e = cap' at *
  have hL : RepL C st.toks (· < st.nx) (· < st.nt) ((vs.toList.take (n * sz)).toArray ++ news.toArray ++ Builtin.zeroCells z.cells (cap' - (n + ys.length))).toList (cs.take (n * sz) ++ ys.flatten ++ (Builtin.zeroCells z.cells (cap' - (n + ys.length))).toList.map .val) := by
   simp only [Array.toList_append, List.toList_toArray]
   exact (hold.app (news_rep h0 hyl hnl hn1 hnr)).app (zeros_rep hzs h0 hz1)
  have R1 := (R.drew.newObj (w := w.drew) st.nx hnew (U' := (· < st.nx + 1)) (fun j hj => Nat.lt_succ_of_lt hj) (Nat.lt_succ_self _) (.box e (cs.take (n * sz) ++ ys.flatten ++ (Builtin.zeroCells z.cells (cap' - (n + ys.length))).toList.map .val)) _ (fun T ds h => by
   obtain ⟨rfl, rfl⟩ := PObj.box.inj h
   exact ⟨_, rfl, hL⟩) (fun s pos h => by cases h) (st.nx + 1) st.nt).drop1 [id]
  have hne : ¬ inL st.nx [id] = true := by rw [inL_iff]; simp only [List.mem_singleton]; have : id < st.nx := hU; omega
  simp only [dropH, if_neg hne] at R1
  have X' := R.drew.ext_at w.drew.heap.size st.nx hnew (U' := (· < st.nx + 1)) (fun j hj => Nat.lt_succ_of_lt hj)
  refine ⟨_, hk cap' ((Builtin.zeroCells z.cells (cap' - (n + ys.length))).toList.map .val) hcapge hcapm (by simp [Builtin.zeroCells, hzs]) (ltL_vals 0 0 _), ?_⟩
  refine StN.of_put (d := some d) (st' := ⟨st.env, (st.nx, .box e (cs.take (n * sz) ++ ys.flatten ++ (Builtin.zeroCells z.cells (cap' - (n + ys.length))).toList.map .val)) :: dropH [id] st.heap, st.toks, st.nx + 1, st.nt⟩) hd hsz hf R1 (fun tt q hq => ?_) ?_
  ·obtain ⟨v, h1, h2⟩ := E tt q hq
   exact ⟨v, h1, h2.ext X'⟩
  ·have this : (C.at st.nx w.drew.heap.size).ρ st.nx = w.heap.size := by simp [Cx.at]
   have h := RepV.ms (C := C.at st.nx w.drew.heap.size) (T := st.toks) (U := (· < st.nx + 1)) (V := (· < st.nt)) (id := st.nx) (lo := 0) (Nat.lt_succ_self _) hcapge
   rw [this] at h
   exact h
theorem sem_append_nil {d : Tmp} {ty t e : TypeId} {pos : String} {af : Array Edge} {x y : Operand} {sz by_ : Nat} {z : Value} (hu : P.underlying t = some (.slice e)) (hs : sizeOf? P e = some sz) (hb : bytesOf? P e = some by_) (hz : zeroOf? P e = some z) (hzs : z.cells.size = sz) (h0 : 0 < sz) (hz1 : ∀ u ∈ z.cells.toList, u.oneCell' = true)
  {sv : PV} {ys0 ys : List (List PV)} {K : PS -> Prop} (hx : st.ev x = some (.val (.slice none 0 0)))
  (hy : st.ev y = some sv) (hys0 : srcXs st sz sv = some ys0) (hys : fzLL ys0 = some ys) (hyl : ∀ y ∈ ys, y.length = sz) (hne : ys ≠ []) (hb1 : ys.length * by_ <= 140737488355328) (hb2 : ys.length <= 9223372036854775807)
  (hk : ∀ cap' rest', ys.length <= cap' -> cap' <= maxLen -> rest'.length = (cap' - ys.length) * sz -> PV.ltL 0 0 rest' = true -> K ⟨(d, .ms st.nx 0 ys.length cap') :: st.env, (st.nx, .box e (ys.flatten ++ rest')) :: st.heap, st.toks, st.nx + 1, st.nt⟩) :
  SemStep P ⟨some d, .call ⟨.builtin .append, #[x, y], #[t, t]⟩, ty, pos, af, none⟩ st K := by
 refine ⟨rfl, fun own S0 w0 N a w X hf ⟨hd, hsz, C, R, E⟩ => ?_⟩
 obtain ⟨i, hi, hi1, hi2, hi3⟩ := info_of hs hb hz
 have ev : a.eval x = .slice none 0 0 := (rep_val (ev_rep E hx)).1
 obtain ⟨ad, cy, ey, news, hnl, hncell, hn1, hnr⟩ := src_sound E R hy hys0 hys hyl h0 hne
 have hpos : 0 < ys.length := List.length_pos_iff.2 hne
 have hrun : ∀ v w', (Builtin.append_ #[t, t] ty #[a.eval x, a.eval y]).run P w = .ok v w' -> (execOp a.eval ⟨some d, .call ⟨.builtin .append, #[x, y], #[t, t]⟩, ty, pos, af, none⟩).run P w = .ok (.value v) w' := by
  intro v w' hv
  simp [execOp, resolve, invoke, builtin, hv]
 have hnew : ¬ (· < st.nx) st.nx := Nat.lt_irrefl _
 unfold Oper.wp
 have hrun1 := run_append_nil (P := P) w t ty e i z hu hi hi3 ad _ cy news (by rw [hi1]; exact hnl) hncell hpos (by omega) (by rw [hi2]; omega)
 have hcapge : ys.length <= grownCap w ys.length 0 e := grownCap_ge w _ 0 e
 have hcapm : grownCap w ys.length 0 e <= maxLen := grownCap_le_maxLen w _ 0 e (by simpa [maxLen] using hb2)
 rw [hrun _ _ (by rw [ev, ey]; exact hrun1), Oper.upon_value]
 generalize grownCap w ys.length 0 e = cap' at *
 have hL : RepL C st.toks (· < st.nx) (· < st.nt) (news.toArray ++ Builtin.zeroCells z.cells (cap' - ys.length)).toList (ys.flatten ++ (Builtin.zeroCells z.cells (cap' - ys.length)).toList.map .val) := by
  simp only [Array.toList_append, List.toList_toArray]
  exact (news_rep h0 hyl hnl hn1 hnr).app (zeros_rep hzs h0 hz1)
 have R1 := R.drew.newObj (w := w.drew) st.nx hnew (U' := (· < st.nx + 1)) (fun j hj => Nat.lt_succ_of_lt hj) (Nat.lt_succ_self _) (.box e (ys.flatten ++ (Builtin.zeroCells z.cells (cap' - ys.length)).toList.map .val)) _ (fun T ds h => by
  obtain ⟨rfl, rfl⟩ := PObj.box.inj h
  exact ⟨_, rfl, hL⟩) (fun s pos h => by cases h) (st.nx + 1) st.nt
 have X' := R.drew.ext_at w.drew.heap.size st.nx hnew (U' := (· < st.nx + 1)) (fun j hj => Nat.lt_succ_of_lt hj)
 refine ⟨_, hk cap' ((Builtin.zeroCells z.cells (cap' - ys.length)).toList.map .val) hcapge hcapm (by simp [Builtin.zeroCells, hzs]) (ltL_vals 0 0 _), ?_⟩
 refine StN.of_put (d := some d) (st' := ⟨st.env, (st.nx, .box e (ys.flatten ++ (Builtin.zeroCells z.cells (cap' - ys.length)).toList.map .val)) :: st.heap, st.toks, st.nx + 1, st.nt⟩) hd hsz hf R1 (fun tt q hq => ?_) ?_
 ·obtain ⟨v, h1, h2⟩ := E tt q hq
  exact ⟨v, h1, h2.ext X'⟩
 ·have this : (C.at st.nx w.drew.heap.size).ρ st.nx = w.heap.size := by simp [Cx.at]
  have h := RepV.ms (C := C.at st.nx w.drew.heap.size) (T := st.toks) (U := (· < st.nx + 1)) (V := (· < st.nt)) (id := st.nx) (lo := 0) (Nat.lt_succ_self _) hcapge
  rw [this] at h
  exact h
end
end Go.Pw

end
