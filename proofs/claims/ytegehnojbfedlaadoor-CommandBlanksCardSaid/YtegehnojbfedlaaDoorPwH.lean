/-
  What was made, frozen: as a result, and as an argument for the time of a call.
-/
import Derived.Test.YtegehnojbfedlaaDoorPwR
namespace Go.Pw
open Go Go.RowKit
set_option linter.unusedVariables false
set_option linter.unusedSimpArgs false
section
variable {P : Program} {own : Nat → Prop} {S0 : Base} {w0 w : World} {C : Cx} {U V : Nat → Prop} {st : PS}
/-- What is frozen, with what was made and isn't written any more. -/
def fzH (P : Program) (h : List (Nat × PObj)) : PV → Option PV
  | .ms id lo n cap => match lkp h id with
    | some (.box t cs) => match sizeOf? P t with
      | some sz => if 0 < sz ∧ lo + n * sz ≤ cs.length then (fzLL (chunks sz n (cs.drop lo))).map .sl else none
      | none => none
    | _ => none
  | p => fz p
def fzHL (P : Program) (h : List (Nat × PObj)) : List PV → Option (List PV)
  | [] => some []
  | p :: r => match fzH P h p, fzHL P h r with
    | some q, some l => some (q :: l)
    | _, _ => none
def fzHA (P : Program) (h : List (Nat × PObj)) : PV → Option PV
  | .agg cs => (fzHL P h cs).map .agg
  | .fp cs => some (.fp cs)
  | .fn f [] => some (.fn f [])
  | p => fzH P h p
def fzHAs (P : Program) (h : List (Nat × PObj)) : List PV → Option (List PV)
  | [] => some []
  | p :: r => match fzHA P h p, fzHAs P h r with
    | some q, some l => some (q :: l)
    | _, _ => none
def outH (P : Program) (fn : Func) (r : PV) : Exit → PS → Prop
  | .normal, st => bindO (resAll P st fn.results.toList) fun l => bindO (fzHAs P st.heap l) fun l' => packR l' = r
  | .ret, st => bindO (resAll P st fn.results.toList) fun l => bindO (fzHAs P st.heap l) fun l' => packR l' = r
  | _, _ => False
theorem fzHAs_get {h : List (Nat × PObj)} : ∀ {l l' : List PV}, fzHAs P h l = some l' → l.length = l'.length ∧ ∀ (i : Nat) (p q : PV), l[i]? = some p → l'[i]? = some q → fzHA P h p = some q
  | [], l', e => by
    obtain rfl := Option.some.inj e
    exact ⟨rfl, fun i p q hp => by simp at hp⟩
  | p :: r, l', e => by
    simp only [fzHAs] at e
    split at e
    · rename_i q l hq hl
      obtain rfl := Option.some.inj e
      obtain ⟨h1, h2⟩ := fzHAs_get hl
      refine ⟨by simp [h1], fun i p' q' hp hq' => ?_⟩
      cases i with
      | zero => simp at hp hq'; subst hp hq'; assumption
      | succ i => exact h2 i p' q' (by simpa using hp) (by simpa using hq')
    · cases e
theorem fzHL_get {h : List (Nat × PObj)} : ∀ {l l' : List PV}, fzHL P h l = some l' → l.length = l'.length ∧ ∀ (i : Nat) (p q : PV), l[i]? = some p → l'[i]? = some q → fzH P h p = some q
  | [], l', e => by
    obtain rfl := Option.some.inj e
    exact ⟨rfl, fun i p q hp => by simp at hp⟩
  | p :: r, l', e => by
    simp only [fzHL] at e
    split at e
    · rename_i q l hq hl
      obtain rfl := Option.some.inj e
      obtain ⟨h1, h2⟩ := fzHL_get hl
      refine ⟨by simp [h1], fun i p' q' hp hq' => ?_⟩
      cases i with
      | zero => simp at hp hq'; subst hp hq'; assumption
      | succ i => exact h2 i p' q' (by simpa using hp) (by simpa using hq')
    · cases e

theorem chunks_len (sz n : Nat) (cs : List PV) : (chunks sz n cs).length = n := by simp [chunks]
theorem chunks_get {sz n : Nat} {cs : List PV} {j : Nat} (h : j < n) : (chunks sz n cs)[j]? = some ((cs.drop (j * sz)).take sz) := by
  simp [chunks, h]
theorem fzL_of {p q : List PV} (h : fzL p = some q) : p.length = q.length ∧ ∀ (i : Nat) (x y : PV), p[i]? = some x → q[i]? = some y → fz x = some y := fzL_get h
/-- Cells that hold what is frozen and what was made. -/
structure Over (C : Cx) (st : PS) (w : World) (S : Cells) : Prop where
  s : SLe C.S S
  b : ∀ id o, lkp st.heap id = some o → ∀ i v, w.cell? ⟨C.ρ id, i, none⟩ = some v → S (C.ρ id) i = some v
theorem fzH_rep (R : Rel own S0 w0 C U V st w) {S : Cells} (hS : Over C st w S) {v : Value} {p q : PV} (h : fzH P st.heap p = some q) (r : RepV C st.toks U V v p) : RepF S v q := by
  by_cases hm : ∃ id lo n cap, p = .ms id lo n cap
  · obtain ⟨id, lo, n, cap, rfl⟩ := hm
    obtain ⟨rfl, hU, hc⟩ := rep_ms r
    simp only [fzH] at h
    split at h
    · rename_i t cs ho
      split at h
      · rename_i sz hsz
        split at h
        · rename_i hb
          obtain ⟨ys, hy, rfl⟩ := Option.map_eq_some_iff.1 h
          obtain ⟨e1, e2⟩ := fzLL_get hy
          rw [chunks_len] at e1
          obtain ⟨vs, g1, g2, g3⟩ := R.box id t cs ho
          have cell : ∀ k, k < cs.length → ∃ u q', w.cell? ⟨C.ρ id, k, none⟩ = some u ∧ cs[k]? = some q' ∧ RepV C st.toks U V u q' := fun k hk => by
            have hk' : k < vs.size := by omega
            have h1 : vs[k]? = some vs[k] := Array.getElem?_eq_getElem hk'
            exact ⟨vs[k], cs[k], by rw [cell_of_row w (C.ρ id) k vs t (0, 0) g1]; exact h1, List.getElem?_eq_getElem hk, (g3 k _ _ h1 (List.getElem?_eq_getElem hk)).2⟩
          have hlen : ∀ j, j < n → lo + (j * sz + sz) ≤ cs.length := fun j hj => by
            have : (j + 1) * sz ≤ n * sz := Nat.mul_le_mul_right _ hj
            rw [Nat.succ_mul] at this
            omega
          refine .sl (sz := sz) (fun j i => (w.cell? ⟨C.ρ id, lo + (j * sz + i), none⟩).getD undef) e1.symm hc (fun x hx => ?_) (fun _ => ⟨C.ρ id, lo, rfl, fun j i hj hi => ?_⟩) (fun j i x q hx hq => ?_)
          · obtain ⟨j, hj⟩ := List.mem_iff_getElem?.1 hx
            have hjn : j < n := by have := (List.getElem?_eq_some_iff.1 hj).1; omega
            have h2 := (fzL_get (e2 j _ x (chunks_get hjn) hj)).1
            rw [← h2, List.length_take, List.length_drop, List.length_drop]
            have := hlen j hjn
            omega
          · have := hlen j hj
            obtain ⟨u, q', h1, _, _⟩ := cell (lo + (j * sz + i)) (by omega)
            have h3 := hS.b id _ ho _ u h1
            rw [h3, h1]; rfl
          · have hjn : j < n := by have := (List.getElem?_eq_some_iff.1 hx).1; omega
            have h2 := fzL_get (e2 j _ x (chunks_get hjn) hx)
            have hi : i < sz := by
              have := (List.getElem?_eq_some_iff.1 hq).1
              have h3 := h2.1
              rw [List.length_take] at h3
              omega
            have := hlen j hjn
            obtain ⟨u, q', h1, h4, h5⟩ := cell (lo + (j * sz + i)) (by omega)
            have h6 : (((cs.drop lo).drop (j * sz)).take sz)[i]? = some q' := by
              rw [List.getElem?_take, if_pos hi, List.getElem?_drop, List.getElem?_drop]
              exact h4
            rw [h1]
            exact (fz_rep (h2.2 i q' q h6 hq) h5).mono hS.s
        · cases h
      · cases h
    · cases h
  · have e : fzH P st.heap p = fz p := by
      cases p <;> first | rfl | exact absurd ⟨_, _, _, _, rfl⟩ hm
    rw [e] at h
    exact (fz_rep h r).mono hS.s
theorem RepF.a {S : Cells} {v : Value} {p : PV} (h : RepF S v p) : RepA S v p := .frz h
theorem fzHA_rep (R : Rel own S0 w0 C U V st w) {S : Cells} (hS : Over C st w S) {v : Value} {p q : PV} (h : fzHA P st.heap p = some q) (r : RepV C st.toks U V v p) : RepA S v q := by
  unfold fzHA at h
  split at h
  · obtain ⟨qs, hq, rfl⟩ := Option.map_eq_some_iff.1 h
    obtain ⟨vs, rfl, hr⟩ := rep_agg r
    obtain ⟨h1, h2⟩ := fzHL_get hq
    refine .agg (by have := hr.1; simp at this; omega) (fun i v p hv hp => ?_) (fun i v hv => ?_)
    · have hi : i < vs.toList.length := by have := (Array.getElem?_eq_some_iff.1 hv).1; simpa using this
      have hp' := List.getElem?_eq_getElem (l := _) (i := i) (by rw [hr.1] at hi; exact hi)
      exact .frz (fzH_rep R hS (h2 i _ p hp' hp) (hr.2 i v _ (by simpa using hv) hp').2)
    · have hi : i < vs.toList.length := by have := (Array.getElem?_eq_some_iff.1 hv).1; simpa using this
      have hp' := List.getElem?_eq_getElem (l := _) (i := i) (by rw [hr.1] at hi; exact hi)
      exact (hr.2 i v _ (by simpa using hv) hp').1
  · obtain rfl := Option.some.inj h
    obtain ⟨b, o, rfl, hc⟩ := rep_fp r
    exact .fp (fun i p hp => by obtain ⟨u, h1, h2⟩ := hc i p hp; exact ⟨u, hS.s _ _ _ h1, h2.mono hS.s⟩)
  · obtain rfl := Option.some.inj h
    obtain ⟨vs, rfl, h1, _⟩ := rep_fn r
    exact .fn h1 (fun i v p hv hp => by simp at hp)
  · exact .frz (fzH_rep R hS h r)
theorem results_soundH (R : Rel own S0 w0 C U V st w) {a : Act} (E : Env C U V st a) {S : Cells} (hS : Over C st w S) {fn : Func} {l l' : List PV} (h : resAll P st fn.results.toList = some l) (hf : fzHAs P st.heap l = some l') :
    ∃ v, (results fn a.tmps).run P w = .ok v w ∧ RepA S v (packR l') := by
  obtain ⟨vs, h1, h2, h3⟩ := resAll_sound (P := P) R E _ _ h
  obtain ⟨h4, h5⟩ := fzHAs_get hf
  have hrun : (results fn a.tmps).run P w = .ok (if h : vs.toArray.size = 1 then vs.toArray[0] else .tuple vs.toArray) w := by
    rw [results_eq, Array.mapM_eq_mapM_toList, Sem.run_bind, Sem.run_map, h1]
    rfl
  refine ⟨_, hrun, packR_rep (C := C0 S) (T := []) (by omega) (fun i v q hv hq => ?_)⟩
  have hi : i < l.length := by rw [h4]; exact (List.getElem?_eq_some_iff.1 hq).1
  have hp := List.getElem?_eq_getElem hi
  exact fzHA_rep R hS (h5 i _ q hp hq) (h3 i v _ hv hp)
end
section
variable {P : Program}
/-- ████ A function does what its code says; what it made may be in its result. -/
theorem Ok.of_pwpH (hm : P.follows .mixedOrders = true) {f : FuncId} {fn : Func} {c : Code} {args : List PV} {r : PV} (hf : P.funcs[f]? = some fn) (hb : fn.body = some c) (hent : enters P f = true)
    (hfit : fitsC (args.length + (fn.ntmps - args.length)) c = true) {bar : Nat → Option Nat} (h : pwp P ⟨(0, 0), bar⟩ c (enterPS args) (outH P fn r)) : Ok P f args r := by
  refine ⟨hent, fun S w vals hkn hS hsz hrep => ?_⟩
  refine calls_of_wp hf hb ?_
  have hst : Stt Never ⟨S, C0 S, [], Never, Never⟩ w (args.length + (fn.ntmps - args.length)) (enterPS args) { tmps := vals ++ Array.replicate (fn.ntmps - vals.size) undef, defers := [] } w := by
    refine ⟨rfl, by simp [hsz], C0 S, ⟨Frame.refl _ _, hS, ?_, ?_, ?_, ?_, ?_, ?_, ?_, fun b o v h => .inl h, SLe.refl _, ⟨SLe.refl _, fun _ h => h.elim, fun _ _ h => h.elim, fun _ h => h.elim, fun _ h => h.elim⟩, ⟨hkn.2, hkn.1, fun _ _ h => h⟩⟩, ?_⟩
    · intro id T cs h; cases h
    · intro id s pos h; cases h
    · intro id o h; cases h
    · intro i j oi oj h; cases h
    · intro k t h; cases h
    · intro i oi k t h; cases h
    · intro i j ti tj h; cases h
    · intro t p h
      obtain ⟨_, h2⟩ := enterEnv_lkp args 0 t p h
      rw [Nat.sub_zero] at h2
      have ht : t < vals.size := by rw [hsz]; exact (List.getElem?_eq_some_iff.1 h2).1
      have hv : vals[t]? = some vals[t] := Array.getElem?_eq_getElem ht
      refine ⟨vals[t], ?_, RepV.ext (C := C0 S) (C' := C0 S) (T := []) (T' := []) ⟨SLe.refl _, fun _ h => h.elim, fun _ _ h => h.elim, fun _ h => h.elim, fun _ h => h.elim⟩ (hrep t _ p hv h2)⟩
      show (vals ++ Array.replicate _ undef)[t]? = _
      rw [Array.getElem?_append_left ht]
      exact hv
  refine wp_mono (pwp_sound (S0 := ⟨S, C0 S, [], Never, Never⟩) hm ⟨fun _ h => False.elim h, fun _ h => False.elim h⟩ c _ _ _ w hfit h hst) ?_
  have fin : ∀ (st : PS) (a' : Act) (w' : World), Stt Never ⟨S, C0 S, [], Never, Never⟩ w (args.length + (fn.ntmps - args.length)) st a' w' → (bindO (resAll P st fn.results.toList) fun l => bindO (fzHAs P st.heap l) fun l' => packR l' = r) →
      a'.defers = [] ∧ ∃ v, (results fn a'.tmps).run P w' = .ok v w' ∧ ∃ v' S', Ending.returned v = Ending.returned v' ∧ SLe S S' ∧ Stable S' w' ∧ (∀ b o u, S' b o = some u → S b o = some u ∨ w.heap.size ≤ b) ∧ RepA S' v' r ∧ Below w.heap.size w w' := by
    intro st a' w' ⟨h1, h2, C, R, E⟩ hk
    replace hk := bindO_elim hk
    obtain ⟨l, hl, hk⟩ := hk
    replace hk := bindO_elim hk
    obtain ⟨l', hl', rfl⟩ := hk
    let S' : Cells := fun b o => if w.heap.size ≤ b then w'.cell? ⟨b, o, none⟩ else S b o
    have hO : Over C st w' S' := by
      refine ⟨fun b o v h => ?_, fun id o ho i v hv => ?_⟩
      · show (if _ then _ else _) = _
        split
        · exact R.stable b o v h
        · rcases R.snew b o v h with h | h | h
          · exact h
          · exact h.elim
          · contradiction
      · show (if _ then _ else _) = _
        rcases (R.hown id o ho).2.2.1 with h | h
        · exact h.elim
        · rw [if_pos h]; exact hv
    obtain ⟨v, hv, hr⟩ := results_soundH (P := P) R E hO hl hl'
    refine ⟨h1, v, hv, v, S', rfl, fun b o u h => hO.s _ _ _ (R.sold _ _ _ h), fun b o u h => ?_, fun b o u h => ?_, hr, ⟨R.frame.os, R.frame.tape, R.frame.output, R.frame.size, fun k hk => R.frame.block k hk (fun h => h)⟩⟩
    · replace h : (if w.heap.size ≤ b then w'.cell? ⟨b, o, none⟩ else S b o) = some u := h
      split at h
      · exact h
      · exact R.stable b o u (R.sold _ _ _ h)
    · replace h : (if w.heap.size ≤ b then w'.cell? ⟨b, o, none⟩ else S b o) = some u := h
      split at h
      · exact .inr ‹_›
      · exact .inl h
  rintro e a' w' ⟨st, hq, hs⟩
  cases e with
  | normal => exact fin st a' w' hs hq
  | ret => exact fin st a' w' hs hq
  | _ => exact hq.elim
theorem Rel.below_ {own : Nat → Prop} {S0 : Base} {w0 w w' : World} {C : Cx} {U V : Nat → Prop} {st : PS} (R : Rel own S0 w0 C U V st w) (hb : Below w.heap.size w w') : Rel own S0 w0 C U V st w' := by
  have hold : ∀ b, b < w.heap.size → w'.heap[b]? = w.heap[b]? := hb.block
  have lt : ∀ {b : Nat} {x : Obj}, w.heap[b]? = some x → b < w.heap.size := fun h => (Array.getElem?_eq_some_iff.1 h).1
  have hs0 := R.frame.size
  refine ⟨⟨hb.os.trans R.frame.os, hb.tape.trans R.frame.tape, hb.output.trans R.frame.output, Nat.le_trans hs0 hb.size, fun k hk hn => (hold k (by omega)).trans (R.frame.block k hk hn)⟩, ?_, ?_, ?_, ?_, R.hinj, ?_, R.tbox, R.tinj, R.snew, R.sold, R.base, R.glob⟩
  · intro b o v h
    have h1 := R.stable b o v h
    have hlt : b < w.heap.size := by
      rcases Nat.lt_or_ge b w.heap.size with h' | h'
      · exact h'
      · simp [World.cell?, Array.getElem?_eq_none h'] at h1
    rw [World.cell?_of_block (hold b hlt)]
    exact h1
  · intro id T cs h
    obtain ⟨us, h1, h2, h3⟩ := R.box id T cs h
    exact ⟨us, (hold _ (lt h1)).trans h1, h2, h3⟩
  · intro id s pos h
    have h1 := R.iter id s pos h
    exact (hold _ (lt h1)).trans h1
  · intro id o h
    obtain ⟨h1, h2, h3, h4⟩ := R.hown id o h
    exact ⟨h1, Nat.lt_of_lt_of_le h2 hb.size, h3, h4⟩
  · intro k t h
    obtain ⟨h1, h2, ⟨us, h3, h4⟩, h5⟩ := R.tok k t h
    exact ⟨h1, h2, ⟨us, (hold _ (lt h3)).trans h3, h4⟩, h5⟩
/-- What holds no place. -/
def plainR : PV → Bool
  | .val _ => true
  | .tup cs => cs.all fun p => match p with | .val _ => true | _ => false
  | _ => false
theorem plainR_rep {S : Cells} {C : Cx} {T : List (Nat × Tok)} {U V : Nat → Prop} {v : Value} {p : PV} (h : plainR p = true) (r : RepA S v p) : RepV C T U V v p := by
  cases p with
  | val u => obtain ⟨rfl, h1⟩ := rep_val r; exact .frz (.val h1)
  | tup cs =>
    obtain ⟨vs, rfl, h1, h2⟩ := rep_tup r
    refine .tup h1 (fun i v p hv hp => ?_)
    simp only [plainR, List.all_eq_true] at h
    have h3 := h p (List.mem_of_getElem? hp)
    have h4 := h2 i v p hv hp
    cases p with
    | val u => obtain ⟨rfl, h1⟩ := rep_val h4; exact .frz (.val h1)
    | _ => cases h3
  | _ => cases h
/-- A function with a contract, called with what was made; it tells what is plain. -/
theorem OkI.frozen {g : FuncId} {st : PS} {as as' : List PV} {r : PV} (ok : Ok P g as' r) (hf : fzHAs P st.heap as = some as') (hp : plainR r = true) : OkI P g as st (fun r' st' => r' = r ∧ st' = st) := by
  refine ⟨ok.1, fun own S0 w0 w C vals R hn hr => ?_⟩
  obtain ⟨h4, h5⟩ := fzHAs_get hf
  have hO : Over C st w (memCells w) := ⟨R.stable, fun id o ho i v hv => hv⟩
  refine (ok.2 (memCells w) w vals R.known (memCells_stable w) (by omega) (fun i v q hv hq => ?_)).mono ?_
  · have hi : i < as.length := by rw [h4]; exact (List.getElem?_eq_some_iff.1 hq).1
    have hp := List.getElem?_eq_getElem hi
    exact fzHA_rep R hO (h5 i _ q hp hq) (hr i v _ hv hp)
  · rintro e w' ⟨v, S', rfl, _, _, _, hr', hbel⟩
    exact ⟨r, st, v, C, ⟨rfl, rfl⟩, rfl, Rel.below_ R hbel, Ext.refl _ _ _ _, plainR_rep hp hr'⟩
end
end Go.Pw
