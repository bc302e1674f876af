/-
  Functions that start with no memory of the caller's and hand back what they made: proved once, at number 0; taken at any state, renumbered.
-/
import Derived.Test.YtegehnojbfedlaaDoorPwQ
namespace Go.Pw
open Go Go.RowKit
set_option linter.unusedVariables false
set_option linter.unusedSimpArgs false
/-- What a function does that is handed what is frozen. -/
def OkH (P : Program) (f : FuncId) (args : List PV) (Q : PV → PS → Prop) : Prop :=
  enters P f = true ∧ ∀ (S : Cells) (w : World) (vals : Array Value), Known w → Stable S w → vals.size = args.length → (∀ (i : Nat) (v : Value) (p : PV), vals[i]? = some v → args[i]? = some p → RepA S v p) →
    Calls P f vals w fun e w' => ∃ r s v C, Q r s ∧ e = .returned v ∧ Rel Never ⟨S, C0 S, [], Never, Never⟩ w C (· < s.nx) (· < s.nt) s w' ∧ RepV C s.toks (· < s.nx) (· < s.nt) v r
section
variable {P : Program}
theorem OkH.of_pwp (hm : P.follows .mixedOrders = true) {f : FuncId} {fn : Func} {c : Code} {args : List PV} {Q : PV → PS → Prop} (hf : P.funcs[f]? = some fn) (hb : fn.body = some c) (hent : enters P f = true)
    (hfit : fitsC (args.length + (fn.ntmps - args.length)) c = true) {bar : Nat → Option Nat} (h : pwp P ⟨(0, 0), bar⟩ c (enterPS args) (outI P fn (0, 0) Q)) : OkH P f args Q := by
  refine ⟨hent, fun S w vals hkn hS hsz hrep => ?_⟩
  refine calls_of_wp hf hb ?_
  have hst : Stt Never ⟨S, C0 S, [], Never, Never⟩ w (args.length + (fn.ntmps - args.length)) (enterPS args) { tmps := vals ++ Array.replicate (fn.ntmps - vals.size) undef, defers := [] } w := by
    refine ⟨rfl, by simp [hsz], C0 S, ⟨Frame.refl _ _, hS, ?_, ?_, ?_, ?_, ?_, ?_, ?_, fun b o v h => .inl h, SLe.refl _, ⟨SLe.refl _, fun _ h => h.elim, fun _ _ h => h.elim, fun _ h => h.elim, fun _ h => h.elim⟩, ⟨hkn.2, hkn.1, fun _ _ h => h⟩⟩, ?_⟩
    · intro id T cs h; cases h
    · intro id s pos h; cases h
    · intro id o h; cases h
    · intro i j oi oj h; cases h
    · intro k t h; cases h
    · intro i oi k t h; cases h
    · intro i j ti tj h; cases h
    · intro t p h
      obtain ⟨_, h2⟩ := enterEnv_lkp args 0 t p h
      rw [Nat.sub_zero] at h2
      have ht : t < vals.size := by rw [hsz]; exact (List.getElem?_eq_some_iff.1 h2).1
      have hv : vals[t]? = some vals[t] := Array.getElem?_eq_getElem ht
      refine ⟨vals[t], ?_, RepV.ext (C := C0 S) (C' := C0 S) (T := []) (T' := []) ⟨SLe.refl _, fun _ h => h.elim, fun _ _ h => h.elim, fun _ h => h.elim, fun _ h => h.elim⟩ (hrep t _ p hv h2)⟩
      show (vals ++ Array.replicate _ undef)[t]? = _
      rw [Array.getElem?_append_left ht]
      exact hv
  refine wp_mono (pwp_sound (S0 := ⟨S, C0 S, [], Never, Never⟩) hm ⟨fun _ h => False.elim h, fun _ h => False.elim h⟩ c _ _ _ w hfit h hst) ?_
  have fin : ∀ (s : PS) (a' : Act) (w' : World), Stt Never ⟨S, C0 S, [], Never, Never⟩ w (args.length + (fn.ntmps - args.length)) s a' w' →
      (bindO (resAll P s fn.results.toList) fun l => ∃ st', Q (packR l) st' ∧ Weak (0, 0) { s with env := [(0, packR l)] } { st' with env := [(0, packR l)] }) →
      a'.defers = [] ∧ ∃ v, (results fn a'.tmps).run P w' = .ok v w' ∧ ∃ r s v' C, Q r s ∧ Ending.returned v = Ending.returned v' ∧ Rel Never ⟨S, C0 S, [], Never, Never⟩ w C (· < s.nx) (· < s.nt) s w' ∧ RepV C s.toks (· < s.nx) (· < s.nt) v' r := by
    intro s a' w' ⟨h1, h2, C1, R1, E1⟩ hk
    replace hk := bindO_elim hk
    obtain ⟨l, hl, st', hQ, hw⟩ := hk
    obtain ⟨vs, g1, g2, g3⟩ := resAll_sound (P := P) R1 E1 _ _ hl
    have hrun : (results fn a'.tmps).run P w' = .ok (if h : vs.toArray.size = 1 then vs.toArray[0] else .tuple vs.toArray) w' := by
      rw [results_eq, Array.mapM_eq_mapM_toList, Sem.run_bind, Sem.run_map, g1]
      rfl
    have hrep := packR_rep g2 g3
    generalize (if h : vs.toArray.size = 1 then vs.toArray[0] else .tuple vs.toArray) = v at hrun hrep
    have hs1 : Stt Never ⟨S, C0 S, [], Never, Never⟩ w 1 { s with env := [(0, packR l)] } { tmps := #[v], defers := [] } w' := by
      refine ⟨rfl, rfl, C1, R1.env_ _, ?_⟩
      intro t p h
      simp only [lkp] at h
      split at h
      · rename_i e
        subst e
        obtain rfl := Option.some.inj h
        exact ⟨v, rfl, hrep⟩
      · cases h
    obtain ⟨_, _, C2, R2, E2⟩ := hs1.weak ⟨fun _ h => False.elim h, fun _ h => False.elim h⟩ hw
    obtain ⟨u, hu, hr⟩ := E2 0 (packR l) (by simp [lkp])
    have hu' : u = v := by simpa using hu.symm
    subst hu'
    exact ⟨h1, u, hrun, packR l, st', u, C2, hQ, rfl, R2.env_ st'.env, hr⟩
  rintro e a' w' ⟨s, hq, hs⟩
  cases e with
  | normal => exact fin s a' w' hs hq
  | ret => exact fin s a' w' hs hq
  | _ => exact hq.elim
theorem OkH.mono {f : FuncId} {args : List PV} {Q Q' : PV → PS → Prop} (h : OkH P f args Q) (k : ∀ r s, Q r s → Q' r s) : OkH P f args Q' :=
  ⟨h.1, fun S w vals hk h1 h2 h3 => (h.2 S w vals hk h1 h2 h3).mono (by rintro e w' ⟨r, s, v, C, hq, h⟩; exact ⟨r, s, v, C, k _ _ hq, h⟩)⟩
/-- What was made is frozen. -/
theorem Ok.ofH {f : FuncId} {args : List PV} {Q : PV → PS → Prop} {r : PV} (ok : OkH P f args Q) (hq : ∀ r' s, Q r' s → fzHA P s.heap r' = some r) : Ok P f args r := by
  refine ⟨ok.1, fun S w vals hk hS hn hr => (ok.2 S w vals hk hS hn hr).mono ?_⟩
  rintro e w' ⟨r', st, v, C, hQ, rfl, R, hrep⟩
  let S' : Cells := fun b o => if w.heap.size ≤ b then w'.cell? ⟨b, o, none⟩ else S b o
  have hO : Over C st w' S' := by
    refine ⟨fun b o v h => ?_, fun id o ho i v hv => ?_⟩
    · show (if _ then _ else _) = _
      split
      · exact R.stable b o v h
      · rcases R.snew b o v h with h | h | h
        · exact h
        · exact h.elim
        · contradiction
    · show (if _ then _ else _) = _
      rcases (R.hown id o ho).2.2.1 with h | h
      · exact h.elim
      · rw [if_pos h]; exact hv
  refine ⟨v, S', rfl, fun b o u h => hO.s _ _ _ (R.sold _ _ _ h), fun b o u h => ?_, fun b o u h => ?_, fzHA_rep R hO (hq _ _ hQ) hrep, ⟨R.frame.os, R.frame.tape, R.frame.output, R.frame.size, fun k hk => R.frame.block k hk (fun h => h)⟩⟩
  · replace h : (if w.heap.size ≤ b then w'.cell? ⟨b, o, none⟩ else S b o) = some u := h
    split at h
    · exact h
    · exact R.stable b o u (R.sold _ _ _ h)
  · replace h : (if w.heap.size ≤ b then w'.cell? ⟨b, o, none⟩ else S b o) = some u := h
    split at h
    · exact .inr ‹_›
    · exact .inl h
end
mutual
/-- Renumbered. -/
def PV.sh (a b : Nat) : PV → PV
  | .val v => .val v
  | .sl xs => .sl xs
  | .row k xs => .row (k + b) xs
  | .ptr i o => .ptr (i + a) o
  | .ms i lo n c => .ms (i + a) lo n c
  | .fp cs => .fp cs
  | .agg cs => .agg (PV.shL a b cs)
  | .tup cs => .tup (PV.shL a b cs)
  | .fn f cs => .fn f (PV.shL a b cs)
  | .iface t p => .iface t (PV.sh a b p)
def PV.shL (a b : Nat) : List PV → List PV
  | [] => []
  | p :: r => PV.sh a b p :: PV.shL a b r
end
def PObj.sh (a b : Nat) : PObj → PObj
  | .box t cs => .box t (PV.shL a b cs)
  | .iter s pos => .iter s pos
def shH (a b : Nat) : List (Nat × PObj) → List (Nat × PObj)
  | [] => []
  | e :: r => (e.1 + a, e.2.sh a b) :: shH a b r
def shK (b : Nat) : List (Nat × Tok) → List (Nat × Tok)
  | [] => []
  | e :: r => (e.1 + b, e.2) :: shK b r
theorem shL_get {a b : Nat} : ∀ {cs : List PV} (i : Nat), (PV.shL a b cs)[i]? = (cs[i]?).map (PV.sh a b)
  | [], i => by simp [PV.shL]
  | p :: r, 0 => by simp [PV.shL]
  | p :: r, i + 1 => by simp [PV.shL, shL_get i]
theorem shL_len {a b : Nat} : ∀ {cs : List PV}, (PV.shL a b cs).length = cs.length
  | [] => rfl
  | p :: r => by rw [PV.shL, List.length_cons, shL_len, List.length_cons]
theorem shH_lkp {a b : Nat} (H : List (Nat × PObj)) (hH : ∀ j, a ≤ j → lkp H j = none) : ∀ (l : List (Nat × PObj)) (j : Nat), lkp (shH a b l ++ H) j = if a ≤ j then (lkp l (j - a)).map (PObj.sh a b) else lkp H j
  | [], j => by
    by_cases h : a ≤ j
    · rw [if_pos h]; exact hH j h
    · rw [if_neg h]; rfl
  | e :: r, j => by
    have ih := shH_lkp (b := b) H hH r j
    rw [shH, List.cons_append, lkp_cons, ih]
    obtain ⟨k, o⟩ := e
    rw [lkp_cons]
    by_cases h : a ≤ j
    · rw [if_pos h, if_pos h]
      by_cases e : j = k + a
      · rw [if_pos e, if_pos (by omega)]; rfl
      · rw [if_neg e, if_neg (by omega)]
    · rw [if_neg h, if_neg h, if_neg (by simp only; omega)]
theorem shK_lkp {b : Nat} (T : List (Nat × Tok)) (hT : ∀ j, b ≤ j → lkp T j = none) : ∀ (l : List (Nat × Tok)) (j : Nat), lkp (shK b l ++ T) j = if b ≤ j then lkp l (j - b) else lkp T j
  | [], j => by
    by_cases h : b ≤ j
    · rw [if_pos h]; exact hT j h
    · rw [if_neg h]; rfl
  | e :: r, j => by
    have ih := shK_lkp T hT r j
    rw [shK, List.cons_append, lkp_cons, ih]
    obtain ⟨k, o⟩ := e
    rw [lkp_cons]
    by_cases h : b ≤ j
    · rw [if_pos h, if_pos h]
      by_cases e : j = k + b
      · rw [if_pos e, if_pos (by omega)]
      · rw [if_neg e, if_neg (by omega)]
    · rw [if_neg h, if_neg h, if_neg (by simp only; omega)]
theorem RepV.sh {C C' : Cx} {T T' : List (Nat × Tok)} {U V U' V' : Nat → Prop} {a b : Nat} (hS : SLe C.S C'.S) (hU : ∀ i, U i → C'.ρ (i + a) = C.ρ i ∧ U' (i + a)) (hV : ∀ k, V k → C'.τ (k + b) = C.τ k ∧ V' (k + b) ∧ ∀ t, lkp T' (k + b) = some t → lkp T k = some t) {v : Value} {p : PV} (r : RepV C T U V v p) :
    RepV C' T' U' V' v (p.sh a b) := by
  induction r with
  | @frz v p h =>
    have := h.mono hS
    cases h with
    | val h => exact .frz this
    | sl => exact .frz this
  | row h hk ht =>
    obtain ⟨h1, h2, h3⟩ := hV _ hk
    refine .row (h.mono hS) h2 (fun t h' => ?_)
    obtain ⟨g1, g2, g3⟩ := ht t (h3 t h')
    exact ⟨g1, g2, fun e => by rw [h1]; exact g3 e⟩
  | @ptr id off h => rw [← (hU _ h).1]; exact .ptr (hU _ h).2
  | @ms id lo n cap h hc => rw [← (hU _ h).1]; exact .ms (hU _ h).2 hc
  | fp h => exact .fp (fun i p hp => by obtain ⟨u, h1, h2⟩ := h i p hp; exact ⟨u, hS _ _ _ h1, h2.mono hS⟩)
  | agg hs h h1 ih =>
    refine .agg (by rw [shL_len]; exact hs) (fun i v p hv hp => ?_) h1
    rw [shL_get] at hp
    obtain ⟨q, hq, rfl⟩ := Option.map_eq_some_iff.1 hp
    exact ih i v q hv hq
  | tup hs h ih =>
    refine .tup (by rw [shL_len]; exact hs) (fun i v p hv hp => ?_)
    rw [shL_get] at hp
    obtain ⟨q, hq, rfl⟩ := Option.map_eq_some_iff.1 hp
    exact ih i v q hv hq
  | fn hs h ih =>
    refine .fn (by rw [shL_len]; exact hs) (fun i v p hv hp => ?_)
    rw [shL_get] at hp
    obtain ⟨q, hq, rfl⟩ := Option.map_eq_some_iff.1 hp
    exact ih i v q hv hq
  | iface h ih => exact .iface ih
section
variable {P : Program}
/-- ████ Taken at any state. -/
theorem OkI.ofH {g : FuncId} {st : PS} {as as' : List PV} {Q : PV → PS → Prop} (ok : OkH P g as' Q) (hf : fzAs as = some as') :
    OkI P g as st (fun r st' => ∃ r0 s, Q r0 s ∧ r = r0.sh st.nx st.nt ∧ st' = ⟨st.env, shH st.nx st.nt s.heap ++ st.heap, shK st.nt s.toks ++ st.toks, s.nx + st.nx, s.nt + st.nt⟩) := by
  refine ⟨ok.1, fun own S0 w0 w C vals R hn hr => ?_⟩
  obtain ⟨h4, h5⟩ := fzAs_get hf
  refine (ok.2 C.S w vals R.known R.stable (by omega) (fun i v q hv hq => ?_)).mono ?_
  · have hi : i < as.length := by rw [h4]; exact (List.getElem?_eq_some_iff.1 hq).1
    have hp := List.getElem?_eq_getElem hi
    exact fzA_rep (h5 i _ q hp hq) (hr i v _ hv hp)
  rintro e w' ⟨r0, s, v, C1, hq, rfl, R1, hrep⟩
  have hH : ∀ j, st.nx ≤ j → lkp st.heap j = none := fun j hj => by
    cases h : lkp st.heap j with
    | none => rfl
    | some o => have := (R.hown j o h).1; omega
  have hT : ∀ j, st.nt ≤ j → lkp st.toks j = none := fun j hj => by
    cases h : lkp st.toks j with
    | none => rfl
    | some o => have := (R.tok j o h).1; omega
  have lH := shH_lkp (b := st.nt) st.heap hH s.heap
  have lT := shK_lkp st.toks hT s.toks
  have bel : ∀ k, k < w.heap.size → w'.heap[k]? = w.heap[k]? := fun k hk => R1.frame.block k hk (fun h => h)
  have lt : ∀ {b : Nat} {x : Obj}, w.heap[b]? = some x → b < w.heap.size := fun h => (Array.getElem?_eq_some_iff.1 h).1
  have hs0 := R.frame.size
  have snone : ∀ b o, b < w.heap.size → C.S b o = none → C1.S b o = none := fun b o hb h => by
    cases h' : C1.S b o with
    | none => rfl
    | some v =>
      rcases R1.snew b o v h' with h1 | h1 | h1
      · replace h1 : C.S b o = some v := h1
        rw [h] at h1; cases h1
      · exact h1.elim
      · omega
  have newB : ∀ i o, lkp s.heap i = some o → w.heap.size ≤ C1.ρ i := fun i o h => (R1.hown i o h).2.2.1.resolve_left (fun h => h)
  have newT : ∀ i t, lkp s.toks i = some t → w.heap.size ≤ (C1.τ i).1 := fun i t h => (R1.tok i t h).2.1.resolve_left (fun h => h)
  let C2 : Cx := ⟨fun i => if i < st.nx then C.ρ i else C1.ρ (i - st.nx), fun i => if i < st.nt then C.τ i else C1.τ (i - st.nt), C1.S⟩
  have ρo : ∀ i, i < st.nx → C2.ρ i = C.ρ i := fun i h => if_pos h
  have ρn : ∀ i, st.nx ≤ i → C2.ρ i = C1.ρ (i - st.nx) := fun i h => if_neg (by omega)
  have τo : ∀ i, i < st.nt → C2.τ i = C.τ i := fun i h => if_pos h
  have τn : ∀ i, st.nt ≤ i → C2.τ i = C1.τ (i - st.nt) := fun i h => if_neg (by omega)
  have X : Ext C C2 st.toks (shK st.nt s.toks ++ st.toks) (· < st.nx) (· < st.nt) (· < s.nx + st.nx) (· < s.nt + st.nt) := by
    refine ⟨R1.sold, fun i hi => ρo i hi, fun k t hk h => ?_, fun i (hi : i < st.nx) => Nat.lt_of_lt_of_le hi (Nat.le_add_left _ _), fun i (hi : i < st.nt) => Nat.lt_of_lt_of_le hi (Nat.le_add_left _ _)⟩
    have hk' : k < st.nt := hk
    rw [lT, if_neg (by omega)] at h
    exact ⟨t, h, Nat.le_refl _, rfl, fun _ => τo k hk⟩
  have shV : ∀ {v : Value} {p : PV}, RepV C1 s.toks (· < s.nx) (· < s.nt) v p → RepV C2 (shK st.nt s.toks ++ st.toks) (· < s.nx + st.nx) (· < s.nt + st.nt) v (p.sh st.nx st.nt) := fun r => by
    refine RepV.sh (C := C1) (C' := C2) (SLe.refl _) (fun i (hi : i < s.nx) => ⟨by rw [ρn _ (by omega), Nat.add_sub_cancel], by show i + st.nx < _; omega⟩) (fun k (hk : k < s.nt) => ⟨by rw [τn _ (by omega), Nat.add_sub_cancel], by show k + st.nt < _; omega, fun t h => ?_⟩) r
    rw [lT, if_pos (by omega), Nat.add_sub_cancel] at h
    exact h
  -- an object is an old one or a new one
  have split : ∀ j o, lkp (shH st.nx st.nt s.heap ++ st.heap) j = some o → (j < st.nx ∧ lkp st.heap j = some o ∧ C2.ρ j = C.ρ j) ∨ (st.nx ≤ j ∧ ∃ o', lkp s.heap (j - st.nx) = some o' ∧ o = o'.sh st.nx st.nt ∧ C2.ρ j = C1.ρ (j - st.nx)) := fun j o h => by
    rw [lH] at h
    split at h
    · rename_i hj
      obtain ⟨o', h1, rfl⟩ := Option.map_eq_some_iff.1 h
      exact .inr ⟨hj, o', h1, rfl, ρn j hj⟩
    · rename_i hj
      exact .inl ⟨by omega, h, ρo j (by omega)⟩
  have splitT : ∀ j t, lkp (shK st.nt s.toks ++ st.toks) j = some t → (j < st.nt ∧ lkp st.toks j = some t ∧ C2.τ j = C.τ j) ∨ (st.nt ≤ j ∧ lkp s.toks (j - st.nt) = some t ∧ C2.τ j = C1.τ (j - st.nt)) := fun j t h => by
    rw [lT] at h
    split at h
    · rename_i hj; exact .inr ⟨hj, h, τn j hj⟩
    · rename_i hj; exact .inl ⟨by omega, h, τo j (by omega)⟩
  refine ⟨_, _, v, C2, ⟨r0, s, hq, rfl, rfl⟩, rfl, ⟨⟨R1.frame.os.trans R.frame.os, R1.frame.tape.trans R.frame.tape, R1.frame.output.trans R.frame.output, Nat.le_trans hs0 R1.frame.size, fun k hk hn => (bel k (by omega)).trans (R.frame.block k hk hn)⟩, R1.stable, ?_, ?_, ?_, ?_, ?_, ?_, ?_, ?_, fun b o v h => R1.sold b o v (R.sold b o v h), R.base.trans X, R.glob⟩, X, shV hrep⟩
  · intro j T cs h
    rcases split j _ h with ⟨h1, h2, h3⟩ | ⟨h1, o', h2, h3, h4⟩
    · obtain ⟨us, g1, g2, g3⟩ := R.box j T cs h2
      exact ⟨us, by rw [h3, bel _ (lt g1)]; exact g1, g2, fun i v p hv hp => ⟨(g3 i v p hv hp).1, (g3 i v p hv hp).2.ext X⟩⟩
    · cases o' with
      | iter s pos => cases h3
      | box T' cs' =>
        obtain ⟨rfl, rfl⟩ := PObj.box.inj h3
        obtain ⟨us, g1, g2, g3⟩ := R1.box _ T cs' h2
        refine ⟨us, by rw [h4]; exact g1, by rw [shL_len]; exact g2, fun i v p hv hp => ?_⟩
        rw [shL_get] at hp
        obtain ⟨q, hq, rfl⟩ := Option.map_eq_some_iff.1 hp
        exact ⟨(g3 i v q hv hq).1, shV (g3 i v q hv hq).2⟩
  · intro j sx pos h
    rcases split j _ h with ⟨h1, h2, h3⟩ | ⟨h1, o', h2, h3, h4⟩
    · have g1 := R.iter j sx pos h2
      rw [h3, bel _ (lt g1)]; exact g1
    · cases o' with
      | box T' cs' => cases h3
      | iter s' pos' =>
        obtain ⟨rfl, rfl⟩ := PObj.iter.inj h3
        rw [h4]; exact R1.iter _ _ _ h2
  · intro j o h
    rcases split j _ h with ⟨h1, h2, h3⟩ | ⟨h1, o', h2, h3, h4⟩
    · obtain ⟨g1, g2, g3, g4⟩ := R.hown j o h2
      exact ⟨by show j < s.nx + st.nx; omega, by rw [h3]; have := R1.frame.size; omega, by rw [h3]; exact g3, fun o' => by rw [h3]; exact snone _ o' g2 (g4 o')⟩
    · obtain ⟨g1, g2, g3, g4⟩ := R1.hown _ o' h2
      exact ⟨by show j < s.nx + st.nx; have : j - st.nx < s.nx := g1; omega, by rw [h4]; exact g2, .inr (by rw [h4]; have := newB _ _ h2; omega), fun o' => by rw [h4]; exact g4 o'⟩
  · intro i j oi oj h1 h2 he
    rcases split i _ h1 with ⟨a1, a2, a3⟩ | ⟨a1, o1, a2, a3, a4⟩ <;> rcases split j _ h2 with ⟨b1, b2, b3⟩ | ⟨b1, o2, b2, b3, b4⟩
    · rw [a3, b3] at he; exact R.hinj i j _ _ a2 b2 he
    · rw [a3, b4] at he
      have g1 := (R.hown i _ a2).2.1; have g2 := newB _ _ b2; omega
    · rw [a4, b3] at he
      have g1 := (R.hown j _ b2).2.1; have g2 := newB _ _ a2; omega
    · rw [a4, b4] at he
      have := R1.hinj _ _ _ _ a2 b2 he
      omega
  · intro k t h
    rcases splitT k t h with ⟨h1, h2, h3⟩ | ⟨h1, h2, h3⟩
    · obtain ⟨g1, g2, ⟨us, g3, g4⟩, g5, g6, g7⟩ := R.tok k t h2
      rw [h3]
      exact ⟨by show k < s.nt + st.nt; omega, g2, ⟨us, by rw [bel _ (lt g3)]; exact g3, g4⟩, g5, g6, fun o ho => snone _ o (lt g3) (g7 o ho)⟩
    · obtain ⟨g1, g2, g3, g5, g6, g7⟩ := R1.tok _ t h2
      rw [h3]
      exact ⟨by show k < s.nt + st.nt; have : k - st.nt < s.nt := g1; omega, .inr (by have := newT _ _ h2; omega), g3, g5, g6, g7⟩
  · intro i oi k t h1 h2
    rcases split i _ h1 with ⟨a1, a2, a3⟩ | ⟨a1, o1, a2, a3, a4⟩ <;> rcases splitT k t h2 with ⟨b1, b2, b3⟩ | ⟨b1, b2, b3⟩
    · rw [a3, b3]; exact R.tbox i _ k t a2 b2
    · rw [a3, b3]; have g1 := (R.hown i _ a2).2.1; have g2 := newT _ _ b2; omega
    · rw [a4, b3]
      obtain ⟨_, _, ⟨us, g3, _⟩, _⟩ := R.tok k t b2
      have g1 := lt g3; have g2 := newB _ _ a2; omega
    · rw [a4, b3]; exact R1.tbox _ _ _ t a2 b2
  · intro i j ti tj h1 h2 he
    rcases splitT i _ h1 with ⟨a1, a2, a3⟩ | ⟨a1, a2, a3⟩ <;> rcases splitT j _ h2 with ⟨b1, b2, b3⟩ | ⟨b1, b2, b3⟩
    · rw [a3, b3] at he; exact R.tinj i j _ _ a2 b2 he
    · rw [a3, b3] at he
      obtain ⟨_, _, ⟨us, g3, _⟩, _⟩ := R.tok i _ a2
      have g1 := lt g3; have g2 := newT _ _ b2; omega
    · rw [a3, b3] at he
      obtain ⟨_, _, ⟨us, g3, _⟩, _⟩ := R.tok j _ b2
      have g1 := lt g3; have g2 := newT _ _ a2; omega
    · rw [a3, b3] at he
      have := R1.tinj _ _ _ _ a2 b2 he
      omega
  · intro b o u h
    rcases R1.snew b o u h with h1 | h1 | h1
    · exact R.snew b o u h1
    · exact h1.elim
    · exact .inr (.inr (by omega))
end
mutual
/-- Renamed. -/
def PV.rn (f : Nat → Nat) (b : Nat) : PV → PV
  | .val v => .val v
  | .sl xs => .sl xs
  | .row k xs => .row (k + b) xs
  | .ptr i o => .ptr (f i) o
  | .ms i lo n c => .ms (f i) lo n c
  | .fp cs => .fp cs
  | .agg cs => .agg (PV.rnL f b cs)
  | .tup cs => .tup (PV.rnL f b cs)
  | .fn g cs => .fn g (PV.rnL f b cs)
  | .iface t p => .iface t (PV.rn f b p)
def PV.rnL (f : Nat → Nat) (b : Nat) : List PV → List PV
  | [] => []
  | p :: r => PV.rn f b p :: PV.rnL f b r
end
def PObj.rn (f : Nat → Nat) (b : Nat) : PObj → PObj
  | .box t cs => .box t (PV.rnL f b cs)
  | .iter s pos => .iter s pos
def rnH (f : Nat → Nat) (b : Nat) : List (Nat × PObj) → List (Nat × PObj)
  | [] => []
  | e :: r => (f e.1, e.2.rn f b) :: rnH f b r
/-- Who stands where: the first ones at the places that a list tells, the others behind all. -/
def rnF (l : List Nat) (nx : Nat) (i : Nat) : Nat := match l[i]? with
  | some j => j
  | none => i - l.length + nx
def inL (j : Nat) : List Nat → Bool
  | [] => false
  | a :: r => j == a || inL j r
theorem inL_iff {j : Nat} : ∀ {l : List Nat}, inL j l = true ↔ j ∈ l
  | [] => by simp [inL]
  | a :: r => by simp [inL, inL_iff (l := r)]
def dropH (l : List Nat) : List (Nat × PObj) → List (Nat × PObj)
  | [] => []
  | e :: r => if inL e.1 l = true then dropH l r else e :: dropH l r
theorem rnL_get {f : Nat → Nat} {b : Nat} : ∀ {cs : List PV} (i : Nat), (PV.rnL f b cs)[i]? = (cs[i]?).map (PV.rn f b)
  | [], i => by simp [PV.rnL]
  | p :: r, 0 => by simp [PV.rnL]
  | p :: r, i + 1 => by simp [PV.rnL, rnL_get i]
theorem rnL_len {f : Nat → Nat} {b : Nat} : ∀ {cs : List PV}, (PV.rnL f b cs).length = cs.length
  | [] => rfl
  | p :: r => by rw [PV.rnL, List.length_cons, rnL_len, List.length_cons]
theorem dropH_lkp (l : List Nat) : ∀ (H : List (Nat × PObj)) (j : Nat), lkp (dropH l H) j = if j ∈ l then none else lkp H j
  | [], j => by simp [dropH, lkp]
  | (k, o) :: r, j => by
    have ih := dropH_lkp l r j
    simp only [dropH]
    split
    · rename_i hk
      rw [inL_iff] at hk
      rw [ih, lkp_cons]
      by_cases e : j = k
      · subst e; rw [if_pos hk, if_pos hk]
      · rw [if_neg e]
    · rename_i hk
      rw [inL_iff] at hk
      rw [lkp_cons, lkp_cons, ih]
      by_cases e : j = k
      · subst e; rw [if_pos rfl, if_neg hk, if_pos rfl]
      · rw [if_neg e, if_neg e]
theorem rnH_lkp {f : Nat → Nat} {b : Nat} (inj : ∀ i j, f i = f j → i = j) (H : List (Nat × PObj)) : ∀ (l : List (Nat × PObj)) (i : Nat), lkp H (f i) = none → lkp (rnH f b l ++ H) (f i) = (lkp l i).map (PObj.rn f b)
  | [], i, h => by simpa [rnH, lkp] using h
  | (k, o) :: r, i, h => by
    rw [rnH, List.cons_append, lkp_cons, lkp_cons, rnH_lkp inj H r i h]
    by_cases e : i = k
    · subst e; rw [if_pos rfl, if_pos rfl]; rfl
    · rw [if_neg e, if_neg (fun h => e (inj _ _ h))]
theorem rnH_out {f : Nat → Nat} {b : Nat} (H : List (Nat × PObj)) (j : Nat) (hj : ∀ i, f i ≠ j) : ∀ (l : List (Nat × PObj)), lkp (rnH f b l ++ H) j = lkp H j
  | [] => rfl
  | (k, o) :: r => by rw [rnH, List.cons_append, lkp_cons, rnH_out H j hj r, if_neg (fun h => hj k h.symm)]
theorem RepV.rn {C C' : Cx} {T T' : List (Nat × Tok)} {U V U' V' : Nat → Prop} {f : Nat → Nat} {b : Nat} (hS : SLe C.S C'.S) (hU : ∀ i, U i → C'.ρ (f i) = C.ρ i ∧ U' (f i)) (hV : ∀ k, V k → C'.τ (k + b) = C.τ k ∧ V' (k + b) ∧ ∀ t, lkp T' (k + b) = some t → lkp T k = some t) {v : Value} {p : PV} (r : RepV C T U V v p) :
    RepV C' T' U' V' v (p.rn f b) := by
  induction r with
  | @frz v p h =>
    have := h.mono hS
    cases h with
    | val h => exact .frz this
    | sl => exact .frz this
  | row h hk ht =>
    obtain ⟨h1, h2, h3⟩ := hV _ hk
    refine .row (h.mono hS) h2 (fun t h' => ?_)
    obtain ⟨g1, g2, g3⟩ := ht t (h3 t h')
    exact ⟨g1, g2, fun e => by rw [h1]; exact g3 e⟩
  | @ptr id off h => rw [← (hU _ h).1]; exact .ptr (hU _ h).2
  | @ms id lo n cap h hc => rw [← (hU _ h).1]; exact .ms (hU _ h).2 hc
  | fp h => exact .fp (fun i p hp => by obtain ⟨u, h1, h2⟩ := h i p hp; exact ⟨u, hS _ _ _ h1, h2.mono hS⟩)
  | agg hs h h1 ih =>
    refine .agg (by rw [rnL_len]; exact hs) (fun i v p hv hp => ?_) h1
    rw [rnL_get] at hp
    obtain ⟨q, hq, rfl⟩ := Option.map_eq_some_iff.1 hp
    exact ih i v q hv hq
  | tup hs h ih =>
    refine .tup (by rw [rnL_len]; exact hs) (fun i v p hv hp => ?_)
    rw [rnL_get] at hp
    obtain ⟨q, hq, rfl⟩ := Option.map_eq_some_iff.1 hp
    exact ih i v q hv hq
  | fn hs h ih =>
    refine .fn (by rw [rnL_len]; exact hs) (fun i v p hv hp => ?_)
    rw [rnL_get] at hp
    obtain ⟨q, hq, rfl⟩ := Option.map_eq_some_iff.1 hp
    exact ih i v q hv hq
  | iface h ih => exact .iface ih
section
variable {P : Program}
/-- Values without rows, whose objects are among the first m. -/
theorem RepV.back {C C0 : Cx} {T : List (Nat × Tok)} {U V : Nat → Prop} {f : Nat → Nat} {b m : Nat} (hS : SLe C.S C0.S) (hρ : ∀ i, i < m → C0.ρ i = C.ρ (f i)) {v : Value} {q : PV} (r : RepV C T U V v q) :
    ∀ {p : PV}, p.rn f b = q → p.lt m 0 = true → RepV C0 [] (· < m) Never v p := by
  induction r with
  | @frz v q h =>
    intro p e hl
    cases p with
    | val u => simp only [PV.rn] at e; subst e; exact .frz (h.mono hS)
    | sl xs => simp only [PV.rn] at e; subst e; exact .frz (h.mono hS)
    | _ => simp only [PV.rn] at e; subst e; cases h
  | row h hk ht =>
    intro p e hl
    cases p with
    | row k xs => simp [PV.lt] at hl
    | _ => simp [PV.rn] at e
  | @ptr id off h =>
    intro p e hl
    cases p with
    | ptr i o =>
      simp only [PV.rn, PV.ptr.injEq] at e
      obtain ⟨e1, rfl⟩ := e
      have hi : i < m := by simpa [PV.lt] using hl
      rw [← e1, ← hρ i hi]
      exact .ptr hi
    | _ => simp [PV.rn] at e
  | @ms id lo n cap h hc =>
    intro p e hl
    cases p with
    | ms i lo' n' cap' =>
      simp only [PV.rn, PV.ms.injEq] at e
      obtain ⟨e1, rfl, rfl, rfl⟩ := e
      have hi : i < m := by simpa [PV.lt] using hl
      rw [← e1, ← hρ i hi]
      exact .ms hi hc
    | _ => simp [PV.rn] at e
  | fp h =>
    intro p e hl
    cases p with
    | fp cs => simp only [PV.rn, PV.fp.injEq] at e; subst e; exact .fp (fun i p hp => by obtain ⟨u, h1, h2⟩ := h i p hp; exact ⟨u, hS _ _ _ h1, h2.mono hS⟩)
    | _ => simp [PV.rn] at e
  | agg hs h h1 ih =>
    intro p e hl
    cases p with
    | agg cs =>
      simp only [PV.rn, PV.agg.injEq] at e
      subst e
      rw [rnL_len] at hs
      refine .agg hs (fun i v p hv hp => ?_) h1
      exact ih i v (p.rn f b) hv (by rw [rnL_get, hp]; rfl) rfl (ltL_get (by simpa [PV.lt] using hl) p (List.mem_of_getElem? hp))
    | _ => simp [PV.rn] at e
  | tup hs h ih =>
    intro p e hl
    cases p with
    | tup cs =>
      simp only [PV.rn, PV.tup.injEq] at e
      subst e
      rw [rnL_len] at hs
      exact .tup hs (fun i v p hv hp => ih i v (p.rn f b) hv (by rw [rnL_get, hp]; rfl) rfl (ltL_get (by simpa [PV.lt] using hl) p (List.mem_of_getElem? hp)))
    | _ => simp [PV.rn] at e
  | fn hs h ih =>
    intro p e hl
    cases p with
    | fn g cs =>
      simp only [PV.rn, PV.fn.injEq] at e
      obtain ⟨rfl, rfl⟩ := e
      rw [rnL_len] at hs
      exact .fn hs (fun i v p hv hp => ih i v (p.rn f b) hv (by rw [rnL_get, hp]; rfl) rfl (ltL_get (by simpa [PV.lt] using hl) p (List.mem_of_getElem? hp)))
    | _ => simp [PV.rn] at e
  | iface h ih =>
    intro p e hl
    cases p with
    | iface t p =>
      simp only [PV.rn, PV.iface.injEq] at e
      obtain ⟨rfl, e⟩ := e
      exact .iface (ih e (by simpa [PV.lt] using hl))
    | _ => simp [PV.rn] at e
/-- ████ A function that works on some objects, proved where there are no others, taken where there are. -/
theorem OkI.frame {g : FuncId} {st : PS} {h0 : List (Nat × PObj)} {as0 as : List PV} {Q : PV → PS → Prop} (l : List Nat) (ok : OkI P g as0 ⟨[], h0, [], l.length, 0⟩ Q) (hnd : l.Nodup) (hlt : ∀ j ∈ l, j < st.nx)
    (hh : ∀ e ∈ h0, e.1 < l.length ∧ e.2.lt l.length 0 = true ∧ lkp st.heap (rnF l st.nx e.1) = some (e.2.rn (rnF l st.nx) st.nt)) (hal : PV.ltL l.length 0 as0 = true) (ha : PV.rnL (rnF l st.nx) st.nt as0 = as) :
    OkI P g as st (fun r st' => ∃ r0 s, Q r0 s ∧ r = r0.rn (rnF l st.nx) st.nt ∧ st' = ⟨st.env, rnH (rnF l st.nx) st.nt s.heap ++ dropH l st.heap, shK st.nt s.toks ++ st.toks, s.nx - l.length + st.nx, s.nt + st.nt⟩) := by
  subst ha
  obtain ⟨m, hm⟩ : ∃ m, m = l.length := ⟨_, rfl⟩
  obtain ⟨f, hf⟩ : ∃ f, f = rnF l st.nx := ⟨_, rfl⟩
  rw [← hf] at hh ⊢
  rw [← hm] at ok hh hal ⊢
  have flow : ∀ i, i < m → f i ∈ l ∧ f i < st.nx ∧ l[i]? = some (f i) := fun i hi => by
    have h1 : l[i]? = some (l[i]'(by omega)) := List.getElem?_eq_getElem (by omega)
    have : f i = l[i]'(by omega) := by rw [hf]; unfold rnF; rw [h1]
    rw [this]
    exact ⟨List.getElem_mem _, hlt _ (List.getElem_mem _), h1⟩
  have fhigh : ∀ i, m ≤ i → f i = i - m + st.nx := fun i hi => by
    have h1 : l[i]? = none := List.getElem?_eq_none (by omega)
    rw [hf]; unfold rnF; rw [h1, hm]
  have inj : ∀ i j, f i = f j → i = j := fun i j e => by
    rcases Nat.lt_or_ge i m with h1 | h1 <;> rcases Nat.lt_or_ge j m with h2 | h2
    · obtain ⟨_, _, g1⟩ := flow i h1
      obtain ⟨_, _, g2⟩ := flow j h2
      rw [← e] at g2
      exact (List.getElem?_inj (show i < l.length by omega) hnd).1 (g1.trans g2.symm)
    · have := (flow i h1).2.1; rw [e, fhigh j h2] at this; omega
    · have := (flow j h2).2.1; rw [← e, fhigh i h1] at this; omega
    · rw [fhigh i h1, fhigh j h2] at e; omega
  have fsur : ∀ j ∈ l, ∃ i, i < m ∧ f i = j := fun j hj => by
    obtain ⟨i, hi⟩ := List.mem_iff_getElem?.1 hj
    have h1 : i < m := by rw [hm]; exact (List.getElem?_eq_some_iff.1 hi).1
    obtain ⟨_, _, g⟩ := flow i h1
    exact ⟨i, h1, Option.some.inj (g.symm.trans hi)⟩
  have hh' : ∀ i o, lkp h0 i = some o → i < m ∧ o.lt m 0 = true ∧ lkp st.heap (f i) = some (o.rn f st.nt) := fun i o h => hh _ (lkp_mem h)
  refine ⟨ok.1, fun own S0 w0 w C vals R hn hr => ?_⟩
  let own' : Nat → Prop := fun b => ∃ i o, lkp h0 i = some o ∧ b = C.ρ (f i)
  let Ci : Cx := ⟨fun i => C.ρ (f i), fun _ => (0, 0), C.S⟩
  have own'_ok : ∀ b, own' b → b < w.heap.size ∧ (own b ∨ w0.heap.size ≤ b) ∧ ∀ o', C.S b o' = none := by
    rintro b ⟨i, o, h, rfl⟩
    exact (R.hown _ _ (hh' i o h).2.2).2
  have hs0 := R.frame.size
  have Rin : Rel own' ⟨C.S, Ci, [], (· < m), Never⟩ w Ci (· < m) (· < 0) ⟨[], h0, [], m, 0⟩ w := by
    refine ⟨Frame.refl _ _, R.stable, ?_, ?_, ?_, ?_, ?_, ?_, ?_, fun b o v h => .inl h, SLe.refl _, ⟨SLe.refl _, fun _ _ => rfl, fun k t h => h.elim, fun _ h => h, fun _ h => h.elim⟩, ⟨R.known.2, R.known.1, ?_⟩⟩
    · intro i T cs h
      obtain ⟨h1, h2, h3⟩ := hh' i _ h
      obtain ⟨us, g1, g2, g3⟩ := R.box _ T _ h3
      rw [rnL_len] at g2
      refine ⟨us, g1, g2, fun k v p hv hp => ?_⟩
      obtain ⟨g4, g5⟩ := g3 k v (p.rn f st.nt) hv (by rw [rnL_get, hp]; rfl)
      refine ⟨g4, ?_⟩
      have := RepV.back (C := C) (C0 := Ci) (f := f) (b := st.nt) (m := m) (SLe.refl _) (fun _ _ => rfl) g5 rfl (ltL_get h2 p (List.mem_of_getElem? hp))
      exact this.ext ⟨SLe.refl _, fun _ _ => rfl, fun _ _ h => h.elim, fun _ h => h, fun _ h => h.elim⟩
    · intro i s pos h
      exact R.iter _ s pos (hh' i _ h).2.2
    · intro i o h
      obtain ⟨h1, h2, h3⟩ := hh' i o h
      obtain ⟨g1, g2, g3, g4⟩ := R.hown _ _ h3
      exact ⟨h1, g2, .inl ⟨i, o, h, rfl⟩, g4⟩
    · intro i j oi oj h1 h2 he
      exact inj i j (R.hinj _ _ _ _ (hh' i oi h1).2.2 (hh' j oj h2).2.2 he)
    · intro k t h; cases h
    · intro i oi k t _ h; cases h
    · intro i j ti tj h; cases h
    · rintro g hg ⟨i, o, h, rfl⟩
      obtain ⟨g1, g2, g3, g4⟩ := R.hown _ _ (hh' i o h).2.2
      rcases g3 with g3 | g3
      · exact R.glob.own _ hg g3
      · have := R.glob.size; omega
  refine (ok.2 own' ⟨C.S, Ci, [], (· < m), Never⟩ w w Ci vals Rin (by rw [hn, rnL_len]) (fun i v p hv hp => ?_)).mono ?_
  · have := RepV.back (C := C) (C0 := Ci) (f := f) (b := st.nt) (m := m) (SLe.refl _) (fun _ _ => rfl) (hr i v (p.rn f st.nt) hv (by rw [rnL_get, hp]; rfl)) rfl (ltL_get hal p (List.mem_of_getElem? hp))
    exact this.ext ⟨SLe.refl _, fun _ _ => rfl, fun _ _ h => h.elim, fun _ h => h, fun _ h => h.elim⟩
  rintro e w' ⟨r0, s, v, C1, hq, rfl, R1, X1, hrep⟩
  have hms : m ≤ s.nx := by
    rcases Nat.eq_zero_or_pos m with h | h
    · omega
    · have : m - 1 < s.nx := X1.nx (m - 1) (by show m - 1 < m; omega)
      omega
  have ρ1 : ∀ i, i < m → C1.ρ i = C.ρ (f i) := fun i hi => X1.ρ i hi
  have hH : ∀ j, st.nx ≤ j → lkp st.heap j = none := fun j hj => by
    cases h : lkp st.heap j with
    | none => rfl
    | some o => have := (R.hown j o h).1; omega
  have hT : ∀ j, st.nt ≤ j → lkp st.toks j = none := fun j hj => by
    cases h : lkp st.toks j with
    | none => rfl
    | some o => have := (R.tok j o h).1; omega
  have lT := shK_lkp st.toks hT s.toks
  have bel : ∀ k, k < w.heap.size → ¬ own' k → w'.heap[k]? = w.heap[k]? := fun k hk hn => R1.frame.block k hk hn
  have lt : ∀ {b : Nat} {x : Obj}, w.heap[b]? = some x → b < w.heap.size := fun h => (Array.getElem?_eq_some_iff.1 h).1
  have snone : ∀ b o, b < w.heap.size → ¬ own' b → C.S b o = none → C1.S b o = none := fun b o hb hno h => by
    cases h' : C1.S b o with
    | none => rfl
    | some v =>
      rcases R1.snew b o v h' with h1 | h1 | h1
      · replace h1 : C.S b o = some v := h1
        rw [h] at h1; cases h1
      · exact absurd h1 hno
      · omega
  -- an object of the caller's that isn't handed over
  have apart : ∀ j o, lkp st.heap j = some o → j ∉ l → ¬ own' (C.ρ j) := by
    rintro j o h hj ⟨i, o', h1, h2⟩
    obtain ⟨g1, _, g3⟩ := hh' i o' h1
    have := R.hinj _ _ _ _ h g3 h2
    rw [this] at hj
    exact hj (flow i g1).1
  have placeB : ∀ i o, lkp s.heap i = some o → own' (C1.ρ i) ∨ w.heap.size ≤ C1.ρ i := fun i o h => (R1.hown i o h).2.2.1
  have placeT : ∀ i t, lkp s.toks i = some t → own' (C1.τ i).1 ∨ w.heap.size ≤ (C1.τ i).1 := fun i t h => (R1.tok i t h).2.1
  let C2 : Cx := ⟨fun j => if j < st.nx then C.ρ j else C1.ρ (j - st.nx + m), fun i => if i < st.nt then C.τ i else C1.τ (i - st.nt), C1.S⟩
  have ρo : ∀ i, i < st.nx → C2.ρ i = C.ρ i := fun i h => if_pos h
  have ρf : ∀ i, C2.ρ (f i) = C1.ρ i := fun i => by
    rcases Nat.lt_or_ge i m with h | h
    · rw [ρo _ (flow i h).2.1, ρ1 i h]
    · rw [fhigh i h]
      show (if _ then _ else _) = _
      rw [if_neg (by omega)]
      congr 1; omega
  have τo : ∀ i, i < st.nt → C2.τ i = C.τ i := fun i h => if_pos h
  have τn : ∀ i, st.nt ≤ i → C2.τ i = C1.τ (i - st.nt) := fun i h => if_neg (by omega)
  have fU : ∀ i, i < s.nx → f i < s.nx - m + st.nx := fun i hi => by
    rcases Nat.lt_or_ge i m with h | h
    · have := (flow i h).2.1; omega
    · rw [fhigh i h]; omega
  have X : Ext C C2 st.toks (shK st.nt s.toks ++ st.toks) (· < st.nx) (· < st.nt) (· < s.nx - m + st.nx) (· < s.nt + st.nt) := by
    refine ⟨R1.sold, fun i hi => ρo i hi, fun k t hk h => ?_, fun i (hi : i < st.nx) => Nat.lt_of_lt_of_le hi (Nat.le_add_left _ _), fun i (hi : i < st.nt) => Nat.lt_of_lt_of_le hi (Nat.le_add_left _ _)⟩
    have hk' : k < st.nt := hk
    rw [lT, if_neg (by omega)] at h
    exact ⟨t, h, Nat.le_refl _, rfl, fun _ => τo k hk⟩
  have shV : ∀ {v : Value} {p : PV}, RepV C1 s.toks (· < s.nx) (· < s.nt) v p → RepV C2 (shK st.nt s.toks ++ st.toks) (· < s.nx - m + st.nx) (· < s.nt + st.nt) v (p.rn f st.nt) := fun r => by
    refine RepV.rn (C := C1) (C' := C2) (SLe.refl _) (fun i (hi : i < s.nx) => ⟨ρf i, fU i hi⟩) (fun k (hk : k < s.nt) => ⟨by rw [τn _ (by omega), Nat.add_sub_cancel], by show k + st.nt < _; omega, fun t h => ?_⟩) r
    rw [lT, if_pos (by omega), Nat.add_sub_cancel] at h
    exact h
  have lD := dropH_lkp l st.heap
  have split : ∀ j o, lkp (rnH f st.nt s.heap ++ dropH l st.heap) j = some o → (j < st.nx ∧ j ∉ l ∧ lkp st.heap j = some o ∧ C2.ρ j = C.ρ j) ∨ (∃ i o', j = f i ∧ lkp s.heap i = some o' ∧ o = o'.rn f st.nt ∧ C2.ρ j = C1.ρ i) := fun j o h => by
    by_cases hj : ∃ i, f i = j
    · obtain ⟨i, rfl⟩ := hj
      rw [rnH_lkp inj] at h
      · obtain ⟨o', h1, rfl⟩ := Option.map_eq_some_iff.1 h
        exact .inr ⟨i, o', rfl, h1, rfl, ρf i⟩
      · rw [lD]
        rcases Nat.lt_or_ge i m with hi | hi
        · rw [if_pos (flow i hi).1]
        · split
          · rfl
          · exact hH _ (by rw [fhigh i hi]; omega)
    · rw [rnH_out _ j (fun i e => hj ⟨i, e⟩), lD] at h
      split at h
      · cases h
      · rename_i hjl
        have hjx : j < st.nx := (R.hown j o h).1
        exact .inl ⟨hjx, hjl, h, ρo j hjx⟩
  have splitT : ∀ j t, lkp (shK st.nt s.toks ++ st.toks) j = some t → (j < st.nt ∧ lkp st.toks j = some t ∧ C2.τ j = C.τ j) ∨ (st.nt ≤ j ∧ lkp s.toks (j - st.nt) = some t ∧ C2.τ j = C1.τ (j - st.nt)) := fun j t h => by
    rw [lT] at h
    split at h
    · rename_i hj; exact .inr ⟨hj, h, τn j hj⟩
    · rename_i hj; exact .inl ⟨by omega, h, τo j (by omega)⟩
  have tokApart : ∀ k t, lkp st.toks k = some t → ¬ own' (C.τ k).1 := by
    rintro k t h ⟨i, o, h1, h2⟩
    exact R.tbox _ _ k t (hh' i o h1).2.2 h h2.symm
  have far : ∀ b, own' b ∨ w.heap.size ≤ b → own b ∨ w0.heap.size ≤ b := fun b h => by
    rcases h with h | h
    · exact (own'_ok b h).2.1
    · exact .inr (by omega)
  refine ⟨_, _, v, C2, ⟨r0, s, hq, rfl, rfl⟩, rfl, ⟨⟨R1.frame.os.trans R.frame.os, R1.frame.tape.trans R.frame.tape, R1.frame.output.trans R.frame.output, Nat.le_trans hs0 R1.frame.size, fun k hk hn => ?_⟩, R1.stable, ?_, ?_, ?_, ?_, ?_, ?_, ?_, ?_, fun b o v h => R1.sold b o v (R.sold b o v h), R.base.trans X, R.glob⟩, X, shV hrep⟩
  · rw [bel k (by omega) (fun h => ?_)]
    · exact R.frame.block k hk hn
    · rcases (own'_ok k h).2.1 with h1 | h1
      · exact hn h1
      · omega
  · intro j T cs h
    rcases split j _ h with ⟨h1, h2, h3, h4⟩ | ⟨i, o', h1, h2, h3, h4⟩
    · obtain ⟨us, g1, g2, g3⟩ := R.box j T cs h3
      exact ⟨us, by rw [h4, bel _ (lt g1) (apart j _ h3 h2)]; exact g1, g2, fun i v p hv hp => ⟨(g3 i v p hv hp).1, (g3 i v p hv hp).2.ext X⟩⟩
    · cases o' with
      | iter s pos => cases h3
      | box T' cs' =>
        obtain ⟨rfl, rfl⟩ := PObj.box.inj h3
        obtain ⟨us, g1, g2, g3⟩ := R1.box _ T cs' h2
        refine ⟨us, by rw [h4]; exact g1, by rw [rnL_len]; exact g2, fun i v p hv hp => ?_⟩
        rw [rnL_get] at hp
        obtain ⟨q, hq, rfl⟩ := Option.map_eq_some_iff.1 hp
        exact ⟨(g3 i v q hv hq).1, shV (g3 i v q hv hq).2⟩
  · intro j sx pos h
    rcases split j _ h with ⟨h1, h2, h3, h4⟩ | ⟨i, o', h1, h2, h3, h4⟩
    · have g1 := R.iter j sx pos h3
      rw [h4, bel _ (lt g1) (apart j _ h3 h2)]; exact g1
    · cases o' with
      | box T' cs' => cases h3
      | iter s' pos' =>
        obtain ⟨rfl, rfl⟩ := PObj.iter.inj h3
        rw [h4]; exact R1.iter _ _ _ h2
  · intro j o h
    rcases split j _ h with ⟨h1, h2, h3, h4⟩ | ⟨i, o', h1, h2, h3, h4⟩
    · obtain ⟨g1, g2, g3, g4⟩ := R.hown j o h3
      exact ⟨by show j < s.nx - m + st.nx; omega, by rw [h4]; have := R1.frame.size; omega, by rw [h4]; exact g3, fun o' => by rw [h4]; exact snone _ o' g2 (apart j _ h3 h2) (g4 o')⟩
    · obtain ⟨g1, g2, g3, g4⟩ := R1.hown _ o' h2
      exact ⟨by rw [h1]; exact fU i g1, by rw [h4]; exact g2, by rw [h4]; exact far _ (placeB i o' h2), fun o' => by rw [h4]; exact g4 o'⟩
  · intro i j oi oj h1 h2 he
    rcases split i _ h1 with ⟨a1, a2, a3, a4⟩ | ⟨i', o1, a1, a2, a3, a4⟩ <;> rcases split j _ h2 with ⟨b1, b2, b3, b4⟩ | ⟨j', o2, b1, b2, b3, b4⟩
    · rw [a4, b4] at he; exact R.hinj i j _ _ a3 b3 he
    · rw [a4, b4] at he
      rcases placeB _ _ b2 with h | h
      · rw [← he] at h; exact absurd h (apart i _ a3 a2)
      · have := (R.hown i _ a3).2.1; omega
    · rw [a4, b4] at he
      rcases placeB _ _ a2 with h | h
      · rw [he] at h; exact absurd h (apart j _ b3 b2)
      · have := (R.hown j _ b3).2.1; omega
    · rw [a4, b4] at he
      rw [a1, b1, R1.hinj _ _ _ _ a2 b2 he]
  · intro k t h
    rcases splitT k t h with ⟨h1, h2, h3⟩ | ⟨h1, h2, h3⟩
    · obtain ⟨g1, g2, ⟨us, g3, g4⟩, g5, g6, g7⟩ := R.tok k t h2
      rw [h3]
      exact ⟨by show k < s.nt + st.nt; omega, g2, ⟨us, by rw [bel _ (lt g3) (tokApart k t h2)]; exact g3, g4⟩, g5, g6, fun o ho => snone _ o (lt g3) (tokApart k t h2) (g7 o ho)⟩
    · obtain ⟨g1, g2, g3, g5, g6, g7⟩ := R1.tok _ t h2
      rw [h3]
      exact ⟨by show k < s.nt + st.nt; have : k - st.nt < s.nt := g1; omega, far _ (placeT _ _ h2), g3, g5, g6, g7⟩
  · intro i oi k t h1 h2
    rcases split i _ h1 with ⟨a1, a2, a3, a4⟩ | ⟨i', o1, a1, a2, a3, a4⟩ <;> rcases splitT k t h2 with ⟨b1, b2, b3⟩ | ⟨b1, b2, b3⟩
    · rw [a4, b3]; exact R.tbox i _ k t a3 b2
    · rw [a4, b3]
      intro he
      rcases placeT _ _ b2 with h | h
      · rw [← he] at h; exact apart i _ a3 a2 h
      · have := (R.hown i _ a3).2.1; omega
    · rw [a4, b3]
      intro he
      obtain ⟨_, _, ⟨us, g3, _⟩, _⟩ := R.tok k t b2
      rcases placeB _ _ a2 with h | h
      · rw [he] at h; exact tokApart k t b2 h
      · have := lt g3; omega
    · rw [a4, b3]; exact R1.tbox _ _ _ t a2 b2
  · intro i j ti tj h1 h2 he
    rcases splitT i _ h1 with ⟨a1, a2, a3⟩ | ⟨a1, a2, a3⟩ <;> rcases splitT j _ h2 with ⟨b1, b2, b3⟩ | ⟨b1, b2, b3⟩
    · rw [a3, b3] at he; exact R.tinj i j _ _ a2 b2 he
    · rw [a3, b3] at he
      obtain ⟨_, _, ⟨us, g3, _⟩, _⟩ := R.tok i _ a2
      rcases placeT _ _ b2 with h | h
      · rw [← he] at h; exact absurd h (tokApart i _ a2)
      · have := lt g3; omega
    · rw [a3, b3] at he
      obtain ⟨_, _, ⟨us, g3, _⟩, _⟩ := R.tok j _ b2
      rcases placeT _ _ a2 with h | h
      · rw [he] at h; exact absurd h (tokApart j _ b2)
      · have := lt g3; omega
    · rw [a3, b3] at he
      have := R1.tinj _ _ _ _ a2 b2 he
      omega
  · intro b o u h
    rcases R1.snew b o u h with h1 | h1
    · exact R.snew b o u h1
    · exact .inr (far b h1)
/-- One object is handed over. -/
theorem OkI.frame1 {g : FuncId} {st : PS} {o : PObj} {as0 as : List PV} {Q : PV → PS → Prop} {a : Nat} (ok : OkI P g as0 ⟨[], [(0, o)], [], 1, 0⟩ Q) (ha : a < st.nx) (hl : o.lt 1 0 = true) (ho : lkp st.heap a = some (o.rn (rnF [a] st.nx) st.nt)) (hal : PV.ltL 1 0 as0 = true) (hr : PV.rnL (rnF [a] st.nx) st.nt as0 = as) :
    OkI P g as st (fun r st' => ∃ r0 s, Q r0 s ∧ r = r0.rn (rnF [a] st.nx) st.nt ∧ st' = ⟨st.env, rnH (rnF [a] st.nx) st.nt s.heap ++ dropH [a] st.heap, shK st.nt s.toks ++ st.toks, s.nx - 1 + st.nx, s.nt + st.nt⟩) :=
  OkI.frame [a] ok (by simp) (fun j hj => by rw [List.mem_singleton] at hj; subst hj; exact ha) (fun e he => by
    rw [List.mem_singleton] at he
    subst he
    exact ⟨Nat.zero_lt_one, hl, ho⟩) hal hr
/-- Two are. -/
theorem OkI.frame2 {g : FuncId} {st : PS} {o o' : PObj} {as0 as : List PV} {Q : PV → PS → Prop} {a a' : Nat} (ok : OkI P g as0 ⟨[], [(0, o), (1, o')], [], 2, 0⟩ Q) (hne : a ≠ a') (ha : a < st.nx) (ha' : a' < st.nx) (hl : o.lt 2 0 = true) (hl' : o'.lt 2 0 = true) (ho : lkp st.heap a = some (o.rn (rnF [a, a'] st.nx) st.nt)) (ho' : lkp st.heap a' = some (o'.rn (rnF [a, a'] st.nx) st.nt)) (hal : PV.ltL 2 0 as0 = true) (hr : PV.rnL (rnF [a, a'] st.nx) st.nt as0 = as) :
    OkI P g as st (fun r st' => ∃ r0 s, Q r0 s ∧ r = r0.rn (rnF [a, a'] st.nx) st.nt ∧ st' = ⟨st.env, rnH (rnF [a, a'] st.nx) st.nt s.heap ++ dropH [a, a'] st.heap, shK st.nt s.toks ++ st.toks, s.nx - 2 + st.nx, s.nt + st.nt⟩) :=
  OkI.frame [a, a'] ok (by simp [hne]) (fun j hj => by
    rcases List.mem_cons.1 hj with rfl | hj
    · exact ha
    · rw [List.mem_singleton] at hj; subst hj; exact ha') (fun e he => by
    rcases List.mem_cons.1 he with rfl | he
    · exact ⟨Nat.zero_lt_two, hl, ho⟩
    · rw [List.mem_singleton] at he
      subst he
      exact ⟨Nat.one_lt_two, hl', ho'⟩) hal hr
end
/-! A region, place by place, by a table: who is listed, who is ready, how many are left. -/
def allL {α : Type} (F : α → Prop) : List α → Prop
  | [] => True
  | a :: r => F a ∧ allL F r
def allI {α : Type} (F : Nat → α → Prop) : Nat → List α → Prop
  | _, [] => True
  | k, a :: r => F k a ∧ allI F (k + 1) r
theorem allL_mem {α : Type} {F : α → Prop} : ∀ {l : List α}, allL F l → ∀ a ∈ l, F a
  | [], _, a, h => by cases h
  | b :: r, h, a, hm => by
    rcases List.mem_cons.1 hm with rfl | hm
    · exact h.1
    · exact allL_mem h.2 a hm
theorem allI_get {α : Type} {F : Nat → α → Prop} : ∀ {l : List α} {k : Nat}, allI F k l → ∀ (i : Nat) (a : α), l[i]? = some a → F (k + i) a
  | [], _, _, i, a, h => by simp at h
  | b :: r, k, h, 0, a, ha => by
    obtain rfl := Option.some.inj (by simpa using ha)
    exact h.1
  | b :: r, k, h, i + 1, a, ha => by
    have := allI_get h.2 i a (by simpa using ha)
    rw [show k + (i + 1) = k + 1 + i by omega]
    exact this
theorem bindO_mono {α : Type} {o : Option α} {F G : α → Prop} (h : ∀ x, F x → G x) (k : bindO o F) : bindO o G := by
  obtain ⟨x, hx, h1⟩ := bindO_elim k
  rw [hx]
  exact h x h1
theorem CallOk.mono {dr : Bool} {P : Program} {g : FuncId} {as : List PV} {st : PS} {id tk : Nat} {K K' : PV → PS → Prop} (hk : ∀ p s, K p s → K' p s) (h : CallOk dr P g as st id tk K) : CallOk dr P g as st id tk K' := by
  cases h with
  | pure as' r hf ok k => exact .pure as' r hf ok (hk _ _ k)
  | ext vs r ha hr ho k => exact .ext vs r ha hr ho (hk _ _ k)
  | own hdr Q ok k => exact .own hdr Q ok (fun r st' h => hk _ _ (k r st' h))
theorem stepN_mono {dr : Bool} {P : Program} {o : Oper} {st : PS} {id tk : Nat} {K K' : PS → Prop} (hk : ∀ s, K s → K' s) (h : stepN dr P o st id tk K) : stepN dr P o st id tk K' := by
  have plain : stepN0 P o st id tk K → stepN0 P o st id tk K' := fun h => stepD_mono (fun d hd => hk _ hd) h
  unfold stepN at h ⊢
  split at h
  · split at h
    · refine bindO_mono (fun pf h => ?_) h
      split at h
      · exact bindO_mono (fun as h => CallOk.mono (fun p s h => hk _ h) h) h
      · exact h
    · refine bindO_mono (fun pf h => ?_) h
      split at h
      · refine bindO_mono (fun as h => ⟨h.1, ?_⟩) h
        cases h.2 with
        | mk g δ Q hd ok k => exact .mk g δ Q hd ok (fun r st' h => hk _ (k r st' h))
      · exact h
    · exact plain h
  · exact plain h
structure Row where
  b : Array Bool
  rd : List Nat
  m : Nat
theorem p_table {P : Program} {l0 : Nat × Nat} {st : PS} {Q : Exit → PS → Prop} {r n : Nat} {l : List Oper} (hn : l.length ≤ n) (tab : List Row) (ht : (tab.all fun e => decide (Region.ready .any l.toArray e.b = e.rd) && (e.m != 0 || e.rd.isEmpty)) = true)
    (D : Type) (I : Nat → D → PS) (inv : Nat → D → Prop) (d0 : D) (h0 : ((tab[0]?).any fun e => decide (e.b = Array.replicate l.length false) && decide (e.m ≤ l.length)) = true) (hi0 : inv 0 d0) (hw : Weak l0 st (I 0 d0))
    (step : allI (fun k e => ∀ d, inv k d → (e.rd = [] → Q .normal (I k d)) ∧ allL (fun n => bindO (l[n]?) fun o => dopsS P l.toArray 0 [o] (I k d) fun s' => ∃ k' d', ((tab[k']?).any fun e' => decide (e'.m < e.m) && decide (e'.b = e.b.setIfInBounds n true)) = true ∧ inv k' d' ∧ Weak l0 s' (I k' d')) e.rd) 0 tab) :
    pwp P ⟨l0, oneBar r n⟩ (.region r l.toArray true) st Q := by
  refine p_expl hn ?_
  rw [List.all_eq_true] at ht
  obtain ⟨e0, he0, h0⟩ : ∃ e0, tab[0]? = some e0 ∧ e0.b = Array.replicate l.length false ∧ e0.m ≤ l.length := by
    cases h : tab[0]? with
    | none => rw [h] at h0; cases h0
    | some e =>
      rw [h] at h0
      simp only [Option.any_some, Bool.and_eq_true, decide_eq_true_eq] at h0
      exact ⟨e, rfl, h0⟩
  show expl P l.toArray l0 st (Q .normal)
  refine ⟨{ x : Nat × D // (∃ e, tab[x.1]? = some e) ∧ inv x.1 x.2 }, fun x => I x.1.1 x.1.2, fun x => (tab[x.1.1]?.getD ⟨#[], [], 0⟩).b, fun x => (tab[x.1.1]?.getD ⟨#[], [], 0⟩).m, ⟨(0, d0), ⟨e0, he0⟩, hi0⟩, hw, by simp only [he0, Option.getD_some]; simpa using h0.1, by simp only [he0, Option.getD_some]; simpa using h0.2, ?_⟩
  rintro ⟨⟨k, d⟩, ⟨e, he⟩, hi⟩
  simp only at he hi
  have h1 := ht e (List.mem_of_getElem? he)
  simp only [Bool.and_eq_true, decide_eq_true_eq, Bool.or_eq_true, bne_iff_ne, ne_eq, List.isEmpty_iff] at h1
  have h2 := allI_get step k e he
  rw [Nat.zero_add] at h2
  obtain ⟨s1, s2⟩ := h2 d hi
  simp only [he, Option.getD_some, h1.1]
  refine ⟨s1, fun hm => h1.2.resolve_left (fun h => h hm), fun n hn => ?_⟩
  have h3 := bindO_elim (allL_mem s2 n hn)
  obtain ⟨o, ho, hd⟩ := h3
  rw [show l.toArray[n]? = l[n]? by simp, ho, bindO_some]
  have mono : ∀ {K K' : PS → Prop}, (∀ s, K s → K' s) → dopsS P l.toArray 0 [o] (I k d) K → dopsS P l.toArray 0 [o] (I k d) K' := fun {K K'} hK h => by
    simp only [dopsS] at h ⊢
    cases hg : o.guard with
    | none => rw [hg] at h; exact stepN_mono (fun s hs => hK _ hs) h
    | some gb =>
      obtain ⟨g, b⟩ := gb
      rw [hg] at h
      simp only at h ⊢
      unfold guardK at h ⊢
      refine bindO_mono (fun d h => bindO_mono (fun p h => ?_) h) h
      split at h
      · exact ⟨fun e => stepN_mono (fun s hs => hK _ hs) (h.1 e), fun e => hK _ (h.2 e)⟩
      · exact ⟨fun e => stepN_mono (fun s hs => hK _ hs) (h.1 e), fun e => hK _ (h.2 e)⟩
      · exact h
  refine mono ?_ hd
  rintro s' ⟨k', d', hk, hi', hw'⟩
  cases he' : tab[k']? with
  | none => rw [he'] at hk; cases hk
  | some e' =>
    rw [he'] at hk
    simp only [Option.any_some, Bool.and_eq_true, decide_eq_true_eq] at hk
    exact ⟨⟨(k', d'), ⟨e', he'⟩, hi'⟩, by simp only [he', Option.getD_some]; exact hk.1, by simp only [he', Option.getD_some]; exact hk.2, hw'⟩
end Go.Pw
