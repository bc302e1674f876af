/-
  Contracts and plain laws on the way to the statement; each says its own conditions.
-/
import Derived.Test.YtmfaejdnaippkaaDoorGQ3
import Derived.Test.YtmfaejdnaippkaaDoorGQ1
import Derived.Test.YtmfaejdnaippkaaDoorGQ4
section
/-
  A function that works on some objects and rows, proved where there are no others, taken where there are.
-/
namespace Go.Pw
open Go Go.RowKit
set_option linter.unusedVariables false
set_option linter.unusedSimpArgs false
mutual
/-- Other numbers: of the objects, of the rows. -/
def PV.rm (f g : Nat → Nat) : PV → PV
  | .val v => .val v
  | .sl xs => .sl xs
  | .row k xs => .row (g k) xs
  | .ptr i o => .ptr (f i) o
  | .ms i lo n c => .ms (f i) lo n c
  | .fp cs => .fp cs
  | .agg cs => .agg (PV.rmL f g cs)
  | .tup cs => .tup (PV.rmL f g cs)
  | .fn h cs => .fn h (PV.rmL f g cs)
  | .iface t p => .iface t (PV.rm f g p)
def PV.rmL (f g : Nat → Nat) : List PV → List PV
  | [] => []
  | p :: r => PV.rm f g p :: PV.rmL f g r
end
def PObj.rm (f g : Nat → Nat) : PObj → PObj
  | .box t cs => .box t (PV.rmL f g cs)
  | .iter s pos => .iter s pos
def rmH (f g : Nat → Nat) : List (Nat × PObj) → List (Nat × PObj)
  | [] => []
  | e :: r => (f e.1, e.2.rm f g) :: rmH f g r
def rmK (g : Nat → Nat) : List (Nat × Tok) → List (Nat × Tok)
  | [] => []
  | e :: r => (g e.1, e.2) :: rmK g r
def dropK (l : List Nat) : List (Nat × Tok) → List (Nat × Tok)
  | [] => []
  | e :: r => if inL e.1 l = true then dropK l r else e :: dropK l r
theorem rmL_get {f g : Nat → Nat} : ∀ {cs : List PV} (i : Nat), (PV.rmL f g cs)[i]? = (cs[i]?).map (PV.rm f g)
  | [], i => by simp [PV.rmL]
  | p :: r, 0 => by simp [PV.rmL]
  | p :: r, i + 1 => by simp [PV.rmL, rmL_get i]
theorem rmL_len {f g : Nat → Nat} : ∀ {cs : List PV}, (PV.rmL f g cs).length = cs.length
  | [] => rfl
  | p :: r => by rw [PV.rmL, List.length_cons, rmL_len, List.length_cons]
theorem dropK_lkp (l : List Nat) : ∀ (H : List (Nat × Tok)) (j : Nat), lkp (dropK l H) j = if j ∈ l then none else lkp H j
  | [], j => by simp [dropK, lkp]
  | (k, o) :: r, j => by
    have ih := dropK_lkp l r j
    simp only [dropK]
    split
    · rename_i hk
      rw [inL_iff] at hk
      rw [ih, lkp_cons]
      by_cases e : j = k
      · subst e; rw [if_pos hk, if_pos hk]
      · rw [if_neg e]
    · rename_i hk
      rw [inL_iff] at hk
      rw [lkp_cons, lkp_cons, ih]
      by_cases e : j = k
      · subst e; rw [if_pos rfl, if_neg hk, if_pos rfl]
      · rw [if_neg e, if_neg e]
theorem rmH_lkp {f g : Nat → Nat} (inj : ∀ i j, f i = f j → i = j) (H : List (Nat × PObj)) : ∀ (l : List (Nat × PObj)) (i : Nat), lkp H (f i) = none → lkp (rmH f g l ++ H) (f i) = (lkp l i).map (PObj.rm f g)
  | [], i, h => by simpa [rmH, lkp] using h
  | (k, o) :: r, i, h => by
    rw [rmH, List.cons_append, lkp_cons, lkp_cons, rmH_lkp inj H r i h]
    by_cases e : i = k
    · subst e; rw [if_pos rfl, if_pos rfl]; rfl
    · rw [if_neg e, if_neg (fun h => e (inj _ _ h))]
theorem rmH_out {f g : Nat → Nat} (H : List (Nat × PObj)) (j : Nat) (hj : ∀ i, f i ≠ j) : ∀ (l : List (Nat × PObj)), lkp (rmH f g l ++ H) j = lkp H j
  | [] => rfl
  | (k, o) :: r => by rw [rmH, List.cons_append, lkp_cons, rmH_out H j hj r, if_neg (fun h => hj k h.symm)]
theorem rmK_lkp {g : Nat → Nat} (inj : ∀ i j, g i = g j → i = j) (H : List (Nat × Tok)) : ∀ (l : List (Nat × Tok)) (i : Nat), lkp H (g i) = none → lkp (rmK g l ++ H) (g i) = lkp l i
  | [], i, h => by simpa [rmK, lkp] using h
  | (k, o) :: r, i, h => by
    rw [rmK, List.cons_append, lkp_cons, lkp_cons, rmK_lkp inj H r i h]
    by_cases e : i = k
    · subst e; rw [if_pos rfl, if_pos rfl]
    · rw [if_neg e, if_neg (fun h => e (inj _ _ h))]
theorem rmK_out {g : Nat → Nat} (H : List (Nat × Tok)) (j : Nat) (hj : ∀ i, g i ≠ j) : ∀ (l : List (Nat × Tok)), lkp (rmK g l ++ H) j = lkp H j
  | [] => rfl
  | (k, o) :: r => by rw [rmK, List.cons_append, lkp_cons, rmK_out H j hj r, if_neg (fun h => hj k h.symm)]
theorem RepV.rm {C C' : Cx} {T T' : List (Nat × Tok)} {U V U' V' : Nat → Prop} {f g : Nat → Nat} (hS : SLe C.S C'.S) (hU : ∀ i, U i → C'.ρ (f i) = C.ρ i ∧ U' (f i)) (hV : ∀ k, V k → C'.τ (g k) = C.τ k ∧ V' (g k) ∧ ∀ t, lkp T' (g k) = some t → lkp T k = some t) {v : Value} {p : PV} (r : RepV C T U V v p) :
    RepV C' T' U' V' v (p.rm f g) := by
  induction r with
  | @frz v p h =>
    have := h.mono hS
    cases h with
    | val h => exact .frz this
    | sl => exact .frz this
  | row h hk ht =>
    obtain ⟨h1, h2, h3⟩ := hV _ hk
    refine .row (h.mono hS) h2 (fun t h' => ?_)
    obtain ⟨g1, g2, g3⟩ := ht t (h3 t h')
    exact ⟨g1, g2, fun e => by rw [h1]; exact g3 e⟩
  | @ptr id off h => rw [← (hU _ h).1]; exact .ptr (hU _ h).2
  | @ms id lo n cap h hc => rw [← (hU _ h).1]; exact .ms (hU _ h).2 hc
  | fp h => exact .fp (fun i p hp => by obtain ⟨u, h1, h2⟩ := h i p hp; exact ⟨u, hS _ _ _ h1, h2.mono hS⟩)
  | agg hs h h1 ih =>
    refine .agg (by rw [rmL_len]; exact hs) (fun i v p hv hp => ?_) h1
    rw [rmL_get] at hp
    obtain ⟨q, hq, rfl⟩ := Option.map_eq_some_iff.1 hp
    exact ih i v q hv hq
  | tup hs h ih =>
    refine .tup (by rw [rmL_len]; exact hs) (fun i v p hv hp => ?_)
    rw [rmL_get] at hp
    obtain ⟨q, hq, rfl⟩ := Option.map_eq_some_iff.1 hp
    exact ih i v q hv hq
  | fn hs h ih =>
    refine .fn (by rw [rmL_len]; exact hs) (fun i v p hv hp => ?_)
    rw [rmL_get] at hp
    obtain ⟨q, hq, rfl⟩ := Option.map_eq_some_iff.1 hp
    exact ih i v q hv hq
  | iface h ih => exact .iface ih
mutual
theorem lt_low {a b a' b' : Nat} (ha : a ≤ a') (hb : b ≤ b') : ∀ (p : PV), p.lt a b = true → p.lt a' b' = true
  | .val v, _ => rfl
  | .sl xs, _ => rfl
  | .row k xs, h => by simp only [PV.lt, decide_eq_true_eq] at h ⊢; omega
  | .ptr i o, h => by simp only [PV.lt, decide_eq_true_eq] at h ⊢; omega
  | .ms i lo n c, h => by simp only [PV.lt, decide_eq_true_eq] at h ⊢; omega
  | .fp cs, _ => rfl
  | .agg cs, h => by simp only [PV.lt] at h ⊢; exact ltL_low ha hb cs h
  | .tup cs, h => by simp only [PV.lt] at h ⊢; exact ltL_low ha hb cs h
  | .fn g cs, h => by simp only [PV.lt] at h ⊢; exact ltL_low ha hb cs h
  | .iface t p, h => by simp only [PV.lt] at h ⊢; exact lt_low ha hb p h
theorem ltL_low {a b a' b' : Nat} (ha : a ≤ a') (hb : b ≤ b') : ∀ (l : List PV), PV.ltL a b l = true → PV.ltL a' b' l = true
  | [], _ => rfl
  | p :: r, h => by
    simp only [PV.ltL, Bool.and_eq_true] at h ⊢
    exact ⟨lt_low ha hb p h.1, ltL_low ha hb r h.2⟩
end
mutual
theorem rm_frz {f g : Nat → Nat} : ∀ (p : PV), p.lt 0 0 = true → p.rm f g = p
  | .val v, _ => rfl
  | .sl xs, _ => rfl
  | .row k xs, h => by simp [PV.lt] at h
  | .ptr i o, h => by simp [PV.lt] at h
  | .ms i lo n c, h => by simp [PV.lt] at h
  | .fp cs, _ => rfl
  | .agg cs, h => by simp only [PV.lt] at h; rw [PV.rm, rmL_frz cs h]
  | .tup cs, h => by simp only [PV.lt] at h; rw [PV.rm, rmL_frz cs h]
  | .fn h' cs, h => by simp only [PV.lt] at h; rw [PV.rm, rmL_frz cs h]
  | .iface t p, h => by simp only [PV.lt] at h; rw [PV.rm, rm_frz p h]
theorem rmL_frz {f g : Nat → Nat} : ∀ (l : List PV), PV.ltL 0 0 l = true → PV.rmL f g l = l
  | [], _ => rfl
  | p :: r, h => by
    simp only [PV.ltL, Bool.and_eq_true] at h
    rw [PV.rmL, rm_frz p h.1, rmL_frz r h.2]
end
theorem OkI.mono' {P : Program} {f : FuncId} {args : List PV} {st : PS} {Q Q' : PV → PS → Prop} (h : OkI P f args st Q) (k : ∀ r s, Q r s → Q' r s) : OkI P f args st Q' :=
  ⟨h.1, fun own S0 w0 w C vals R hn hr => (h.2 own S0 w0 w C vals R hn hr).mono (by
    rintro e w' ⟨r, s, v, C', hq, rest⟩
    exact ⟨r, s, v, C', k r s hq, rest⟩)⟩
section
variable {P : Program}
/-- Values whose objects and rows are among the first ones. -/
theorem RepV.backT {C C0 : Cx} {T T0 : List (Nat × Tok)} {U V : Nat → Prop} {f g : Nat → Nat} {m mt : Nat} (hS : SLe C.S C0.S) (hρ : ∀ i, i < m → C0.ρ i = C.ρ (f i)) (hτ : ∀ i, i < mt → C0.τ i = C.τ (g i)) (hT : ∀ i t, lkp T0 i = some t → lkp T (g i) = some t) {v : Value} {q : PV} (r : RepV C T U V v q) :
    ∀ {p : PV}, p.rm f g = q → p.lt m mt = true → RepV C0 T0 (· < m) (· < mt) v p := by
  induction r with
  | @frz v q h =>
    intro p e hl
    cases p with
    | val u => simp only [PV.rm] at e; subst e; exact .frz (h.mono hS)
    | sl xs => simp only [PV.rm] at e; subst e; exact .frz (h.mono hS)
    | _ => simp only [PV.rm] at e; subst e; cases h
  | @row v tok xs h hk ht =>
    intro p e hl
    cases p with
    | row k ys =>
      simp only [PV.rm, PV.row.injEq] at e
      obtain ⟨e1, rfl⟩ := e
      have hi : k < mt := by simpa [PV.lt] using hl
      refine .row (h.mono hS) hi (fun t h' => ?_)
      obtain ⟨g1, g2, g3⟩ := ht t (e1 ▸ hT k t h')
      exact ⟨g1, g2, fun e => by rw [hτ k hi, e1]; exact g3 e⟩
    | _ => simp [PV.rm] at e
  | @ptr id off h =>
    intro p e hl
    cases p with
    | ptr i o =>
      simp only [PV.rm, PV.ptr.injEq] at e
      obtain ⟨e1, rfl⟩ := e
      have hi : i < m := by simpa [PV.lt] using hl
      rw [← e1, ← hρ i hi]
      exact .ptr hi
    | _ => simp [PV.rm] at e
  | @ms id lo n cap h hc =>
    intro p e hl
    cases p with
    | ms i lo' n' cap' =>
      simp only [PV.rm, PV.ms.injEq] at e
      obtain ⟨e1, rfl, rfl, rfl⟩ := e
      have hi : i < m := by simpa [PV.lt] using hl
      rw [← e1, ← hρ i hi]
      exact .ms hi hc
    | _ => simp [PV.rm] at e
  | fp h =>
    intro p e hl
    cases p with
    | fp cs => simp only [PV.rm, PV.fp.injEq] at e; subst e; exact .fp (fun i p hp => by obtain ⟨u, h1, h2⟩ := h i p hp; exact ⟨u, hS _ _ _ h1, h2.mono hS⟩)
    | _ => simp [PV.rm] at e
  | agg hs h h1 ih =>
    intro p e hl
    cases p with
    | agg cs =>
      simp only [PV.rm, PV.agg.injEq] at e
      subst e
      rw [rmL_len] at hs
      refine .agg hs (fun i v p hv hp => ?_) h1
      exact ih i v (p.rm f g) hv (by rw [rmL_get, hp]; rfl) rfl (ltL_get (by simpa [PV.lt] using hl) p (List.mem_of_getElem? hp))
    | _ => simp [PV.rm] at e
  | tup hs h ih =>
    intro p e hl
    cases p with
    | tup cs =>
      simp only [PV.rm, PV.tup.injEq] at e
      subst e
      rw [rmL_len] at hs
      exact .tup hs (fun i v p hv hp => ih i v (p.rm f g) hv (by rw [rmL_get, hp]; rfl) rfl (ltL_get (by simpa [PV.lt] using hl) p (List.mem_of_getElem? hp)))
    | _ => simp [PV.rm] at e
  | fn hs h ih =>
    intro p e hl
    cases p with
    | fn h' cs =>
      simp only [PV.rm, PV.fn.injEq] at e
      obtain ⟨rfl, rfl⟩ := e
      rw [rmL_len] at hs
      exact .fn hs (fun i v p hv hp => ih i v (p.rm f g) hv (by rw [rmL_get, hp]; rfl) rfl (ltL_get (by simpa [PV.lt] using hl) p (List.mem_of_getElem? hp)))
    | _ => simp [PV.rm] at e
  | iface h ih =>
    intro p e hl
    cases p with
    | iface t p =>
      simp only [PV.rm, PV.iface.injEq] at e
      obtain ⟨rfl, e⟩ := e
      exact .iface (ih e (by simpa [PV.lt] using hl))
    | _ => simp [PV.rm] at e
theorem rnF_low {l : List Nat} {nx : Nat} (hlt : ∀ j ∈ l, j < nx) : ∀ i, i < l.length → rnF l nx i ∈ l ∧ rnF l nx i < nx ∧ l[i]? = some (rnF l nx i) := fun i hi => by
  have h1 : l[i]? = some (l[i]'(by omega)) := List.getElem?_eq_getElem (by omega)
  have : rnF l nx i = l[i]'(by omega) := by unfold rnF; rw [h1]
  rw [this]
  exact ⟨List.getElem_mem _, hlt _ (List.getElem_mem _), h1⟩
theorem rnF_high {l : List Nat} {nx : Nat} : ∀ i, l.length ≤ i → rnF l nx i = i - l.length + nx := fun i hi => by
  have h1 : l[i]? = none := List.getElem?_eq_none (by omega)
  unfold rnF; rw [h1]
theorem rnF_inj {l : List Nat} {nx : Nat} (hnd : l.Nodup) (hlt : ∀ j ∈ l, j < nx) : ∀ i j, rnF l nx i = rnF l nx j → i = j := fun i j e => by
  rcases Nat.lt_or_ge i l.length with h1 | h1 <;> rcases Nat.lt_or_ge j l.length with h2 | h2
  · obtain ⟨_, _, g1⟩ := rnF_low hlt i h1
    obtain ⟨_, _, g2⟩ := rnF_low hlt j h2
    rw [← e] at g2
    exact (List.getElem?_inj (show i < l.length by omega) hnd).1 (g1.trans g2.symm)
  · have := (rnF_low hlt i h1).2.1; rw [e, rnF_high j h2] at this; omega
  · have := (rnF_low hlt j h2).2.1; rw [← e, rnF_high i h1] at this; omega
  · rw [rnF_high i h1, rnF_high j h2] at e; omega
set_option maxHeartbeats 1000000 in
/-- ████ A function that works on some objects and rows, proved where there are no others, taken where there are. -/
theorem OkI.frameT {g0 : FuncId} {st : PS} {h0 : List (Nat × PObj)} {t0 : List (Nat × Tok)} {as0 ags : List PV} {Q : PV → PS → Prop} (l lt : List Nat) (ok : OkI P g0 as0 ⟨[], h0, t0, l.length, lt.length⟩ Q) (hnd : l.Nodup) (hlt : ∀ j ∈ l, j < st.nx)
    (hndt : lt.Nodup) (hltt : ∀ j ∈ lt, j < st.nt)
    (hh : ∀ e ∈ h0, e.1 < l.length ∧ e.2.lt l.length lt.length = true ∧ lkp st.heap (rnF l st.nx e.1) = some (e.2.rm (rnF l st.nx) (rnF lt st.nt)))
    (ht : ∀ e ∈ t0, e.1 < lt.length ∧ lkp st.toks (rnF lt st.nt e.1) = some e.2)
    (hal : PV.ltL l.length lt.length as0 = true) (ha : PV.rmL (rnF l st.nx) (rnF lt st.nt) as0 = ags) :
    OkI P g0 ags st (fun r st' => ∃ r0 s, Q r0 s ∧ r = r0.rm (rnF l st.nx) (rnF lt st.nt) ∧ st' = ⟨st.env, rmH (rnF l st.nx) (rnF lt st.nt) s.heap ++ dropH l st.heap, rmK (rnF lt st.nt) s.toks ++ dropK lt st.toks, s.nx - l.length + st.nx, s.nt - lt.length + st.nt⟩) := by
  subst ha
  have flow0 := rnF_low hlt
  have fhigh0 := rnF_high (l := l) (nx := st.nx)
  have inj0 := rnF_inj hnd hlt
  have glow0 := rnF_low hltt
  have ghigh0 := rnF_high (l := lt) (nx := st.nt)
  have ginj0 := rnF_inj hndt hltt
  obtain ⟨m, hm⟩ : ∃ m, m = l.length := ⟨_, rfl⟩
  obtain ⟨mt, hmt⟩ : ∃ m, m = lt.length := ⟨_, rfl⟩
  obtain ⟨f, hf⟩ : ∃ f, f = rnF l st.nx := ⟨_, rfl⟩
  obtain ⟨g, hg⟩ : ∃ g, g = rnF lt st.nt := ⟨_, rfl⟩
  rw [← hf, ← hg] at hh ⊢
  rw [← hg] at ht
  rw [← hm, ← hmt] at ok hh hal ⊢
  rw [← hmt] at ht
  rw [← hf, ← hm] at flow0
  rw [← hf] at inj0
  rw [← hf, ← hm] at fhigh0
  rw [← hg, ← hmt] at glow0
  rw [← hg] at ginj0
  rw [← hg, ← hmt] at ghigh0
  have flow := flow0
  have fhigh := fhigh0
  have inj := inj0
  have glow := glow0
  have ghigh := ghigh0
  have ginj := ginj0
  have hh' : ∀ i o, lkp h0 i = some o → i < m ∧ o.lt m mt = true ∧ lkp st.heap (f i) = some (o.rm f g) := fun i o h => hh _ (lkp_mem h)
  have ht' : ∀ i t, lkp t0 i = some t → i < mt ∧ lkp st.toks (g i) = some t := fun i o h => ht _ (lkp_mem h)
  refine ⟨ok.1, fun own S0 w0 w C vals R hn hr => ?_⟩
  let own' : Nat → Prop := fun b => (∃ i o, lkp h0 i = some o ∧ b = C.ρ (f i)) ∨ (∃ k t, lkp t0 k = some t ∧ b = (C.τ (g k)).1)
  let Ci : Cx := ⟨fun i => C.ρ (f i), fun k => C.τ (g k), C.S⟩
  have own'_ok : ∀ b, own' b → b < w.heap.size ∧ (own b ∨ w0.heap.size ≤ b) := by
    rintro b (⟨i, o, h, rfl⟩ | ⟨k, t, h, rfl⟩)
    · exact ⟨(R.hown _ _ (hh' i o h).2.2).2.1, (R.hown _ _ (hh' i o h).2.2).2.2.1⟩
    · obtain ⟨g1, g2, ⟨us, g3, g4⟩, _⟩ := R.tok _ _ (ht' k t h).2
      exact ⟨(Array.getElem?_eq_some_iff.1 g3).1, g2⟩
  have hs0 := R.frame.size
  have bk : ∀ {v : Value} {p : PV}, RepV C st.toks (· < st.nx) (· < st.nt) v (p.rm f g) → p.lt m mt = true → RepV Ci t0 (· < m) (· < mt) v p := fun r hl =>
    RepV.backT (C := C) (C0 := Ci) (f := f) (g := g) (m := m) (mt := mt) (SLe.refl _) (fun _ _ => rfl) (fun _ _ => rfl) (fun i t h => (ht' i t h).2) r rfl hl
  have Rin : Rel own' ⟨C.S, Ci, t0, (· < m), (· < mt)⟩ w Ci (· < m) (· < mt) ⟨[], h0, t0, m, mt⟩ w := by
    refine ⟨Frame.refl _ _, R.stable, ?_, ?_, ?_, ?_, ?_, ?_, ?_, fun b o v h => .inl h, SLe.refl _, Ext.refl _ _ _ _, ⟨R.known.2, R.known.1, ?_⟩⟩
    · intro i T cs h
      obtain ⟨h1, h2, h3⟩ := hh' i _ h
      obtain ⟨us, g1, g2, g3⟩ := R.box _ T _ h3
      rw [rmL_len] at g2
      refine ⟨us, g1, g2, fun k v p hv hp => ?_⟩
      obtain ⟨g4, g5⟩ := g3 k v (p.rm f g) hv (by rw [rmL_get, hp]; rfl)
      exact ⟨g4, bk g5 (ltL_get h2 p (List.mem_of_getElem? hp))⟩
    · intro i s pos h
      exact R.iter _ s pos (hh' i _ h).2.2
    · intro i o h
      obtain ⟨h1, h2, h3⟩ := hh' i o h
      obtain ⟨g1, g2, g3, g4⟩ := R.hown _ _ h3
      exact ⟨h1, g2, .inl (.inl ⟨i, o, h, rfl⟩), g4⟩
    · intro i j oi oj h1 h2 he
      exact inj i j (R.hinj _ _ _ _ (hh' i oi h1).2.2 (hh' j oj h2).2.2 he)
    · intro k t h
      obtain ⟨h1, h2⟩ := ht' k t h
      obtain ⟨g1, g2, g3, g4⟩ := R.tok _ _ h2
      exact ⟨h1, .inl (.inr ⟨k, t, h, rfl⟩), g3, g4⟩
    · intro i oi k t h1 h2
      exact R.tbox _ _ _ _ (hh' i oi h1).2.2 (ht' k t h2).2
    · intro i j ti tj h1 h2 he
      exact ginj i j (R.tinj _ _ _ _ (ht' i ti h1).2 (ht' j tj h2).2 he)
    · intro b hb ho
      obtain ⟨_, g3⟩ := own'_ok b ho
      rcases g3 with g3 | g3
      · exact R.glob.own _ hb g3
      · have := R.glob.size; omega
  refine (ok.2 own' ⟨C.S, Ci, t0, (· < m), (· < mt)⟩ w w Ci vals Rin (by rw [hn, rmL_len]) (fun i v p hv hp => ?_)).mono ?_
  · exact bk (hr i v (p.rm f g) hv (by rw [rmL_get, hp]; rfl)) (ltL_get hal p (List.mem_of_getElem? hp))
  rintro e w' ⟨r0, s, v, C1, hq, rfl, R1, X1, hrep⟩
  have hms : m ≤ s.nx := by
    rcases Nat.eq_zero_or_pos m with h | h
    · omega
    · have : m - 1 < s.nx := X1.nx (m - 1) (by show m - 1 < m; omega)
      omega
  have hmst : mt ≤ s.nt := by
    rcases Nat.eq_zero_or_pos mt with h | h
    · omega
    · have : mt - 1 < s.nt := X1.nt (mt - 1) (by show mt - 1 < mt; omega)
      omega
  have ρ1 : ∀ i, i < m → C1.ρ i = C.ρ (f i) := fun i hi => X1.ρ i hi
  have hH : ∀ j, st.nx ≤ j → lkp st.heap j = none := fun j hj => by
    cases h : lkp st.heap j with
    | none => rfl
    | some o => have := (R.hown j o h).1; omega
  have hT : ∀ j, st.nt ≤ j → lkp st.toks j = none := fun j hj => by
    cases h : lkp st.toks j with
    | none => rfl
    | some o => have := (R.tok j o h).1; omega
  have lDk := dropK_lkp lt st.toks
  have bel : ∀ k, k < w.heap.size → ¬ own' k → w'.heap[k]? = w.heap[k]? := fun k hk hn => R1.frame.block k hk hn
  have ltw : ∀ {b : Nat} {x : Obj}, w.heap[b]? = some x → b < w.heap.size := fun h => (Array.getElem?_eq_some_iff.1 h).1
  have snone : ∀ b o, b < w.heap.size → ¬ own' b → C.S b o = none → C1.S b o = none := fun b o hb hno h => by
    cases h' : C1.S b o with
    | none => rfl
    | some v =>
      rcases R1.snew b o v h' with h1 | h1 | h1
      · replace h1 : C.S b o = some v := h1
        rw [h] at h1; cases h1
      · exact absurd h1 hno
      · omega
  -- an object of the caller's that isn't handed over
  have apart : ∀ j o, lkp st.heap j = some o → j ∉ l → ¬ own' (C.ρ j) := by
    rintro j o h hj (⟨i, o', h1, h2⟩ | ⟨k, t, h1, h2⟩)
    · obtain ⟨g1, _, g3⟩ := hh' i o' h1
      have := R.hinj _ _ _ _ h g3 h2
      rw [this] at hj
      exact hj (flow i g1).1
    · exact R.tbox _ _ _ _ h (ht' k t h1).2 h2
  have tokApart : ∀ k t, lkp st.toks k = some t → k ∉ lt → ¬ own' (C.τ k).1 := by
    rintro k t h hk (⟨i, o, h1, h2⟩ | ⟨k', t', h1, h2⟩)
    · exact R.tbox _ _ k t (hh' i o h1).2.2 h h2.symm
    · obtain ⟨g1, g3⟩ := ht' k' t' h1
      have := R.tinj _ _ _ _ h g3 h2
      rw [this] at hk
      exact hk (glow k' g1).1
  have placeB : ∀ i o, lkp s.heap i = some o → own' (C1.ρ i) ∨ w.heap.size ≤ C1.ρ i := fun i o h => (R1.hown i o h).2.2.1
  have placeT : ∀ i t, lkp s.toks i = some t → own' (C1.τ i).1 ∨ w.heap.size ≤ (C1.τ i).1 := fun i t h => (R1.tok i t h).2.1
  let C2 : Cx := ⟨fun j => if j ∈ l then C.ρ j else if j < st.nx then C.ρ j else C1.ρ (j - st.nx + m), fun j => if j ∈ lt then C1.τ (lt.idxOf j) else if j < st.nt then C.τ j else C1.τ (j - st.nt + mt), C1.S⟩
  have ρo : ∀ i, i < st.nx → C2.ρ i = C.ρ i := fun i h => by
    show (if _ then _ else if _ then _ else _) = _
    by_cases hi : i ∈ l
    · rw [if_pos hi]
    · rw [if_neg hi, if_pos h]
  have ρf : ∀ i, C2.ρ (f i) = C1.ρ i := fun i => by
    rcases Nat.lt_or_ge i m with h | h
    · rw [ρo _ (flow i h).2.1, ρ1 i h]
    · rw [fhigh i h]
      show (if _ then _ else if _ then _ else _) = _
      rw [if_neg (fun hj => by have := hlt _ hj; omega), if_neg (by omega)]
      congr 1; omega
  have τo : ∀ i, i < st.nt → i ∉ lt → C2.τ i = C.τ i := fun i h hi => by
    show (if _ then _ else if _ then _ else _) = _
    rw [if_neg hi, if_pos h]
  have τg : ∀ i, C2.τ (g i) = C1.τ i := fun i => by
    rcases Nat.lt_or_ge i mt with h | h
    · obtain ⟨g1, g2, g3⟩ := glow i h
      show (if _ then _ else if _ then _ else _) = _
      rw [if_pos g1]
      congr 1
      have h4 : lt[lt.idxOf (g i)]? = some (g i) := by
        rw [List.getElem?_eq_getElem (List.idxOf_lt_length_iff.2 g1), List.getElem_idxOf]
      exact (List.getElem?_inj (List.idxOf_lt_length_iff.2 g1) hndt).1 (h4.trans g3.symm)
    · rw [ghigh i h]
      show (if _ then _ else if _ then _ else _) = _
      rw [if_neg (fun hj => by have := hltt _ hj; omega), if_neg (by omega)]
      congr 1; omega
  have fU : ∀ i, i < s.nx → f i < s.nx - m + st.nx := fun i hi => by
    rcases Nat.lt_or_ge i m with h | h
    · have := (flow i h).2.1; omega
    · rw [fhigh i h]; omega
  have gU : ∀ i, i < s.nt → g i < s.nt - mt + st.nt := fun i hi => by
    rcases Nat.lt_or_ge i mt with h | h
    · have := (glow i h).2.1; omega
    · rw [ghigh i h]; omega
  have lD := dropH_lkp l st.heap
  have split : ∀ j o, lkp (rmH f g s.heap ++ dropH l st.heap) j = some o → (j < st.nx ∧ j ∉ l ∧ lkp st.heap j = some o ∧ C2.ρ j = C.ρ j) ∨ (∃ i o', j = f i ∧ lkp s.heap i = some o' ∧ o = o'.rm f g ∧ C2.ρ j = C1.ρ i) := fun j o h => by
    by_cases hj : ∃ i, f i = j
    · obtain ⟨i, rfl⟩ := hj
      rw [rmH_lkp inj] at h
      · obtain ⟨o', h1, rfl⟩ := Option.map_eq_some_iff.1 h
        exact .inr ⟨i, o', rfl, h1, rfl, ρf i⟩
      · rw [lD]
        rcases Nat.lt_or_ge i m with hi | hi
        · rw [if_pos (flow i hi).1]
        · split
          · rfl
          · exact hH _ (by rw [fhigh i hi]; omega)
    · rw [rmH_out _ j (fun i e => hj ⟨i, e⟩), lD] at h
      split at h
      · cases h
      · rename_i hjl
        have hjx : j < st.nx := (R.hown j o h).1
        exact .inl ⟨hjx, hjl, h, ρo j hjx⟩
  have splitT : ∀ j t, lkp (rmK g s.toks ++ dropK lt st.toks) j = some t → (j < st.nt ∧ j ∉ lt ∧ lkp st.toks j = some t ∧ C2.τ j = C.τ j) ∨ (∃ i, j = g i ∧ lkp s.toks i = some t ∧ C2.τ j = C1.τ i) := fun j t h => by
    by_cases hj : ∃ i, g i = j
    · obtain ⟨i, rfl⟩ := hj
      rw [rmK_lkp ginj] at h
      · exact .inr ⟨i, rfl, h, τg i⟩
      · rw [lDk]
        rcases Nat.lt_or_ge i mt with hi | hi
        · rw [if_pos (glow i hi).1]
        · split
          · rfl
          · exact hT _ (by rw [ghigh i hi]; omega)
    · rw [rmK_out _ j (fun i e => hj ⟨i, e⟩), lDk] at h
      split at h
      · cases h
      · rename_i hjl
        have hjx : j < st.nt := (R.tok j t h).1
        exact .inl ⟨hjx, hjl, h, τo j hjx hjl⟩
  have X : Ext C C2 st.toks (rmK g s.toks ++ dropK lt st.toks) (· < st.nx) (· < st.nt) (· < s.nx - m + st.nx) (· < s.nt - mt + st.nt) := by
    refine ⟨R1.sold, fun i hi => ρo i hi, fun k t hk h => ?_, fun i (hi : i < st.nx) => Nat.lt_of_lt_of_le hi (Nat.le_add_left _ _), fun i (hi : i < st.nt) => Nat.lt_of_lt_of_le hi (Nat.le_add_left _ _)⟩
    have hk' : k < st.nt := hk
    rcases splitT k t h with ⟨h1, h2, h3, h4⟩ | ⟨i, h1, h2, h3⟩
    · exact ⟨t, h3, Nat.le_refl _, rfl, fun _ => h4⟩
    · have hi : i < mt := by
        rcases Nat.lt_or_ge i mt with hi | hi
        · exact hi
        · rw [ghigh i hi] at h1; omega
      obtain ⟨t1, g1, g2, g3, g4⟩ := X1.tok i t hi h2
      exact ⟨t1, by rw [h1]; exact (ht' i t1 g1).2, g2, g3, fun e => by rw [h3, g4 e, h1]⟩
  have shV : ∀ {v : Value} {p : PV}, RepV C1 s.toks (· < s.nx) (· < s.nt) v p → RepV C2 (rmK g s.toks ++ dropK lt st.toks) (· < s.nx - m + st.nx) (· < s.nt - mt + st.nt) v (p.rm f g) := fun r => by
    refine RepV.rm (C := C1) (C' := C2) (SLe.refl _) (fun i (hi : i < s.nx) => ⟨ρf i, fU i hi⟩) (fun k (hk : k < s.nt) => ⟨τg k, gU k hk, fun t h => ?_⟩) r
    rcases splitT _ t h with ⟨h1, h2, h3, h4⟩ | ⟨i, h1, h2, h3⟩
    · exfalso
      rcases Nat.lt_or_ge k mt with hi | hi
      · exact h2 (glow k hi).1
      · rw [ghigh k hi] at h1; omega
    · rw [ginj _ _ h1]; exact h2
  have far : ∀ b, own' b ∨ w.heap.size ≤ b → own b ∨ w0.heap.size ≤ b := fun b h => by
    rcases h with h | h
    · exact (own'_ok b h).2
    · exact .inr (by omega)
  refine ⟨_, _, v, C2, ⟨r0, s, hq, rfl, rfl⟩, rfl, ⟨⟨R1.frame.os.trans R.frame.os, R1.frame.tape.trans R.frame.tape, R1.frame.output.trans R.frame.output, Nat.le_trans hs0 R1.frame.size, fun k hk hn => ?_⟩, R1.stable, ?_, ?_, ?_, ?_, ?_, ?_, ?_, ?_, fun b o v h => R1.sold b o v (R.sold b o v h), R.base.trans X, R.glob⟩, X, shV hrep⟩
  · rw [bel k (by omega) (fun h => ?_)]
    · exact R.frame.block k hk hn
    · rcases (own'_ok k h).2 with h1 | h1
      · exact hn h1
      · omega
  · intro j T cs h
    rcases split j _ h with ⟨h1, h2, h3, h4⟩ | ⟨i, o', h1, h2, h3, h4⟩
    · obtain ⟨us, g1, g2, g3⟩ := R.box j T cs h3
      exact ⟨us, by rw [h4, bel _ (ltw g1) (apart j _ h3 h2)]; exact g1, g2, fun i v p hv hp => ⟨(g3 i v p hv hp).1, (g3 i v p hv hp).2.ext X⟩⟩
    · cases o' with
      | iter s pos => cases h3
      | box T' cs' =>
        obtain ⟨rfl, rfl⟩ := PObj.box.inj h3
        obtain ⟨us, g1, g2, g3⟩ := R1.box _ T cs' h2
        refine ⟨us, by rw [h4]; exact g1, by rw [rmL_len]; exact g2, fun i v p hv hp => ?_⟩
        rw [rmL_get] at hp
        obtain ⟨q, hq, rfl⟩ := Option.map_eq_some_iff.1 hp
        exact ⟨(g3 i v q hv hq).1, shV (g3 i v q hv hq).2⟩
  · intro j sx pos h
    rcases split j _ h with ⟨h1, h2, h3, h4⟩ | ⟨i, o', h1, h2, h3, h4⟩
    · have g1 := R.iter j sx pos h3
      rw [h4, bel _ (ltw g1) (apart j _ h3 h2)]; exact g1
    · cases o' with
      | box T' cs' => cases h3
      | iter s' pos' =>
        obtain ⟨rfl, rfl⟩ := PObj.iter.inj h3
        rw [h4]; exact R1.iter _ _ _ h2
  · intro j o h
    rcases split j _ h with ⟨h1, h2, h3, h4⟩ | ⟨i, o', h1, h2, h3, h4⟩
    · obtain ⟨g1, g2, g3, g4⟩ := R.hown j o h3
      exact ⟨by show j < s.nx - m + st.nx; omega, by rw [h4]; have := R1.frame.size; omega, by rw [h4]; exact g3, fun o' => by rw [h4]; exact snone _ o' g2 (apart j _ h3 h2) (g4 o')⟩
    · obtain ⟨g1, g2, g3, g4⟩ := R1.hown _ o' h2
      exact ⟨by rw [h1]; exact fU i g1, by rw [h4]; exact g2, by rw [h4]; exact far _ (placeB i o' h2), fun o' => by rw [h4]; exact g4 o'⟩
  · intro i j oi oj h1 h2 he
    rcases split i _ h1 with ⟨a1, a2, a3, a4⟩ | ⟨i', o1, a1, a2, a3, a4⟩ <;> rcases split j _ h2 with ⟨b1, b2, b3, b4⟩ | ⟨j', o2, b1, b2, b3, b4⟩
    · rw [a4, b4] at he; exact R.hinj i j _ _ a3 b3 he
    · rw [a4, b4] at he
      rcases placeB _ _ b2 with h | h
      · rw [← he] at h; exact absurd h (apart i _ a3 a2)
      · have := (R.hown i _ a3).2.1; omega
    · rw [a4, b4] at he
      rcases placeB _ _ a2 with h | h
      · rw [he] at h; exact absurd h (apart j _ b3 b2)
      · have := (R.hown j _ b3).2.1; omega
    · rw [a4, b4] at he
      rw [a1, b1, R1.hinj _ _ _ _ a2 b2 he]
  · intro k t h
    rcases splitT k t h with ⟨h1, h2, h3, h4⟩ | ⟨i, h1, h2, h3⟩
    · obtain ⟨g1, g2, ⟨us, g3, g4⟩, g5, g6, g7⟩ := R.tok k t h3
      rw [h4]
      exact ⟨by show k < s.nt - mt + st.nt; omega, g2, ⟨us, by rw [bel _ (ltw g3) (tokApart k t h3 h2)]; exact g3, g4⟩, g5, g6, fun o ho => snone _ o (ltw g3) (tokApart k t h3 h2) (g7 o ho)⟩
    · obtain ⟨g1, g2, g3, g5, g6, g7⟩ := R1.tok _ t h2
      rw [h3]
      exact ⟨by rw [h1]; exact gU i g1, far _ (placeT _ _ h2), g3, g5, g6, g7⟩
  · intro i oi k t h1 h2
    rcases split i _ h1 with ⟨a1, a2, a3, a4⟩ | ⟨i', o1, a1, a2, a3, a4⟩ <;> rcases splitT k t h2 with ⟨b1, b2, b3, b4⟩ | ⟨k', b1, b2, b3⟩
    · rw [a4, b4]; exact R.tbox i _ k t a3 b3
    · rw [a4, b3]
      intro he
      rcases placeT _ _ b2 with h | h
      · rw [← he] at h; exact apart i _ a3 a2 h
      · have := (R.hown i _ a3).2.1; omega
    · rw [a4, b4]
      intro he
      obtain ⟨_, _, ⟨us, g3, _⟩, _⟩ := R.tok k t b3
      rcases placeB _ _ a2 with h | h
      · rw [he] at h; exact tokApart k t b3 b2 h
      · have := ltw g3; omega
    · rw [a4, b3]; exact R1.tbox _ _ _ t a2 b2
  · intro i j ti tj h1 h2 he
    rcases splitT i _ h1 with ⟨a1, a2, a3, a4⟩ | ⟨i', a1, a2, a3⟩ <;> rcases splitT j _ h2 with ⟨b1, b2, b3, b4⟩ | ⟨j', b1, b2, b3⟩
    · rw [a4, b4] at he; exact R.tinj i j _ _ a3 b3 he
    · rw [a4, b3] at he
      obtain ⟨_, _, ⟨us, g3, _⟩, _⟩ := R.tok i _ a3
      rcases placeT _ _ b2 with h | h
      · rw [← he] at h; exact absurd h (tokApart i _ a3 a2)
      · have := ltw g3; omega
    · rw [a3, b4] at he
      obtain ⟨_, _, ⟨us, g3, _⟩, _⟩ := R.tok j _ b3
      rcases placeT _ _ a2 with h | h
      · rw [he] at h; exact absurd h (tokApart j _ b3 b2)
      · have := ltw g3; omega
    · rw [a3, b3] at he
      have := R1.tinj _ _ _ _ a2 b2 he
      rw [a1, b1, this]
  · intro b o u h
    rcases R1.snew b o u h with h1 | h1
    · exact R.snew b o u h1
    · exact .inr (far b h1)
/-- A result, with rows read ags what they hold. -/
def frR (p : PV) : PV := (fzA p).getD p
def outF (P : Program) (fn : Func) (L : Nat × Nat) (Q : PV → PS → Prop) : Exit → PS → Prop
  | .normal, st => bindO (resAll P st fn.results.toList) fun l => ∃ st', Q (packR (l.map frR)) st' ∧ Weak L { st with env := [(0, packR (l.map frR))] } { st' with env := [(0, packR (l.map frR))] }
  | .ret, st => bindO (resAll P st fn.results.toList) fun l => ∃ st', Q (packR (l.map frR)) st' ∧ Weak L { st with env := [(0, packR (l.map frR))] } { st' with env := [(0, packR (l.map frR))] }
  | _, _ => False
end
section
variable {P : Program} {own : Nat → Prop} {S0 : Base} {w0 w : World} {C : Cx} {U V : Nat → Prop} {st : PS}
mutual
/-- A pointer to what isn't written any more. -/
def PV.pf (i : Nat) (ds : List PV) : PV → PV
  | .val v => .val v
  | .sl xs => .sl xs
  | .row k xs => .row k xs
  | .ptr j o => if j = i then .fp (ds.drop o) else .ptr j o
  | .ms i lo n c => .ms i lo n c
  | .fp cs => .fp cs
  | .agg cs => .agg (PV.pfL i ds cs)
  | .tup cs => .tup (PV.pfL i ds cs)
  | .fn h cs => .fn h (PV.pfL i ds cs)
  | .iface t p => .iface t (PV.pf i ds p)
def PV.pfL (i : Nat) (ds : List PV) : List PV → List PV
  | [] => []
  | p :: r => PV.pf i ds p :: PV.pfL i ds r
end
theorem pfL_get {i : Nat} {ds : List PV} : ∀ {cs : List PV} (j : Nat), (PV.pfL i ds cs)[j]? = (cs[j]?).map (PV.pf i ds)
  | [], j => by simp [PV.pfL]
  | p :: r, 0 => by simp [PV.pfL]
  | p :: r, j + 1 => by simp [PV.pfL, pfL_get j]
theorem pfL_len {i : Nat} {ds : List PV} : ∀ {cs : List PV}, (PV.pfL i ds cs).length = cs.length
  | [] => rfl
  | p :: r => by rw [PV.pfL, List.length_cons, pfL_len, List.length_cons]
theorem RepV.pf {T : List (Nat × Tok)} {i : Nat} {ds : List PV} (h : ∀ (off : Nat) (j : Nat) (p : PV), (ds.drop off)[j]? = some p → ∃ u, C.S (C.ρ i) (off + j) = some u ∧ RepF C.S u p) {v : Value} {p : PV} (r : RepV C T U V v p) : RepV C T U V v (p.pf i ds) := by
  induction r with
  | @frz v p h' =>
    cases h' with
    | val h1 => exact .frz (.val h1)
    | sl f a b c d e => exact .frz (.sl f a b c d e)
  | row h hk ht => exact .row h hk ht
  | @ptr id off hU =>
    simp only [PV.pf]
    split
    · rename_i e
      subst e
      exact .fp (h off)
    · exact .ptr hU
  | ms h hc => exact .ms h hc
  | fp h => exact .fp h
  | agg hs h h1 ih =>
    refine .agg (by rw [pfL_len]; exact hs) (fun i v p hv hp => ?_) h1
    rw [pfL_get] at hp
    obtain ⟨q, hq, rfl⟩ := Option.map_eq_some_iff.1 hp
    exact ih i v q hv hq
  | tup hs h ih =>
    refine .tup (by rw [pfL_len]; exact hs) (fun i v p hv hp => ?_)
    rw [pfL_get] at hp
    obtain ⟨q, hq, rfl⟩ := Option.map_eq_some_iff.1 hp
    exact ih i v q hv hq
  | fn hs h ih =>
    refine .fn (by rw [pfL_len]; exact hs) (fun i v p hv hp => ?_)
    rw [pfL_get] at hp
    obtain ⟨q, hq, rfl⟩ := Option.map_eq_some_iff.1 hp
    exact ih i v q hv hq
  | iface h ih => exact .iface ih
end
/-! Several regions that are cut. -/
def bar2 (r k : Nat) (b : Nat → Option Nat) : Nat → Option Nat := fun i => if i = r then some k else b i
section
variable {P : Program} {l0 : Nat × Nat} {st : PS} {Q : Exit → PS → Prop}
theorem p_skip_bar {id r k : Nat} {b : Nat → Option Nat} {ops : Array Oper} {dr : Bool} (h : id ≠ r) : pwp P ⟨l0, bar2 r k b⟩ (.region id ops dr) st Q = pwp P ⟨l0, b⟩ (.region id ops dr) st Q := by
  have : bar2 r k b id = b id := if_neg h
  cases dr <;> simp only [pwp, this]
theorem p_bar2 {r k : Nat} {b : Nat → Option Nat} {l : List Oper} (hb : barOk l.toArray k = true) (h : evS st fun st => evN st.nx fun a => evN st.nt fun b => evL (l.take k) fun l1 => dops P l.toArray a b 0 l1 st fun s => evS s fun s => evL ((l.drop k).take 1) fun l2 => dopsS P l.toArray 0 l2 s fun s => evS s fun s => evN s.nx fun a => evN s.nt fun b => evL (l.drop (k + 1)) fun l3 => dops P l.toArray a b (k + 1) l3 s (Q .normal)) :
    pwp P ⟨l0, bar2 r k b⟩ (.region r l.toArray true) st Q := by
  have e := p_bar (l0 := l0) (r := r) hb h
  have h1 : bar2 r k b r = some k := if_pos rfl
  have h2 : oneBar r k r = some k := if_pos rfl
  simp only [pwp, h1, h2] at e ⊢
  exact e
end
attribute [go_sem ↓] p_skip_bar
attribute [go_sem] PV.pf PV.pfL frR outF Option.getD_some Option.getD_none List.map_cons List.map_nil
attribute [go_sem] PV.rm PV.rmL PObj.rm rmH rmK dropK
end Go.Pw

end
section
/-
  strings.Builder, alone or at the head of a struct, in the call's own memory: copyCheck, String, WriteString, WriteByte by contract; taken at any state.
-/
open Go Go.Proofs Go.Pw Go.RowKit
namespace Go.Proofs.YtmfaejdnaippkaaDoor
set_option maxRecDepth 4000
set_option linter.unusedVariables false
set_option linter.unusedSimpArgs false
section
variable {own : Nat → Prop} {S0 : Base} {w0 w : World} {C : Cx} {U V : Nat → Prop} {st : PS}
theorem setCell_row {vs : Array Value} {t : TypeId} {fr : Nat × Nat} {g i : Nat} (hg : w.heap[g]? = some (.cells vs t fr)) (v : Value) : w.setCell ⟨g, i, none⟩ v = w.setRow g (vs.setIfInBounds i v) := by
  unfold World.setCell World.setRow
  congr 1
  refine Array.ext_getElem? fun j => ?_
  simp only [Array.getElem?_modify]
  split
  · rename_i h
    subst h
    rw [hg]
    rfl
  · rfl
/-- Forget a row. -/
theorem Rel.toks_ (R : Rel own S0 w0 C U V st w) {T : List (Nat × Tok)} (hT : ∀ k t, lkp T k = some t → lkp st.toks k = some t) : Rel own S0 w0 C U V { st with toks := T } w ∧ Ext C C st.toks T U V U V := by
  have X : Ext C C st.toks T U V U V := ⟨SLe.refl _, fun _ _ => rfl, fun k t _ h => ⟨t, hT k t h, Nat.le_refl _, rfl, fun _ => rfl⟩, fun _ h => h, fun _ h => h⟩
  refine ⟨⟨R.frame, R.stable, fun id T' cs h => ?_, R.iter, R.hown, R.hinj, fun k t h => R.tok k t (hT k t h), fun i oi k t h1 h2 => R.tbox i oi k t h1 (hT k t h2), fun i j ti tj h1 h2 => R.tinj i j ti tj (hT _ _ h1) (hT _ _ h2), R.snew, R.sold, R.base.trans X, R.glob⟩, X⟩
  obtain ⟨vs, h1, h2, h3⟩ := R.box id T' cs h
  exact ⟨vs, h1, h2, fun i v p hv hp => ⟨(h3 i v p hv hp).1, (h3 i v p hv hp).2.ext X⟩⟩
theorem freeze_other (w : World) (g n k : Nat) (h : k ≠ g) : (w.freeze ⟨g, 0, none⟩ n).heap[k]? = w.heap[k]? := by
  unfold World.freeze
  split
  · rfl
  · simp [Array.getElem?_modify, Ne.symm h]
theorem freeze_cell (w : World) (g n b o : Nat) : (w.freeze ⟨g, 0, none⟩ n).cell? ⟨b, o, none⟩ = w.cell? ⟨b, o, none⟩ := by
  by_cases hb : b = g
  · subst hb
    unfold World.freeze
    split
    · rfl
    · unfold World.cell?
      simp only [Array.getElem?_modify, if_true]
      cases w.heap[b]? with
      | none => rfl
      | some x => cases x <;> rfl
  · exact World.cell?_of_block (freeze_other w g n b hb)
/-- Forget a row, and freeze what lies there. -/
theorem Rel.freeze_ (R : Rel own S0 w0 C U V st w) {k : Nat} {t : Tok} (hk : lkp st.toks k = some t) {T : List (Nat × Tok)} (hT : ∀ j t, lkp T j = some t → j ≠ k ∧ lkp st.toks j = some t) (n : Nat) :
    Rel own S0 w0 C U V { st with toks := T } (w.freeze ⟨(C.τ k).1, 0, none⟩ n) ∧ Ext C C st.toks T U V U V := by
  obtain ⟨R', X⟩ := Rel.toks_ R (T := T) fun j t h => (hT j t h).2
  have hown := (R.tok k t hk).2.1
  have hother : ∀ b, b ≠ (C.τ k).1 → (w.freeze ⟨(C.τ k).1, 0, none⟩ n).heap[b]? = w.heap[b]? := fun b hb => freeze_other w _ n b hb
  have hsize : (w.freeze ⟨(C.τ k).1, 0, none⟩ n).heap.size = w.heap.size := by
    unfold World.freeze
    split
    · rfl
    · simp
  have hio : (w.freeze ⟨(C.τ k).1, 0, none⟩ n).os = w.os ∧ (w.freeze ⟨(C.τ k).1, 0, none⟩ n).tape = w.tape ∧ (w.freeze ⟨(C.τ k).1, 0, none⟩ n).output = w.output := by
    unfold World.freeze
    split <;> exact ⟨rfl, rfl, rfl⟩
  refine ⟨⟨⟨by rw [hio.1]; exact R.frame.os, by rw [hio.2.1]; exact R.frame.tape, by rw [hio.2.2]; exact R.frame.output, by rw [hsize]; exact R.frame.size, fun b hb hn => ?_⟩, fun b o v h => ?_, fun id T' cs h => ?_, fun id s pos h => ?_, fun id o h => ?_, R'.hinj, fun j t' h => ?_, R'.tbox, R'.tinj, R'.snew, R'.sold, R'.base, R'.glob⟩, X⟩
  · rw [hother b (fun e => by subst e; rcases hown with h | h; exact hn h; omega)]
    exact R.frame.block b hb hn
  · rw [freeze_cell]
    exact R.stable b o v h
  · rw [hother _ (fun e => R.tbox id _ k t h hk e)]
    exact R'.box id T' cs h
  · rw [hother _ (fun e => R.tbox id _ k t h hk e)]
    exact R.iter id s pos h
  · rw [hsize]
    exact R.hown id o h
  · rw [hother _ (fun e => (hT j t' h).1 (R.tinj j k t' t (hT j t' h).2 hk e))]
    exact R'.tok j t' h
end
abbrev vNP : PV := .val (.pointer none)
@[irreducible] def rowS (k : Nat) (s : ByteArray) : PV := if s.size = 0 then .val (.slice none 0 0) else .row k (encS s)
@[irreducible] def tokS (k : Nat) (e : TypeId) (s : ByteArray) : List (Nat × Tok) := if s.size = 0 then [] else [(k, ⟨e, 1, s.size⟩)]
/-- What lies in memory: a variable with a builder at its head that holds s. -/
def bldB (T : TypeId) (k : Nat) (a : PV) (s : ByteArray) (rest : List PV) : List (Nat × PObj) := [(0, .box T (a :: rowS k s :: rest))]
theorem three_of {vs : Array Value} {n : Nat} (h : vs.size = n + 2) : ∃ v0 v1 vr, vs = ⟨v0 :: v1 :: vr⟩ ∧ vr.length = n := by
  cases vs with
  | mk l => match l, h with
    | v0 :: v1 :: vr, h => exact ⟨v0, v1, vr, rfl, by simpa using h⟩
theorem copy_ok {T : TypeId} {rest : List PV} (hT : Heads T (rest.length + 2)) (nx nt : Nat) (a b : PV) (TK : List (Nat × Tok)) (ha : a = vNP ∨ a = .ptr 0 0) :
    OkI Tryd.prog 55 [.ptr 0 0] ⟨[], [(0, .box T (a :: b :: rest))], TK, nx, nt⟩ (fun r st' => r = .tup [] ∧ st' = ⟨[], [(0, .box T (.ptr 0 0 :: b :: rest))], TK, nx, nt⟩) := by
  refine ⟨by kernel_rfl, fun own S0 w0 w C vals R hn hr => ?_⟩
  have ho : lkp ([(0, PObj.box T (a :: b :: rest))] : List (Nat × PObj)) 0 = some (.box T (a :: b :: rest)) := by simp [lkp]
  obtain ⟨vs, hb, hs, hv⟩ := R.box 0 _ _ ho
  obtain ⟨v, rfl⟩ : ∃ v, vals = #[v] := by
    cases vals with
    | mk l => match l, hn with
      | [v], _ => exact ⟨v, rfl⟩
  obtain ⟨v0, v1, vr, rfl, hvr⟩ := three_of (n := rest.length) hs
  obtain ⟨rfl, hU⟩ := rep_ptr (hr 0 v _ rfl rfl)
  have h0 := hv 0 v0 a rfl rfl
  have hc : w.cell? ⟨C.ρ 0, 0, none⟩ = some v0 := by rw [Lib.cell_of_heap hb]; rfl
  rcases ha with rfl | rfl
  · obtain ⟨rfl, _⟩ := rep_val h0.2
    refine (copy_fresh hT (C.ρ 0) w hc (by simp [World.shape?, hb, hvr]) (by simp [World.frozen?, hb])).mono ?_
    rintro e w' ⟨rfl, rfl⟩
    refine ⟨.tup [], _, .tuple #[], C, ⟨rfl, rfl⟩, rfl, ?_, Ext.refl _ _ _ _, .tup rfl (fun i v p hv hp => by simp at hp)⟩
    have R' := R.store (id := 0) (T := T) ho (cs' := .ptr 0 0 :: b :: rest) (vs' := ⟨.pointer (some ⟨C.ρ 0, 0, none⟩) :: v1 :: vr⟩) ⟨by simpa using hvr, fun i v p hv' hp => by
      match i with
      | 0 => simp at hv' hp; subst hv' hp; exact ⟨rfl, .ptr hU⟩
      | i + 1 => exact hv (i + 1) v p (by simpa using hv') (by simpa using hp)⟩
    rw [setCell_row hb]
    have eu : upd [(0, PObj.box T (vNP :: b :: rest))] 0 (.box T (.ptr 0 0 :: b :: rest)) = [(0, .box T (.ptr 0 0 :: b :: rest))] := by simp [upd]
    rw [← eu]
    exact R'
  · obtain ⟨rfl, _⟩ := rep_ptr h0.2
    refine (copy_used (C.ρ 0) w hc).mono ?_
    rintro e w' ⟨rfl, rfl⟩
    exact ⟨.tup [], _, .tuple #[], C, ⟨rfl, rfl⟩, rfl, R, Ext.refl _ _ _ _, .tup rfl (fun i v p hv hp => by simp at hp)⟩
theorem string_ok0 (T : TypeId) (s : ByteArray) (k nx nt : Nat) (a : PV) (rest : List PV) :
    OkI Tryd.prog 20 [.ptr 0 0] ⟨[], bldB T k a s rest, tokS k 5 s, nx, nt⟩ (fun r st' => r = .val (.string s) ∧ st' = ⟨[], bldB T k a s rest, [], nx, nt⟩) := by
  refine ⟨by kernel_rfl, fun own S0 w0 w C vals R hn hr => ?_⟩
  have ho : lkp (bldB T k a s rest) 0 = some (.box T (a :: rowS k s :: rest)) := by simp [bldB, lkp]
  obtain ⟨vs, hb, hs, hv⟩ := R.box 0 _ _ ho
  obtain ⟨v, rfl⟩ : ∃ v, vals = #[v] := by
    cases vals with
    | mk l => match l, hn with
      | [v], _ => exact ⟨v, rfl⟩
  obtain ⟨v0, v1, vr, rfl, hvr⟩ := three_of (n := rest.length) hs
  obtain ⟨rfl, hU⟩ := rep_ptr (hr 0 v _ rfl rfl)
  have h1 := hv 1 v1 (rowS k s) rfl rfl
  have hc : w.cell? ⟨C.ρ 0, 1, none⟩ = some v1 := by rw [Lib.cell_of_heap hb]; rfl
  by_cases h0 : s.size = 0
  · have es : s = ⟨#[]⟩ := by
      cases s with
      | mk d => congr 1; exact Array.size_eq_zero_iff.1 h0
    simp only [rowS, h0, if_true] at h1
    obtain ⟨rfl, _⟩ := rep_val h1.2
    have eT : tokS k 5 s = [] := by simp [tokS, h0]
    refine (string_nil (C.ρ 0) w hc).mono ?_
    rintro e w' ⟨rfl, rfl⟩
    rw [eT] at R ⊢
    exact ⟨.val (.string s), _, .string ⟨#[]⟩, C, ⟨rfl, rfl⟩, rfl, R.drew, Ext.refl _ _ _ _, by rw [es]; exact .frz (.val rfl)⟩
  · have eT : tokS k 5 s = [(k, ⟨5, 1, s.size⟩)] := by simp [tokS, h0]
    simp only [rowS, h0, if_false] at h1
    rw [eT] at R h1
    have hk : lkp [(k, (⟨5, 1, s.size⟩ : Tok))] k = some ⟨5, 1, s.size⟩ := by simp [lkp]
    obtain ⟨hV, hown, ⟨cur, hcur, hcs⟩, hnc, hcm, hS⟩ := R.tok k _ hk
    have hlen : (encS s).length = s.size := by simp [encS]
    have hll : s.data.toList.length = s.size := by simp
    have hval : v1 = .slice (some ⟨(C.τ k).1, 0, none⟩) s.data.toList.length (C.τ k).2 := by
      rw [hll]
      have h2 := h1.2
      cases h2 with
      | frz h => cases h
      | row g1 g2 g3 => exact (g3 _ hk).2.2 hlen
    have hxf := rep_sl (.inr ⟨_, h1.2⟩)
    have hcells : ∀ (j : Nat) (x : UInt8), s.data.toList[j]? = some x → cur[j]? = some (Value.int .u8 x.toNat) := by
      intro j x hx
      have hj : j < (encS s).length := by rw [hlen]; have := (List.getElem?_eq_some_iff.1 hx).1; omega
      rw [hval] at hxf
      generalize hvv : Value.slice (some ⟨(C.τ k).1, 0, none⟩) s.data.toList.length (C.τ k).2 = v at hxf
      have hxs : (encS s)[j]? = some [.val (.int .u8 x.toNat)] := by simp [encS, hx]
      cases hxf with
      | @sl A n cc sz' _ f hn' hcc hsz' hA hrr =>
        injection hvv with g1 g2 g3
        subst g1
        obtain ⟨b, o', e3, hS'⟩ := hA (by omega)
        injection e3 with e3
        injection e3 with e3 e4
        subst e3 e4
        have e5 : sz' = 1 := (hsz' _ (List.mem_of_getElem? hxs)).symm
        subst e5
        have h1 := R.stable _ _ _ (hS' j 0 (by omega) (by omega))
        rw [cell_of_row w _ _ cur 5 (0, 0) hcur] at h1
        have h2 := hrr j 0 _ _ hxs rfl
        rw [show f j 0 = Value.int .u8 x.toNat from by generalize f j 0 = u at h2; cases h2; rfl] at h1
        simpa using h1
    rw [hval] at hc
    refine (string_some (C.ρ 0) (C.τ k).1 (C.τ k).2 w s.data.toList (fun h => h0 (by rw [← hll, h]; rfl)) (by rw [hll]; exact hnc) hcm hc cur hcur (by rw [hcs, Nat.mul_one]) hcells).mono ?_
    rintro e w' ⟨rfl, rfl⟩
    obtain ⟨R', X⟩ := Rel.freeze_ (R.drew) (k := k) hk (T := []) (fun j t h => by cases h) s.data.toList.length
    rw [eT]
    exact ⟨.val (.string s), _, .string ⟨s.data.toList.toArray⟩, C, ⟨rfl, rfl⟩, rfl, R', X, .frz (by
      have : (⟨s.data.toList.toArray⟩ : ByteArray) = s := by simp
      rw [this]; exact .val rfl)⟩
end Go.Proofs.YtmfaejdnaippkaaDoor

end
section
/-
  strings.Builder: WriteString and WriteByte by contract; and each of a builder's functions taken at any state.
-/
open Go Go.Proofs Go.Pw Go.RowKit
namespace Go.Proofs.YtmfaejdnaippkaaDoor
set_option maxRecDepth 4000
set_option linter.unusedVariables false
set_option linter.unusedSimpArgs false
/-- What a function leaves that writes into a builder: its result, and what the builder holds. -/
def bldQ (T : TypeId) (s : ByteArray) (rest : List PV) (R : PV) (r : PV) (st : PS) : Prop := r = R ∧ ∃ k, k < st.nt ∧ 1 ≤ st.nt ∧ st.nx = 1 ∧ st.heap = bldB T k (.ptr 0 0) s rest ∧ st.toks = tokS k 5 s
theorem rowS_rm (f g : Nat → Nat) (k : Nat) (s : ByteArray) : (rowS k s).rm f g = rowS (g k) s := by unfold rowS; split <;> rfl
theorem tokS_rm (g : Nat → Nat) (k : Nat) (s : ByteArray) (e : TypeId) : rmK g (tokS k e s) = tokS (g k) e s := by unfold tokS; split <;> rfl
theorem rowS_lt (a b k : Nat) (s : ByteArray) (h : k < b) : (rowS k s).lt a b = true := by unfold rowS; split <;> simp [PV.lt, h]
theorem app_s0 {e : TypeId} {b tk : Nat} {st : PS} {K : Delta → Prop} {d : PV} {t : ByteArray} (h0 : t.size = 0) : appS e b st tk K d (.val (.string t)) = (sliceLike d = true ∧ K (.val d)) := by
  have hn := encS_len t
  unfold appS
  simp only
  generalize encS t = l at *
  cases l with
  | nil => rfl
  | cons y r => simp at hn; omega
/-- ████ What a function does with a builder, at any state that has one. -/
theorem bld_at0 {g0 : FuncId} {T : TypeId} {s s' : ByteArray} {a' : PV} {rest as0 : List PV} {R : PV} (i k : Nat) {st : PS}
    (ok : ∀ a, (a = vNP ∨ a = .ptr 0 0) → a.rm (rnF [i] st.nx) (rnF [k] st.nt) = a' → OkI Tryd.prog g0 (.ptr 0 0 :: as0) ⟨[], bldB T 0 a s rest, tokS 0 5 s, 1, 1⟩ (bldQ T s' rest R))
    (hi : i < st.nx) (hk : k < st.nt) (ha : a' = vNP ∨ a' = .ptr i 0) (hrest : PV.ltL 0 0 rest = true) (has : PV.ltL 0 0 as0 = true) (hR : R.lt 0 0 = true)
    (ho : lkp st.heap i = some (.box T (a' :: rowS k s :: rest))) (ht : s.size ≠ 0 → lkp st.toks k = some ⟨5, 1, s.size⟩) :
    OkI Tryd.prog g0 (.ptr i 0 :: as0) st (fun r st' => r = R ∧ ∃ k' nt', k' < nt' ∧ st.nt ≤ nt' ∧ st' = ⟨st.env, (i, .box T (.ptr i 0 :: rowS k' s' :: rest)) :: dropH [i] st.heap, tokS k' 5 s' ++ dropK [k] st.toks, st.nx, nt'⟩) := by
  obtain ⟨a, hca, haa⟩ : ∃ a, (a = vNP ∨ a = .ptr 0 0) ∧ a.rm (rnF [i] st.nx) (rnF [k] st.nt) = a' ∧ a.lt 1 1 = true := by
    rcases ha with rfl | rfl
    · exact ⟨vNP, .inl rfl, rfl, rfl⟩
    · exact ⟨.ptr 0 0, .inr rfl, rfl, rfl⟩
  refine OkI.mono' (OkI.frameT [i] [k] (ok a hca haa.1) (by simp) (fun j hj => by rw [List.mem_singleton] at hj; subst hj; exact hi) (by simp) (fun j hj => by rw [List.mem_singleton] at hj; subst hj; exact hk) (fun e he => ?_) (fun e he => ?_) ?_ ?_) ?_
  · simp only [bldB, List.mem_singleton] at he
    subst he
    refine ⟨Nat.zero_lt_one, ?_, ?_⟩
    · simp only [PObj.lt, PV.ltL, haa.2, rowS_lt 1 1 0 s Nat.zero_lt_one, ltL_low (Nat.zero_le 1) (Nat.zero_le 1) rest hrest, Bool.and_self, List.length_singleton]
    · show lkp st.heap i = _
      rw [ho, PObj.rm, PV.rmL, PV.rmL, haa.1, rowS_rm, rmL_frz rest hrest]
      rfl
  · unfold tokS at he
    split at he
    · cases he
    · rename_i h0
      rw [List.mem_singleton] at he
      subst he
      exact ⟨Nat.zero_lt_one, ht h0⟩
  · simp only [PV.ltL, PV.lt, List.length_singleton, Nat.zero_lt_one, decide_true, Bool.true_and]
    exact ltL_low (Nat.zero_le 1) (Nat.zero_le 1) as0 has
  · rw [PV.rmL, rmL_frz as0 has]; rfl
  · rintro r st' ⟨r0, s0, ⟨rfl, k0, h1, h2, h3, h4, h5⟩, rfl, rfl⟩
    refine ⟨rm_frz r0 hR, rnF [k] st.nt k0, s0.nt - 1 + st.nt, ?_, by omega, ?_⟩
    · cases k0 with
      | zero => show k < _; omega
      | succ n => rw [rnF_high (l := [k]) (n + 1) (by simp)]; simp only [List.length_singleton]; omega
    · rw [h3, h4, h5, tokS_rm]
      simp only [bldB, rmH, PObj.rm, PV.rmL, rowS_rm, rmL_frz rest hrest, List.length_singleton, List.cons_append, List.nil_append]
      have : 1 - 1 + st.nx = st.nx := by omega
      rw [this]
      rfl
theorem bld_at {g0 : FuncId} {T : TypeId} {s s' : ByteArray} {a' : PV} {rest as0 : List PV} {R : PV} (i k : Nat) {st : PS}
    (ok : ∀ a, (a = vNP ∨ a = .ptr 0 0) → OkI Tryd.prog g0 (.ptr 0 0 :: as0) ⟨[], bldB T 0 a s rest, tokS 0 5 s, 1, 1⟩ (bldQ T s' rest R))
    (hi : i < st.nx) (hk : k < st.nt) (ha : a' = vNP ∨ a' = .ptr i 0) (hrest : PV.ltL 0 0 rest = true) (has : PV.ltL 0 0 as0 = true) (hR : R.lt 0 0 = true)
    (ho : lkp st.heap i = some (.box T (a' :: rowS k s :: rest))) (ht : s.size ≠ 0 → lkp st.toks k = some ⟨5, 1, s.size⟩) :
    OkI Tryd.prog g0 (.ptr i 0 :: as0) st (fun r st' => r = R ∧ ∃ k' nt', k' < nt' ∧ st.nt ≤ nt' ∧ st' = ⟨st.env, (i, .box T (.ptr i 0 :: rowS k' s' :: rest)) :: dropH [i] st.heap, tokS k' 5 s' ++ dropK [k] st.toks, st.nx, nt'⟩) :=
  bld_at0 i k (fun a h _ => ok a h) hi hk ha hrest has hR ho ht
theorem string_at {T : TypeId} {s : ByteArray} {a' : PV} {rest : List PV} (i k : Nat) {st : PS} (hi : i < st.nx) (hk : k < st.nt) (ha : a' = vNP ∨ a' = .ptr i 0) (hrest : PV.ltL 0 0 rest = true)
    (ho : lkp st.heap i = some (.box T (a' :: rowS k s :: rest))) (ht : s.size ≠ 0 → lkp st.toks k = some ⟨5, 1, s.size⟩) :
    OkI Tryd.prog 20 [.ptr i 0] st (fun r st' => r = vS s ∧ st' = ⟨st.env, (i, .box T (a' :: rowS k s :: rest)) :: dropH [i] st.heap, dropK [k] st.toks, st.nx, st.nt⟩) := by
  obtain ⟨a, hca, haa⟩ : ∃ a, (a = vNP ∨ a = .ptr 0 0) ∧ a.rm (rnF [i] st.nx) (rnF [k] st.nt) = a' ∧ a.lt 1 1 = true := by
    rcases ha with rfl | rfl
    · exact ⟨vNP, .inl rfl, rfl, rfl⟩
    · exact ⟨.ptr 0 0, .inr rfl, rfl, rfl⟩
  refine OkI.mono' (OkI.frameT [i] [k] (string_ok0 T s 0 1 1 a rest) (by simp) (fun j hj => by rw [List.mem_singleton] at hj; subst hj; exact hi) (by simp) (fun j hj => by rw [List.mem_singleton] at hj; subst hj; exact hk) (fun e he => ?_) (fun e he => ?_) rfl rfl) ?_
  · simp only [bldB, List.mem_singleton] at he
    subst he
    refine ⟨Nat.zero_lt_one, ?_, ?_⟩
    · simp only [PObj.lt, PV.ltL, haa.2, rowS_lt 1 1 0 s Nat.zero_lt_one, ltL_low (Nat.zero_le 1) (Nat.zero_le 1) rest hrest, Bool.and_self, List.length_singleton]
    · show lkp st.heap i = _
      rw [ho, PObj.rm, PV.rmL, PV.rmL, haa.1, rowS_rm, rmL_frz rest hrest]
      rfl
  · unfold tokS at he
    split at he
    · cases he
    · rename_i h0
      rw [List.mem_singleton] at he
      subst he
      exact ⟨Nat.zero_lt_one, ht h0⟩
  · rintro r st' ⟨r0, s0, ⟨rfl, rfl⟩, rfl, rfl⟩
    refine ⟨rfl, ?_⟩
    simp only [bldB, rmH, rmK, PObj.rm, PV.rmL, rowS_rm, haa.1, rmL_frz rest hrest, List.length_singleton, List.cons_append, List.nil_append]
    have : 1 - 1 + st.nx = st.nx := by omega
    have h2 : 1 - 1 + st.nt = st.nt := by omega
    rw [this, h2]
    rfl
set_option maxHeartbeats 4000000 in
theorem writeS_ok {T : TypeId} {rest : List PV} (hT : Heads T (rest.length + 2)) (hrest : PV.ltL 0 0 rest = true) (s t : ByteArray) (hl : s.size + t.size ≤ 1000000) (a : PV) (ha : a = vNP ∨ a = .ptr 0 0) :
    OkI Tryd.prog 39 [.ptr 0 0, vS t] ⟨[], bldB T 0 a s rest, tokS 0 5 s, 1, 1⟩ (bldQ T (s ++ t) rest (.tup [vI t.size, .val .nilIface])) := by
  refine OkI.of_pwp (by kernel_rfl) Tryd.func39 rfl (by kernel_rfl) (by kernel_rfl) ?_
  have hst : (s ++ t).size = s.size + t.size := by simp
  have hlt : ∀ (a b : Nat), PV.ltL a b rest = true := fun a b => ltL_low (Nat.zero_le a) (Nat.zero_le b) rest hrest
  by_cases ht : t.size = 0
  · have et : s ++ t = s := by
      have : t = ByteArray.empty := by
        cases t with
        | mk d => congr 1; exact Array.size_eq_zero_iff.1 ht
      rw [this]
      simp
    by_cases hs : s.size = 0
    · simp only [bldB, rowS, tokS, hs, if_true]
      simp (implicitDefEqProofs := false) (disch := omega) only [go_sem, simprocAttr, go_sem, Nat.le_refl, Tryd.results39, app_s0, sliceLike, Delta.val]
      refine CallOk.ofI (copy_ok hT _ _ _ _ [] ha) rfl rfl rfl rfl ?_
      rintro r st1 ⟨rfl, rfl⟩
      simp (implicitDefEqProofs := false) (disch := omega) only [go_sem, simprocAttr, go_sem, Nat.le_refl, Tryd.results39, app_s0, sliceLike, Delta.val]
      rw [et]
      refine ⟨⟨[], bldB T 0 (.ptr 0 0) s rest, tokS 0 5 s, 1, 1⟩, ⟨rfl, 0, by simp only; omega, by simp only; omega, rfl, rfl, rfl⟩, ?_⟩
      simp only [bldB, rowS, tokS, hs, if_true]
      refine ⟨?_, ?_, ?_, ?_, ?_, ?_, ?_⟩ <;> simp only [go_sem, simprocAttr, decide_eq_true_eq, ite_self, hlt] <;> try first | omega | ((repeat' (first | exact And.intro rfl (by omega) | (refine And.intro ?_ ?_))) <;> first | rfl | omega | (congr 3; omega) | (congr 2; omega))
    · simp only [bldB, rowS, tokS, hs, if_false]
      simp (implicitDefEqProofs := false) (disch := omega) only [go_sem, simprocAttr, go_sem, Nat.le_refl, Tryd.results39, app_s0, sliceLike, Delta.val]
      refine CallOk.ofI (copy_ok hT _ _ _ _ _ ha) rfl rfl rfl rfl ?_
      rintro r st1 ⟨rfl, rfl⟩
      simp (implicitDefEqProofs := false) (disch := omega) only [go_sem, simprocAttr, go_sem, Nat.le_refl, Tryd.results39, app_s0, sliceLike, Delta.val]
      rw [et]
      refine ⟨⟨[], bldB T 0 (.ptr 0 0) s rest, tokS 0 5 s, 1, 1⟩, ⟨rfl, 0, by simp only; omega, by simp only; omega, rfl, rfl, rfl⟩, ?_⟩
      simp only [bldB, rowS, tokS, hs, if_false]
      refine ⟨?_, ?_, ?_, ?_, ?_, ?_, ?_⟩ <;> simp only [go_sem, simprocAttr, decide_eq_true_eq, ite_self, hlt] <;> try first | omega | ((repeat' (first | exact And.intro rfl (by omega) | (refine And.intro ?_ ?_))) <;> first | rfl | omega | (congr 3; omega) | (congr 2; omega))
  have hne : ¬ (s ++ t).size = 0 := by omega
  by_cases hs : s.size = 0
  · have es : s ++ t = t := by
      have : s = ByteArray.empty := by
        cases s with
        | mk d => congr 1; exact Array.size_eq_zero_iff.1 hs
      rw [this]
      simp
    simp only [bldB, rowS, tokS, hs, if_true]
    simp (implicitDefEqProofs := false) (disch := omega) only [go_sem, simprocAttr, go_sem, Nat.le_refl, Tryd.results39, app_s0, sliceLike, Delta.val]
    refine CallOk.ofI (copy_ok hT _ _ _ _ [] ha) rfl rfl rfl rfl ?_
    rintro r st1 ⟨rfl, rfl⟩
    simp (implicitDefEqProofs := false) (disch := omega) only [go_sem, simprocAttr, go_sem, Nat.le_refl, Tryd.results39, app_s0, sliceLike, Delta.val]
    rw [es]
    refine ⟨⟨[], bldB T (1 + 2 + 1 + 2 + 6) (.ptr 0 0) t rest, tokS (1 + 2 + 1 + 2 + 6) 5 t, 1, 1 + 2 + 1 + 2 + 10⟩, ⟨rfl, 1 + 2 + 1 + 2 + 6, by simp only; omega, by simp only; omega, rfl, rfl, rfl⟩, ?_⟩
    simp only [bldB, rowS, tokS, ht, if_false]
    refine ⟨?_, ?_, ?_, ?_, ?_, ?_, ?_⟩ <;> simp only [go_sem, simprocAttr, decide_eq_true_eq, ite_self, hlt] <;> try first | omega | ((repeat' (first | exact And.intro rfl (by omega) | (refine And.intro ?_ ?_))) <;> first | rfl | omega | (congr 3; omega) | (congr 2; omega))
  · simp only [bldB, rowS, tokS, hs, if_false]
    simp (implicitDefEqProofs := false) (disch := omega) only [go_sem, simprocAttr, go_sem, Nat.le_refl, Tryd.results39, app_s0, sliceLike, Delta.val]
    refine CallOk.ofI (copy_ok hT _ _ _ _ _ ha) rfl rfl rfl rfl ?_
    rintro r st1 ⟨rfl, rfl⟩
    simp (implicitDefEqProofs := false) (disch := omega) only [go_sem, simprocAttr, go_sem, Nat.le_refl, Tryd.results39, app_s0, sliceLike, Delta.val]
    refine ⟨⟨[], bldB T 0 (.ptr 0 0) (s ++ t) rest, tokS 0 5 (s ++ t), 1, 1⟩, ⟨rfl, 0, by simp only; omega, by simp only; omega, rfl, rfl, rfl⟩, ?_⟩
    simp only [bldB, rowS, tokS, hne, if_false]
    simp only [hst]
    refine ⟨?_, ?_, ?_, ?_, ?_, ?_, ?_⟩ <;> simp only [go_sem, simprocAttr, decide_eq_true_eq, ite_self, hlt] <;> try first | omega | ((repeat' (first | exact And.intro rfl (by omega) | (refine And.intro ?_ ?_))) <;> first | rfl | omega | (congr 3; omega) | (congr 2; omega))
end Go.Proofs.YtmfaejdnaippkaaDoor

end
section
/-
  strings.Builder: WriteByte by contract; WriteByte and WriteString taken at any state.
-/
open Go Go.Proofs Go.Pw Go.RowKit
namespace Go.Proofs.YtmfaejdnaippkaaDoor
set_option maxRecDepth 4000
set_option linter.unusedVariables false
set_option linter.unusedSimpArgs false
/-- A byte ags a text. -/
def bC (c : Int) : ByteArray := ⟨#[UInt8.ofNat c.toNat]⟩
theorem bC_size (c : Int) : (bC c).size = 1 := rfl
theorem encS_bC {c : Int} (h0 : 0 ≤ c) (h1 : c ≤ 255) : encS (bC c) = [[.val (.int .u8 c)]] := by
  unfold encS bC
  simp only [List.map_cons, List.map_nil]
  have : ((UInt8.ofNat c.toNat).toNat : Int) = c := by
    rw [UInt8.toNat_ofNat']
    omega
  rw [this]
theorem encS_push {c : Int} (h0 : 0 ≤ c) (h1 : c ≤ 255) (s : ByteArray) : encS s ++ [[.val (.int .u8 c)]] = encS (s ++ bC c) := by
  rw [← encS_bC h0 h1, encS_app]
set_option maxHeartbeats 4000000 in
theorem writeB_ok {T : TypeId} {rest : List PV} (hT : Heads T (rest.length + 2)) (hrest : PV.ltL 0 0 rest = true) (s : ByteArray) (c : Int) (h0 : 0 ≤ c) (h1 : c ≤ 255) (hl : s.size ≤ 1000000) (a : PV) (ha : a = vNP ∨ a = .ptr 0 0) :
    OkI Tryd.prog 37 [.ptr 0 0, vC c] ⟨[], bldB T 0 a s rest, tokS 0 5 s, 1, 1⟩ (bldQ T (s ++ bC c) rest (.val .nilIface)) := by
  refine OkI.of_pwp (by kernel_rfl) Tryd.func37 rfl (by kernel_rfl) (by kernel_rfl) ?_
  have hst : (s ++ bC c).size = s.size + 1 := by rw [ByteArray.size_append, bC_size]
  have hlt : ∀ (a b : Nat), PV.ltL a b rest = true := fun a b => ltL_low (Nat.zero_le a) (Nat.zero_le b) rest hrest
  have hne : ¬ (s ++ bC c).size = 0 := by omega
  by_cases hs : s.size = 0
  · have es : s ++ bC c = bC c := by
      have : s = ByteArray.empty := by
        cases s with
        | mk d => congr 1; exact Array.size_eq_zero_iff.1 hs
      rw [this]
      simp
    have hb := encS_bC h0 h1
    simp only [bldB, rowS, tokS, hs, if_true]
    simp (implicitDefEqProofs := false) (disch := omega) only [go_sem, simprocAttr, go_sem, Nat.le_refl, Tryd.results37, Delta.val]
    refine CallOk.ofI (copy_ok hT _ _ _ _ [] ha) rfl rfl rfl rfl ?_
    rintro r st1 ⟨rfl, rfl⟩
    simp (implicitDefEqProofs := false) (disch := omega) only [go_sem, simprocAttr, go_sem, Nat.le_refl, Tryd.results37, Delta.val]
    rw [es]
    refine ⟨⟨[], bldB T 12 (.ptr 0 0) (bC c) rest, tokS 12 5 (bC c), 1, 13⟩, ⟨rfl, 12, by simp only; omega, by simp only; omega, rfl, rfl, rfl⟩, ?_⟩
    simp only [bldB, rowS, tokS, bC_size, hb]
    refine ⟨?_, ?_, ?_, ?_, ?_, ?_, ?_⟩ <;> simp only [go_sem, simprocAttr, decide_eq_true_eq, ite_self, hlt, Nat.one_ne_zero] <;> try first | omega | ((repeat' (first | exact And.intro rfl (by omega) | (refine And.intro ?_ ?_))) <;> first | rfl | omega | (congr 3; omega) | (congr 2; omega))
  · simp only [bldB, rowS, tokS, hs, if_false]
    simp (implicitDefEqProofs := false) (disch := omega) only [go_sem, simprocAttr, go_sem, Nat.le_refl, Tryd.results37, Delta.val]
    refine CallOk.ofI (copy_ok hT _ _ _ _ _ ha) rfl rfl rfl rfl ?_
    rintro r st1 ⟨rfl, rfl⟩
    simp (implicitDefEqProofs := false) (disch := omega) only [go_sem, simprocAttr, go_sem, Nat.le_refl, Tryd.results37, Delta.val]
    rw [encS_len, encS_push h0 h1]
    refine ⟨rfl, by omega, by omega, ⟨[], bldB T 0 (.ptr 0 0) (s ++ bC c) rest, tokS 0 5 (s ++ bC c), 1, 1⟩, ⟨rfl, 0, by simp only; omega, by simp only; omega, rfl, rfl, rfl⟩, ?_⟩
    simp only [bldB, rowS, tokS, hne, if_false]
    simp only [hst]
    refine ⟨?_, ?_, ?_, ?_, ?_, ?_, ?_⟩ <;> simp only [go_sem, simprocAttr, decide_eq_true_eq, ite_self, hlt] <;> try first | omega | ((repeat' (first | exact And.intro rfl (by omega) | (refine And.intro ?_ ?_))) <;> first | rfl | omega | (congr 3; omega) | (congr 2; omega))
/-- What a builder's function leaves, at any state. -/
def bldP (T : TypeId) (i k : Nat) (st : PS) (s' : ByteArray) (rest : List PV) (R : PV) (r : PV) (st' : PS) : Prop := r = R ∧ ∃ k' nt', k' < nt' ∧ st.nt ≤ nt' ∧ st' = ⟨st.env, (i, .box T (.ptr i 0 :: rowS k' s' :: rest)) :: dropH [i] st.heap, tokS k' 5 s' ++ dropK [k] st.toks, st.nx, nt'⟩
theorem writeB_at {T : TypeId} {rest : List PV} (hT : Heads T (rest.length + 2)) (hrest : PV.ltL 0 0 rest = true) {s : ByteArray} {c : Int} {a' : PV} (i k : Nat) {st : PS} (h0 : 0 ≤ c) (h1 : c ≤ 255) (hl : s.size ≤ 1000000) (hi : i < st.nx) (hk : k < st.nt) (ha : a' = vNP ∨ a' = .ptr i 0)
    (ho : lkp st.heap i = some (.box T (a' :: rowS k s :: rest))) (ht : s.size ≠ 0 → lkp st.toks k = some ⟨5, 1, s.size⟩) : OkI Tryd.prog 37 [.ptr i 0, vC c] st (bldP T i k st (s ++ bC c) rest (.val .nilIface)) :=
  bld_at i k (writeB_ok hT hrest s c h0 h1 hl) hi hk ha hrest rfl rfl ho ht
theorem writeS_at {T : TypeId} {rest : List PV} (hT : Heads T (rest.length + 2)) (hrest : PV.ltL 0 0 rest = true) {s t : ByteArray} {a' : PV} (i k : Nat) {st : PS} (hl : s.size + t.size ≤ 1000000) (hi : i < st.nx) (hk : k < st.nt) (ha : a' = vNP ∨ a' = .ptr i 0)
    (ho : lkp st.heap i = some (.box T (a' :: rowS k s :: rest))) (ht : s.size ≠ 0 → lkp st.toks k = some ⟨5, 1, s.size⟩) : OkI Tryd.prog 39 [.ptr i 0, vS t] st (bldP T i k st (s ++ t) rest (.tup [vI t.size, .val .nilIface])) :=
  bld_at i k (writeS_ok hT hrest s t hl) hi hk ha hrest rfl rfl ho ht

end Go.Proofs.YtmfaejdnaippkaaDoor

end
