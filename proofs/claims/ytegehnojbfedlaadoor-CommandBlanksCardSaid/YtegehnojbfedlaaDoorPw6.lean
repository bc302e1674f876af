/-
  The machine tells what valK says: all operations.
-/
import Derived.Test.YtegehnojbfedlaaDoorPw5
namespace Go.Pw
open Go Go.RowKit
set_option linter.unusedVariables false
set_option linter.unusedSimpArgs false
section
variable {P : Program} {own : Nat → Prop} {S0 : Base} {w0 w : World} {C : Cx} {U V : Nat → Prop} {st : PS} {a : Act}

theorem run_mapM_list {α β : Type} (f : α → Sem β) (g : α → β) (w : World) : ∀ (l : List α), (∀ x ∈ l, (f x).run P w = .ok (g x) w) → (l.mapM f).run P w = .ok (l.map g) w
  | [], _ => by simp
  | x :: r, h => by
    have h1 := h x (by simp)
    have h2 := run_mapM_list f g w r (fun y hy => h y (by simp [hy]))
    simp [List.mapM_cons, h1, h2]
theorem placesOf_get : ∀ (l : List Field) (pl : List (Nat × Nat)), placesOf P l = some pl → (∀ f ∈ l, (sizeOf? P f.type).isSome = true) ∧ pl = l.map (fun f => (f.offset, (sizeOf? P f.type).getD 0))
  | [], pl, h => by simp only [placesOf, Option.some.injEq] at h; subst h; simp
  | f :: r, pl, h => by
    simp only [placesOf] at h
    split at h
    · rename_i n l hn hl
      obtain rfl := Option.some.inj h
      obtain ⟨h1, h2⟩ := placesOf_get r l hl
      refine ⟨fun g hg => ?_, by simp [hn, h2]⟩
      rcases List.mem_cons.1 hg with rfl | hg
      · simp [hn]
      · exact h1 g hg
    · cases h
theorem run_places {fs : Array Field} {pl : List (Nat × Nat)} (h : placesOf P fs.toList = some pl) (w : World) :
    (fs.mapM fun f => do pure (f.offset, ← sizeOf f.type) : Sem (Array (Nat × Nat))).run P w = .ok pl.toArray w := by
  obtain ⟨h1, h2⟩ := placesOf_get _ _ h
  rw [Array.mapM_eq_mapM_toList]
  have := run_mapM_list (P := P) (fun f : Field => (do pure (f.offset, ← sizeOf f.type) : Sem (Nat × Nat))) (fun f => (f.offset, (sizeOf? P f.type).getD 0)) w fs.toList (fun f hf => by
    obtain ⟨n, hn⟩ := Option.isSome_iff_exists.1 (h1 f hf)
    simp [run_sizeOf? hn, hn])
  rw [Sem.run_map, this]
  simp [h2]

theorem build_sound (E : Env C U V st a) {t : TypeId} {parts : Array (Nat × Operand)} {K : PV → Prop} (h : buildK P st t parts.toList K) :
    ∃ v p, (Instr.build t (parts.map fun (i, x) => (i, a.eval x))).run P w = .ok v w ∧ RepV C st.toks U V v p ∧ K p := by
  unfold buildK at h
  have hmap : (parts.map fun (i, x) => (i, a.eval x)).toList = parts.toList.map fun x => (x.1, a.eval x.2) := by simp
  have hz : ∀ z : Value, constOk z = true → RepL C st.toks U V z.cells.toList (constPV z).cells := fun z hz =>
    (constPV_rep hz).cells (fun cs e => by cases z <;> simp [constPV] at e)
  split at h
  · rename_i fs hu
    replace h := bindO_elim h
    obtain ⟨z, hzero, h⟩ := h
    replace h := bindO_elim h
    obtain ⟨pl, hpl, h⟩ := h
    replace h := bindO_elim h
    obtain ⟨ps, hps, hc, hnt, h⟩ := h
    replace h := bindO_elim h
    obtain ⟨cs, hcs, hk⟩ := h
    obtain ⟨e1, e2⟩ := evParts_rep E _ _ hps hnt
    obtain ⟨us, hus, hrep⟩ := fill_rep _ _ z.cells _ _ e1 e2 (hz z hc) hcs
    have hplace : (fun i : Nat => (pl.toArray)[i]?) = fun i : Nat => pl[i]? := by funext i; simp
    refine ⟨.agg us, .agg cs, ?_, rep_aggL hrep, hk⟩
    simp only [Instr.build, Sem.run_bind, run_zeroOf? hzero, Result.andThen_ok, run_underlying hu, run_places hpl, hmap, hplace, hus, Sem.run_pure]
  · rename_i m e hu
    replace h := bindO_elim h
    obtain ⟨z, hzero, h⟩ := h
    replace h := bindO_elim h
    obtain ⟨n, hn, h⟩ := h
    replace h := bindO_elim h
    obtain ⟨ps, hps, hc, hnt, h⟩ := h
    replace h := bindO_elim h
    obtain ⟨cs, hcs, hk⟩ := h
    obtain ⟨e1, e2⟩ := evParts_rep E _ _ hps hnt
    obtain ⟨us, hus, hrep⟩ := fill_rep _ _ z.cells _ _ e1 e2 (hz z hc) hcs
    refine ⟨.agg us, .agg cs, ?_, rep_aggL hrep, hk⟩
    simp only [Instr.build, Sem.run_bind, run_zeroOf? hzero, Result.andThen_ok, run_underlying hu, run_sizeOf? hn, hmap, hus, Sem.run_pure]
  · exact h.elim

theorem sl_slice {S : Cells} {v : Value} {xs : List (List PV)} (h : RepF S v (.sl xs)) : ∃ A c, v = .slice A xs.length c ∧ (xs ≠ [] → A ≠ none) := by
  cases h with
  | sl f hn hc hsz hA hr =>
    refine ⟨_, _, by rw [hn], fun hne e => ?_⟩
    have : 0 < xs.length := List.length_pos_iff.2 hne
    obtain ⟨b, o, h1, _⟩ := hA (by omega)
    rw [e] at h1
    cases h1

theorem len_sound (E : Env C U V st a) {t ty : TypeId} {x : Operand} {K : PV → Prop} (h : lenK P st t x K) :
    ∃ v p, (Builtin.len_ #[t] ty #[a.eval x]).run P w = .ok v w ∧ RepV C st.toks U V v p ∧ K p := by
  unfold lenK at h
  split at h
  · rename_i hu
    replace h := bindO_elim h
    obtain ⟨p, hp, h⟩ := h
    split at h
    · rename_i s
      have e : a.eval x = .string s := (rep_val (ev_rep E hp)).1
      exact ⟨_, _, by simp [Builtin.len_, run_underlying hu, e]; rfl, .frz (.val rfl), h⟩
    · exact h.elim
  · rename_i e hu
    replace h := bindO_elim h
    obtain ⟨p, hp, h⟩ := h
    split at h
    · obtain ⟨A, c, e, _⟩ := sl_slice (rep_sl (.inl (ev_rep E hp)))
      exact ⟨_, _, by simp [Builtin.len_, run_underlying hu, e]; rfl, .frz (.val rfl), h⟩
    · obtain ⟨A, c, e, _⟩ := sl_slice (rep_sl (.inr ⟨_, ev_rep E hp⟩))
      exact ⟨_, _, by simp [Builtin.len_, run_underlying hu, e]; rfl, .frz (.val rfl), h⟩
    · have e : a.eval x = .slice none 0 0 := (rep_val (ev_rep E hp)).1
      exact ⟨_, _, by simp [Builtin.len_, run_underlying hu, e]; rfl, .frz (.val rfl), h⟩
    · obtain ⟨e, _⟩ := rep_ms (ev_rep E hp)
      exact ⟨_, _, by simp [Builtin.len_, run_underlying hu, e]; rfl, .frz (.val rfl), h⟩
    · exact h.elim
  · rename_i m e hu
    exact ⟨_, _, by simp [Builtin.len_, run_underlying hu]; rfl, .frz (.val rfl), h⟩
  · exact h.elim

theorem run_equal_slice {t e : TypeId} (hu : P.underlying t = some (.slice e)) (d : Nat) (b : Addr) (n c : Nat) (w : World) : (Op.equalIn (d + 1) t (.slice (some b) n c) (.slice none 0 0)).run P w = .ok false w := by
  simp [Op.equalIn, run_underlying hu]
theorem run_equal_iface {t : TypeId} {ms} (hu : P.underlying t = some (.interface ms)) (d : Nat) (u : TypeId) (v : Value) (w : World) : (Op.equalIn (d + 1) t (.iface u v) .nilIface).run P w = .ok false w := by
  simp [Op.equalIn, run_underlying hu]
theorem run_equal_nilI {t : TypeId} {ms} (hu : P.underlying t = some (.interface ms)) (d : Nat) (w : World) : (Op.equalIn (d + 1) t .nilIface .nilIface).run P w = .ok true w := by
  simp [Op.equalIn, run_underlying hu]
theorem bin_sound (E : Env C U V st a) {op : BinOp} {t yt : TypeId} {x y : Operand} {K : PV → Prop} (h : binK P st op t x y K) :
    ∃ v p, (do eqGuard op t x y (a.eval x) (a.eval y); binOp op t (a.eval x) (a.eval y) : Sem Value).run P w = .ok v w ∧ RepV C st.toks U V v p ∧ K p := by
  unfold binK at h
  replace h := bindO_elim h
  obtain ⟨p, hp, h⟩ := h
  replace h := bindO_elim h
  obtain ⟨q, hq, h⟩ := h
  have key : ∀ xs : List (List PV), RepF C.S (a.eval x) (.sl xs) → a.eval y = .slice none 0 0 → ((∃ e, P.underlying t = some (.slice e)) ∧ xs ≠ [] ∧ isNilK op false K) →
      ∃ v p, (do eqGuard op t x y (a.eval x) (a.eval y); binOp op t (a.eval x) (a.eval y) : Sem Value).run P w = .ok v w ∧ RepV C st.toks U V v p ∧ K p := by
    intro xs hr ey ⟨⟨e, hu⟩, hne, h⟩
    obtain ⟨A, c, ex, hA⟩ := sl_slice hr
    have hA' := hA hne
    cases A with
    | none => exact absurd rfl hA'
    | some b =>
      have he := run_equal_slice (P := P) hu 9999 b xs.length c w
      have hguard : (eqGuard op t x y (.slice (some b) xs.length c) (.slice none 0 0)).run P w = .ok () w := by cases op <;> rfl
      unfold isNilK at h
      rw [ex, ey]
      cases op <;> simp only at h <;> first
        | (exact h.elim)
        | (refine ⟨_, _, ?_, .frz (.val rfl), h⟩
           rw [Sem.run_bind, hguard]
           simp only [Result.andThen_ok, binOp]
           simp only [Op.equal, Op.maxDepth, Sem.run_bind, he, Result.andThen_ok, Sem.run_pure])
  split at h
  · obtain ⟨⟨ms, hu⟩, hc, h⟩ := h
    have ex := (rep_val (ev_rep E hp)).1
    have ey := (rep_val (ev_rep E hq)).1
    have he := run_equal_nilI (P := P) hu 9999 w
    have hguard : (eqGuard op t x y .nilIface .nilIface).run P w = .ok () w := by
      cases y <;> simp only [constO, Bool.false_eq_true] at hc
      cases op <;> simp [eqGuard]
    unfold isNilK at h
    rw [ex, ey]
    cases op <;> simp only at h <;> first
      | (exact h.elim)
      | (refine ⟨_, _, ?_, .frz (.val rfl), h⟩
         rw [Sem.run_bind, hguard]
         simp only [Result.andThen_ok, binOp]
         simp only [Op.equal, Op.maxDepth, Sem.run_bind, he, Result.andThen_ok, Sem.run_pure])
  · have ex := (rep_val (ev_rep E hp)).1
    have ey := (rep_val (ev_rep E hq)).1
    rw [ex, ey]
    obtain ⟨v, h1, h2, h3⟩ := bopK_sound (x := x) (y := y) h w
    exact ⟨v, _, h1, .frz (.val h2), h3⟩
  · exact key _ (rep_sl (.inl (ev_rep E hp))) (rep_val (ev_rep E hq)).1 h
  · exact key _ (rep_sl (.inr ⟨_, ev_rep E hp⟩)) (rep_val (ev_rep E hq)).1 h
  · obtain ⟨⟨ms, hu⟩, h⟩ := h
    obtain ⟨u, ex, _⟩ := rep_iface (ev_rep E hp)
    have ey := (rep_val (ev_rep E hq)).1
    rename_i t' _ _
    have he := run_equal_iface (P := P) hu 9999 t' u w
    have hguard : (eqGuard op t x y (.iface t' u) .nilIface).run P w = .ok () w := by cases op <;> rfl
    unfold isNilK at h
    rw [ex, ey]
    cases op <;> simp only at h <;> first
      | (exact h.elim)
      | (refine ⟨_, _, ?_, .frz (.val rfl), h⟩
         rw [Sem.run_bind, hguard]
         simp only [Result.andThen_ok, binOp]
         simp only [Op.equal, Op.maxDepth, Sem.run_bind, he, Result.andThen_ok, Sem.run_pure])
  · exact h.elim

theorem un_sound {op : UnOp} {v : Value} {p : PV} {T : List (Nat × Tok)} {U V : Nat → Prop} (r : RepV C T U V v p) {K : PV → Prop} (h : unK op p K) :
    ∃ u q, (Op.unary op v).run P w = .ok u w ∧ RepV C T U V u q ∧ K q := by
  unfold unK at h
  split at h
  · obtain ⟨rfl, _⟩ := rep_val r
    exact ⟨_, _, by simp [Op.unary, Op.intArith], .frz (.val rfl), h⟩
  · obtain ⟨rfl, _⟩ := rep_val r
    exact ⟨_, _, by simp [Op.unary], .frz (.val rfl), h⟩
  · exact h.elim
theorem numsOf_get : ∀ {xs : List (List PV)} {l : List Int}, numsOf xs = some l → l.length = xs.length ∧ ∀ j, j < xs.length → xs[j]? = some [.val (.int .u8 (l.getD j 0))]
  | [], l, h => by
    simp only [numsOf, Option.some.injEq] at h
    subst h
    exact ⟨rfl, fun j hj => absurd hj (Nat.not_lt_zero _)⟩
  | x :: r, l, h => by
    unfold numsOf at h
    split at h
    · rename_i e; cases e
    · rename_i n r' e
      obtain ⟨rfl, rfl⟩ := List.cons.inj e
      obtain ⟨l', hl, rfl⟩ := Option.map_eq_some_iff.1 h
      obtain ⟨h1, h2⟩ := numsOf_get hl
      refine ⟨by simp [h1], fun j hj => ?_⟩
      cases j with
      | zero => rfl
      | succ j => simpa using h2 j (by simpa using hj)
    · cases h
theorem bytes_run {S : Cells} {v : Value} {xs : List (List PV)} {l : List Int} (hS : ∀ b o u, S b o = some u → w.cell? ⟨b, o, none⟩ = some u) (r : RepF S v (.sl xs)) (hl : numsOf xs = some l) {src dst : TypeId} (hb : isBytes P src) (hd : P.underlying dst = some .string) :
    (convert src dst v).run P w = .ok (.string (strOfNums l)) w := by
  obtain ⟨e, hs, he⟩ := hb
  obtain ⟨h1, h2⟩ := numsOf_get hl
  cases r with
  | @sl A n c sz _ f hn hc hsz hA hr =>
    cases l with
    | nil =>
      have hn0 : n = 0 := by simp at h1; omega
      subst hn0
      cases A with
      | none => exact run_convert_bytes_nil w src e hs he _ _ dst hd
      | some a =>
        rw [run_convert_bytes_string w src dst e _ _ _ hs he hd]
        have := run_bytesToString (P := P) w a 0 c [] (by simp [loadCells, loadCellsFrom])
        rw [this]
        rfl
    | cons x l =>
      have h0 : 0 < n := by simp at h1; omega
      obtain ⟨b, o, rfl, hc'⟩ := hA h0
      have hx0 := h2 0 (by omega)
      have hs1 : sz = 1 := by
        have := hsz _ (List.mem_of_getElem? hx0)
        simpa using this.symm
      subst hs1
      refine run_convert_bytes_arg w src e hs he b o n c (x :: l) (by omega) (fun i hi => ?_) dst hd
      have hxi := h2 i (by omega)
      have h3 := hr i 0 _ _ hxi rfl
      have h4 := hS _ _ _ (hc' i 0 hi (by decide))
      rw [Nat.mul_one, Nat.add_zero] at h4
      rw [h4]
      generalize f i 0 = u at h3
      cases h3
      rfl
theorem conv_sound {src dst : TypeId} {v : Value} {p : PV} {T : List (Nat × Tok)} {U V : Nat → Prop} (hS : ∀ b o u, C.S b o = some u → w.cell? ⟨b, o, none⟩ = some u) (r : RepV C T U V v p) {K : PV → Prop} (h : convK P src dst p K) :
    ∃ u q, (convert src dst v).run P w = .ok u w ∧ RepV C T U V u q ∧ K q := by
  unfold convK at h
  obtain ⟨hs, h⟩ := h
  obtain ⟨d, hd⟩ := Option.isSome_iff_exists.1 hs
  split at h
  · rename_i hu
    obtain ⟨rfl, _⟩ := rep_val r
    exact ⟨_, _, by simp [convert, run_underlying hu, run_underlying hd, Conv.intToInt], .frz (.val rfl), h⟩
  · rename_i hu
    obtain ⟨rfl, _⟩ := rep_val r
    exact ⟨_, _, by simp [convert, run_underlying hu, run_underlying hd, Conv.intToString], .frz (.val rfl), h⟩
  · rename_i hu
    obtain ⟨rfl, _⟩ := rep_val r
    exact ⟨_, _, by simp [convert, run_underlying hu, run_underlying hd], .frz (.val rfl), h⟩
  · rename_i hu
    obtain ⟨hb, h⟩ := h
    replace h := bindO_elim h
    obtain ⟨l, hl, h⟩ := h
    exact ⟨_, _, bytes_run hS (rep_sl (.inl r)) hl hb hu, .frz (.val rfl), h⟩
  · rename_i hu
    obtain ⟨hb, h⟩ := h
    replace h := bindO_elim h
    obtain ⟨l, hl, h⟩ := h
    exact ⟨_, _, bytes_run hS (rep_sl (.inr ⟨_, r⟩)) hl hb hu, .frz (.val rfl), h⟩
  · rename_i hu
    obtain ⟨⟨e, hb, he⟩, h⟩ := h
    obtain ⟨rfl, _⟩ := rep_val r
    exact ⟨_, _, run_convert_bytes_nil w src e hb he _ _ dst hu, .frz (.val rfl), h⟩
  · exact h.elim
theorem max2_sound {v u : Value} {p q : PV} {T : List (Nat × Tok)} {U V : Nat → Prop} (isMax : Bool) (r : RepV C T U V v p) (r' : RepV C T U V u q) {K : PV → Prop} (h : max2K isMax p q K) :
    ∃ x z, ((if isMax then Builtin.max2 else Builtin.min2) v u).run P w = .ok x w ∧ RepV C T U V x z ∧ K z := by
  unfold max2K at h
  split at h
  · obtain ⟨rfl, _⟩ := rep_val r
    obtain ⟨rfl, _⟩ := rep_val r'
    obtain ⟨rfl, h⟩ := h
    cases isMax
    · exact ⟨_, _, by simp only [Builtin.min2, Bool.false_eq_true, if_false]; rfl, .frz (.val rfl), by simpa using h⟩
    · exact ⟨_, _, by simp only [Builtin.max2, if_true]; rfl, .frz (.val rfl), by simpa using h⟩
  · exact h.elim

theorem call_sound (E : Env C U V st a) {o : Oper} {c : Call} (ho : o.op = .call c) {K : PV → Prop} (h : callV P st c K) :
    ∃ v p, (execOp a.eval o).run P w = .ok (.value v) w ∧ RepV C st.toks U V v p ∧ K p := by
  unfold callV at h
  split at h
  · rename_i hc
    split at h
    · rename_i x t hx ht
      obtain ⟨v, p, h1, h2, h3⟩ := len_sound (P := P) (w := w) (ty := o.type) E h
      have e1 : c.args = #[x] := by rw [← Array.toArray_toList (xs := c.args), hx]
      have e2 : c.argTypes = #[t] := by rw [← Array.toArray_toList (xs := c.argTypes), ht]
      refine ⟨v, p, ?_, h2, h3⟩
      simp [execOp, ho, resolve, hc, invoke, builtin, e1, e2, h1]
    · exact h.elim
  · rename_i hc
    split at h
    · rename_i x y hx
      replace h := bindO_elim h
      obtain ⟨p, hp, h⟩ := h
      replace h := bindO_elim h
      obtain ⟨q, hq, h⟩ := h
      obtain ⟨v, r, h1, h2, h3⟩ := max2_sound (P := P) (w := w) true (ev_rep E hp) (ev_rep E hq) h
      have e1 : c.args = #[x, y] := by rw [← Array.toArray_toList (xs := c.args), hx]
      refine ⟨v, r, ?_, h2, h3⟩
      simp only [if_true] at h1
      simp [execOp, ho, resolve, hc, invoke, builtin, e1, Builtin.max_, List.foldlM, h1]
    · exact h.elim
  · rename_i hc
    split at h
    · rename_i x y hx
      replace h := bindO_elim h
      obtain ⟨p, hp, h⟩ := h
      replace h := bindO_elim h
      obtain ⟨q, hq, h⟩ := h
      obtain ⟨v, r, h1, h2, h3⟩ := max2_sound (P := P) (w := w) false (ev_rep E hp) (ev_rep E hq) h
      have e1 : c.args = #[x, y] := by rw [← Array.toArray_toList (xs := c.args), hx]
      refine ⟨v, r, ?_, h2, h3⟩
      simp only [Bool.false_eq_true, if_false] at h1
      simp [execOp, ho, resolve, hc, invoke, builtin, e1, Builtin.min_, List.foldlM, h1]
    · exact h.elim
  · exact h.elim

theorem valK_sound (E : Env C U V st a) (R : Rel own S0 w0 C U V st w) {o : Oper} {op : Op} (ho : o.op = op) {K : PV → Prop} (h : valK P st op K) :
    ∃ v p, (execOp a.eval o).run P w = .ok (.value v) w ∧ RepV C st.toks U V v p ∧ K p := by
  unfold valK at h
  split at h
  · replace h := bindO_elim h
    obtain ⟨p, hp, h⟩ := h
    exact ⟨_, p, by simp [execOp, ho], ev_rep E hp, h⟩
  · replace h := bindO_elim h
    obtain ⟨p, hp, h⟩ := h
    exact ⟨_, p, by simp [execOp, ho], ev_rep E hp, h⟩
  · replace h := bindO_elim h
    obtain ⟨c, hc, h⟩ := h
    split at h
    · rename_i t
      have ec := (rep_val (ev_rep E hc)).1
      cases t with
      | true =>
        have h1 := h.1 rfl
        replace h1 := bindO_elim h1
        obtain ⟨p, hp, h1⟩ := h1
        exact ⟨_, p, by simp [execOp, ho, ec, asBool], ev_rep E hp, h1⟩
      | false =>
        have h1 := h.2 rfl
        replace h1 := bindO_elim h1
        obtain ⟨p, hp, h1⟩ := h1
        exact ⟨_, p, by simp [execOp, ho, ec, asBool], ev_rep E hp, h1⟩
    · exact h.elim
  · obtain ⟨v, p, h1, h2, h3⟩ := load_sound (P := P) E R h
    exact ⟨v, p, by simp [execOp, ho, h1], h2, h3⟩
  · obtain ⟨v, p, h1, h2, h3⟩ := build_sound (P := P) (w := w) E h
    exact ⟨v, p, by simp only [execOp, ho]; simp only [Sem.run_bind, h1, Result.andThen_ok, Sem.run_pure], h2, h3⟩
  · obtain ⟨v, p, h1, h2, h3⟩ := bin_sound (P := P) (w := w) (yt := 0) E h
    exact ⟨v, p, by simp only [execOp, ho]; rw [Sem.run_bind, h1]; rfl, h2, h3⟩
  · replace h := bindO_elim h
    obtain ⟨p, hp, h⟩ := h
    obtain ⟨v, q, h1, h2, h3⟩ := un_sound (P := P) (w := w) (ev_rep E hp) h
    exact ⟨v, q, by simp [execOp, ho, h1], h2, h3⟩
  · replace h := bindO_elim h
    obtain ⟨p, hp, h⟩ := h
    obtain ⟨v, q, h1, h2, h3⟩ := conv_sound (P := P) (w := w) R.stable (ev_rep E hp) h
    exact ⟨v, q, by simp [execOp, ho, h1], h2, h3⟩
  · obtain ⟨v, p, h1, h2, h3⟩ := slice_sound (P := P) E R h
    exact ⟨v, p, by simp [execOp, ho, h1], h2, h3⟩
  · obtain ⟨v, p, h1, h2, h3⟩ := fieldAddr_sound (P := P) (w := w) E h
    exact ⟨v, p, by simp [execOp, ho, h1], h2, h3⟩
  · obtain ⟨v, p, h1, h2, h3⟩ := field_sound (P := P) (w := w) E h
    exact ⟨v, p, by simp [execOp, ho, h1], h2, h3⟩
  · obtain ⟨v, p, h1, h2, h3⟩ := indexAddr_sound (P := P) E R h
    exact ⟨v, p, by simp [execOp, ho, h1], h2, h3⟩
  · obtain ⟨v, p, h1, h2, h3⟩ := index_sound (P := P) E R h
    exact ⟨v, p, by simp [execOp, ho, h1], h2, h3⟩
  · rename_i x i
    replace h := bindO_elim h
    obtain ⟨p, hp, h⟩ := h
    split at h
    · rename_i cs
      replace h := bindO_elim h
      obtain ⟨q, hq, h⟩ := h
      obtain ⟨vs, ev, hs, hr⟩ := rep_tup (ev_rep E hp)
      have hi : i < vs.size := by rw [hs]; exact (List.getElem?_eq_some_iff.1 hq).1
      have hv : vs[i]? = some vs[i] := Array.getElem?_eq_getElem hi
      exact ⟨vs[i], q, by simp [execOp, ho, Instr.extract, ev, hv], hr i _ q hv hq, h⟩
    · exact h.elim
  · rename_i t x
    replace h := bindO_elim h
    obtain ⟨u, hu, hn, h⟩ := h
    replace h := bindO_elim h
    obtain ⟨p, hp, h⟩ := h
    refine ⟨.iface t (a.eval x), _, ?_, .iface (ev_rep E hp), h⟩
    cases u <;> first | (cases hn; done) | simp [execOp, ho, Instr.makeInterface, run_underlying hu]
  · rename_i f first caps
    obtain ⟨hf, h⟩ := h
    replace h := bindO_elim h
    obtain ⟨cs, hcs, h⟩ := h
    obtain ⟨h1, h2⟩ := evAll_rep E _ _ hcs
    have e1 : first = #[] := by rw [← Array.toArray_toList (xs := first), hf]
    refine ⟨.func (.func f) #[] (caps.map a.eval), _, by simp [execOp, ho, Instr.makeFunc, e1], .fn (by simpa using h1) (fun i v p hv hp => h2 i v p (by simpa using hv) hp), h⟩
  · rename_i x
    replace h := bindO_elim h
    obtain ⟨p, hp, h⟩ := h
    have hr := ev_rep E hp
    split at h
    · obtain ⟨ev, _⟩ := rep_ptr hr
      exact ⟨a.eval x, _, by simp [execOp, ho, ev], hr, h⟩
    · obtain ⟨b, o', ev, _⟩ := rep_fp hr
      exact ⟨a.eval x, _, by simp [execOp, ho, ev], hr, h⟩
    · obtain ⟨vs, ev, _⟩ := rep_fn hr
      exact ⟨a.eval x, _, by simp [execOp, ho, ev], hr, h⟩
    · exact h.elim
  · exact call_sound E ho h
  · exact h.elim
end
end Go.Pw
